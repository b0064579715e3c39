/-
  Contracts of functions of the program, and plain laws: put together of several texts.
-/
import Derived.Test.YtfjmpninmdjcaaaGreatDoorGd
import Derived.Test.YtfjmpninmdjcaaaGreatDoorGa
import Derived.Test.YtfjmpninmdjcaaaGreatDoorGb
import Derived.Test.YtfjmpninmdjcaaaGreatDoorRows
import Derived.Test.YtfjmpninmdjcaaaGreatDoorGc
import Derived.Shelf.Vars
set_option linter.unusedVariables false
set_option linter.unusedSimpArgs false
set_option linter.unusedSectionVars false
set_option linter.defProp false
set_option maxHeartbeats 8000000
set_option maxRecDepth 20000
namespace Go.Proofs.YtfjmpninmdjcaaaGreatDoor

namespace od
open E Go.RowKit eY fm fw fA ez eZ e0 fI fJ fQ gb eL gL gM kZ m3 dm
set_option maxRecDepth 100000 in
theorem de:c3 Tryz.prog 57 5 1 1:=⟨Tryz.underlying57,_,_,rfl,rfl,rfl,rfl,rfl⟩
abbrev mz(x:bP):UInt8:=if x.bz=true then 1 else 0
abbrev ny(x:bP):UInt8:=if x.aj=true then 2 else 0
section
variable {H : Heap} {ad : Addr}
theorem _root_.Go.Proofs.YtfjmpninmdjcaaaGreatDoor.E.b8.tP{x:bP}(h:b8 H ad (dB x)):b8 H ((ad.add 4).add 66) (iR x.q++[x.b9.v]):=by
 have:=h.rh.drop 66;rwa[List.drop_append_of_le_length (by rw[fz];omega),vZ]at this
end
theorem wk(a b:Bool):[((if a=true then 1 else 0)+(if b=true then 2 else 0):UInt8)]=cd 1 ((if a=true then 1 else 0)|||(if b=true then 2 else 0)):=by
 cases a<;>cases b<;>decide+kernel
theorem D0(x:bP)(w0:World)(J:Heap)
 (hm:bM J db 66 x.cN.v x.ml) (F:kX x) (a6:x.ak.length≤140737488355328∧x.q.br.length≤140737488355328):
 aG Tryz.prog w0 118 #[ep x] J (fun r R=>r= .bool false∧aq J R):=by
 refine aG.aN [ep x] Tryz.func118 ?_;intro aJ aH;have A:aq J J:=W.refl _ _;have hm:=hm.b2;have aX:=hm.len;obtain⟨Q,E⟩:∃b,b=(x.aj&&decide (x.q.k≠0)):=⟨_,rfl⟩;have aB:Q=true→x.aj=true∧x.q.k≠0:=fun h=>by rw[E,Bool.and_eq_true,decide_eq_true_eq]at h;exact h
 refine G.L (fun aw=>?_);refine o.aS cY ?_;rintro v1 H1 ⟨rfl,j,B,aN,am⟩;have aS:H1.size=J.size+1:=by rw[am];simp
 have hm:=hm.N B;have A:=A.L B;have aO:=B.size;have j:Var 32 H1 J.size (dB x):=j;refine o.al ?_;refine aw (G.t1 (fun ap=>G.L (fun ae=>?_)));refine o.v1 (Y.an j.O rfl bt rfl dz) ?_;refine o.v1 (au j.O ec) ?_;refine o.aa ?_;refine o.join (d:=11) (v:= .bool false) 5 (fun M=>?_) ?_
 ·
  refine o.split (d:=6) rfl (fun g6=>?_) (fun g6=>?_)
  ·
   have aT:=F.ak (by simpa using g6);refine o.ar (Y.an j.O rfl bt rfl bV) ?_;refine o.ar (au (j.O.drop 1) bR) ?_;refine o.ar (fu dC) ?_;refine o.ar ((eX).fC (by omega)) ?_;refine o.O ?_;exact M _ (congrArg (fun b=>some (Value.bool b)) (by simp[g6])) (ai (ai (ai (ai (ai (bL (congrArg Value.bool g6.symm)))))))
  ·
   refine o.az 5 ?_;exact M _ (congrArg (fun b=>some (Value.bool b)) (by simp[g6])) (ai (ai (ai (ai (ai (bL (congrArg Value.bool g6.symm)))))))
 refine o.aa ?_;refine o.ar (Y.an j.O rfl bt rfl dz) ?_;refine o.ar (au (j.O.drop 3) ec) ?_;refine o.bJ ?_;refine o.join (d:=20) (v:= .bool Q) 5 (fun K=>?_) ?_
 ·
  refine o.split (d:=15) rfl (fun ac=>?_) (fun ac=>?_)
  ·
   refine o.ar (Y.an j.O rfl bt rfl dY) ?_;refine o.ar (Y.an (j.O.drop 4) rfl bN rfl b6) ?_;refine o.ar (au j.O.pw cE) ?_;refine o.ar da ?_;refine o.ar eS ?_;exact K _ (congrArg (fun b=>some (Value.bool b)) (by rw[E];simp[ac])) (ai (ai (ai (ai (ai (bL (congrArg Value.bool ac.symm)))))))
  ·
   refine o.az 4 ?_;refine o.ar er ?_;exact K _ (congrArg (fun b=>some (Value.bool b)) (by rw[E];simp[ac])) (ai (ai (ai (ai (ai (bL (congrArg Value.bool ac.symm)))))))
 refine o.bJ ?_;refine o.join (d:=27) (v:= .bool false) 6 (fun L=>?_) ?_
 ·
  refine o.split (d:=21) rfl (fun k=>?_) (fun k=>?_)
  ·
   have P:=aB (by simpa using k);have aD:=F.jZ P.1 P.2;have aZ:=aD.br;refine o.ar (Y.an j.O rfl bt rfl dY) ?_;refine o.ar (Y.an (j.O.drop 4) rfl bN rfl bV) ?_;refine o.ar (au (j.O.rh.drop 1) bR) ?_;refine o.ar (fu dC) ?_;refine o.ar ((eX).fC (by omega)) ?_;refine o.ar eS ?_;exact L _ (congrArg (fun b=>some (Value.bool b)) (by simp[k])) (ai (ai (ai (ai (ai (ai (bL (congrArg Value.bool k.symm))))))))
  ·
   refine o.az 5 ?_;refine o.ar er ?_;exact L _ (congrArg (fun b=>some (Value.bool b)) (by simp[k])) (ai (ai (ai (ai (ai (ai (bL (congrArg Value.bool k.symm))))))))
 refine o.dy ?_;refine o.nil (ae ?_);refine dK ?_;refine G.skip (ap (G.t1 (fun af=>G.L (fun ag=>?_))));refine o.al ?_;refine ag (G.aD (fun _ ah _=>?_))
 refine G.bc (fun(i:(Nat))=>[(1,.pointer (some ⟨J.size,0,none⟩)),(3,.int .i64 (i:Int))])
  (fun(i:(Nat)) (H:Heap)=>(i≤x.ml.length)∧aq H1 H)
  (fun(i:(Nat))=>x.ml.length-i) 0 ⟨rfl,rfl,trivial⟩ ?_ ?_
 ·
  exact⟨(by omega),W.refl _ _⟩
 intro i aP al aI an ar;obtain⟨aV,n⟩:=al;have hm:=hm.N n;have j:=j.N n;have A:=A.L n;have aQ:=n.size;refine G.t2 (fun ay S=>G.L (fun T=>?_));refine o.aa ?_;refine o.v1 (Y.an j.O rfl bt rfl dO) ?_;refine o.v1 (au (j.O.drop 2) dV) ?_;refine o.v1 (bf hm c9) ?_;refine o.v1 bH (o.nil (T ?_));refine aW (fun U=>?_) (fun U=>?_)
 ·
  refine G.skip (ay (G.t1 (fun X=>G.aD (fun Z _ _=>G.L (fun aa=>?_)))));refine o.v1 (Y.an j.O rfl bt rfl dO) ?_;refine o.v1 (au (j.O.drop 2) dV) ?_;refine o.aa ?_;have az:i<x.ml.length:=by omega
  obtain⟨y,C⟩:∃q,q=x.ml[i]:=⟨_,rfl⟩;have aC:y∈x.ml:=by rw[C];exact List.getElem_mem az
  have a1:=F.iW y aC;refine o.b1 (Y.bU hm (i) rfl c9 dp rfl rfl) fun aL N=>?_;refine o.v1 (Y.an N.O rfl cv rfl bV) ?_;refine o.v1 (Y.cast (v2:=aK y.n) (au (N.O.drop 0) bR) (by rw[C])) ?_;refine o.v1 (fu dC) ?_;refine o.v1 ((eX).fC (by omega)) ?_;refine o.aa ?_;refine o.ar (Y.an j.O rfl bt rfl dO) ?_;refine o.ar (au (j.O.drop 2) dV) ?_;refine o.bJ ?_;refine o.e (g:=fun ad=> .pointer (some ad)) (Y.bU hm (i) rfl c9 dp rfl rfl) bo rfl rfl (fun aM O=>?_);refine o.ar (Y.an O.O rfl cv rfl bV) ?_;refine o.ar (Y.cast (v2:=aK y.y) (au (O.O.nL) bR) (by rw[C])) ?_;refine o.ar (fu dC) ?_;refine o.ar ((eX).fC (by omega)) ?_;refine o.dy ?_;refine o.nil (aa ?_);refine dK ?_;refine G.skip (Z (X (G.region ?_)));refine o.aa ?_;refine o.v1 bD ?_;refine o.al ?_;refine aR.sub (an (i+1) _ ?_ ?_) ⟨rfl,(aF (by omega)),trivial⟩
  ·exact⟨(by omega),n⟩
  ·first|omega|(simp only;omega)|(simp;omega)
 ·
  refine G.exit (S (ar (ah ?_)));refine af (G.L (fun ab=>?_));refine o.al ?_;refine ab ?_;refine G.ret (aH ?_);exact⟨rfl,A⟩
set_option maxHeartbeats 1600000 in
theorem CE(x:bP)(F:Nat→Prop)(w0:World)(J:Heap)
 (n:eU F J x) (Q:bk F J.size) (L:kX x) (fE:x.ak.length≤140737488355328∧x.q.br.length≤140737488355328):
 aG Tryz.prog w0 44 #[ep x] J (fun r bU=>∃s2:aO,∃a7:Nat,r= .tuple #[s2.v,.int .i64 0]∧(aU a7 5 bU a6 1 s2.v (e2 x))∧(U 0 J.size a7)∧aq J bU):=by
 refine aG.aN [ep x] Tryz.func44 ?_;intro fF fC;have A:aq J J:=W.refl _ _;have gJ:=n.m.len;have gH:=n.e.len;have aN:=L.ml;have gG:=L.el;have fy:=pe L;obtain⟨c7,bQ⟩:∃b,b=(x.aj&&decide (x.q.k≠0)):=⟨_,rfl⟩;have fx:c7=true→x.aj=true∧x.q.k≠0:=fun h=>by rw[bQ,Bool.and_eq_true,decide_eq_true_eq]at h;exact h
 refine G.L (fun ed=>?_);refine o.aS cY ?_;rintro v1 H1 ⟨rfl,j,bK,fY,ee⟩;have fI:H1.size=J.size+1:=by rw[ee];simp
 have n:=n.N bK;have A:=A.L bK;have f_:=bK.size;have j:Var 32 H1 J.size (dB x):=j;refine o.aP 2 ?_;refine ed (G.t1 (fun du=>G.L (fun ef=>?_)));refine o.v1 (Y.an j.O rfl bt rfl dO) ?_;refine o.v1 (au (j.O.drop 2) dV) ?_;refine o.v1 (bf n.m c9) ?_;refine o.v1 ((eX).fC (by omega)) ?_;refine o.aa ?_;refine o.ar (Y.an j.O rfl bt rfl dT) ?_;refine o.ar (au j.O.gU eA) ?_;refine o.ar (bf n.e cA) ?_;refine o.ar ((eX).fC (by omega)) ?_;refine o.az 2 ?_;refine o.ar (Y.an j.O rfl bt rfl dz) ?_;refine o.ar (au (j.O.drop 3) ec) ?_;refine o.bJ ?_;refine o.join (d:=27) (v:= .bool c7) 5 (fun bW=>?_) ?_
 ·
  refine o.split (d:=22) rfl (fun a5=>?_) (fun a5=>?_)
  ·
   refine o.ar (Y.an j.O rfl bt rfl dY) ?_;refine o.ar (Y.an (j.O.drop 4) rfl bN rfl b6) ?_;refine o.ar (au j.O.pw cE) ?_;refine o.ar da ?_;refine o.ar eS ?_;exact bW _ (congrArg (fun b=>some (Value.bool b)) (by rw[bQ];simp[a5])) (ai (ai (ai (ai (ai (bL (congrArg Value.bool a5.symm)))))))
  ·
   refine o.az 4 ?_;refine o.ar er ?_;exact bW _ (congrArg (fun b=>some (Value.bool b)) (by rw[bQ];simp[a5])) (ai (ai (ai (ai (ai (bL (congrArg Value.bool a5.symm)))))))
 refine o.bJ ?_;refine o.join (d:=34) (v:= .bool false) 6 (fun bX=>?_) ?_
 ·
  refine o.split (d:=28) rfl (fun a0=>?_) (fun a0=>?_)
  ·
   have C:=fx (by simpa using a0);have fA:=L.jZ C.1 C.2;have gN:=fA.ba;refine o.ar (Y.an j.O rfl bt rfl dY) ?_;refine o.ar (Y.an (j.O.drop 4) rfl bN rfl e4) ?_;refine o.ar (au j.O.tP fU) ?_;refine o.ar (bf n.q fZ) ?_;refine o.ar ((eX).fC (by omega)) ?_;refine o.ar eS ?_;exact bX _ (congrArg (fun b=>some (Value.bool b)) (by simp[a0])) (ai (ai (ai (ai (ai (ai (bL (congrArg Value.bool a0.symm))))))))
  ·
   refine o.az 5 ?_;refine o.ar er ?_;exact bX _ (congrArg (fun b=>some (Value.bool b)) (by simp[a0])) (ai (ai (ai (ai (ai (ai (bL (congrArg Value.bool a0.symm))))))))
 refine o.dy ?_;refine o.nil (ef ?_);refine dK ?_;refine G.skip (du (G.t1 (fun eg=>G.L (fun eh=>?_))));refine o.v1 (a_ j.O gz fj (dX _)) ?_;refine aV AL (D0 x w0 _ n.m.any L fE) (fun ga bM cB=>?_);obtain⟨rfl,aS⟩:=cB;have n:=n.N aS;have j:=j.N aS;have A:=A.L aS;have gb:=aS.size;refine o.nil (eh ?_);refine dK ?_;refine G.skip (eg (G.L (fun ei=>?_)));refine o.al ?_;refine ei ?_
 refine G.cut (fun(_:Unit)=>[(1,.pointer (some ⟨J.size,0,none⟩)),(4,.int .u8 (mz x).toNat)])
  (fun(_:Unit) (H:Heap)=>(True)∧aq bM H) (fun _ cV _=>?_) ?_
 ·
  have bY:aq bM bM:=W.refl _ _;refine G.L (fun ej=>?_);refine o.v1 (Y.an j.O rfl bt rfl dz) ?_;refine o.v1 (au j.O ec) (o.nil (ej ?_));refine cL (fun eM=>?_) (fun eM=>?_)
  ·
   refine G.region ?_;refine o.al ?_;refine aR.sub (cV () _ ?_) ⟨rfl,(by first|(rw[mz,if_pos (by assumption)];rfl)|(rw[mz,if_neg (by simp_all)];rfl)),trivial⟩;exact⟨trivial,bY⟩
  ·
   refine G.skip ?_;refine aR.sub (cV () _ ?_) ⟨rfl,(by first|(rw[mz,if_pos (by assumption)];rfl)|(rw[mz,if_neg (by simp_all)];rfl)),trivial⟩;exact⟨trivial,bY⟩
 ·
  intro _ bF df;obtain⟨fD,bb⟩:=df;have n:=n.N bb;have j:=j.N bb;have A:=A.L bb;have gd:=bb.size
  refine G.cut (fun(_:Unit)=>[(1,.pointer (some ⟨J.size,0,none⟩)),(4,.int .u8 (mz x+ny x).toNat)])
   (fun(_:Unit) (H:Heap)=>(True)∧aq bF H) (fun _ cW _=>?_) ?_
  ·
   have bZ:aq bF bF:=W.refl _ _;refine G.L (fun dG=>?_);refine o.v1 (Y.an j.O rfl bt rfl dz) ?_;refine o.v1 (au (j.O.drop 3) ec) (o.nil (dG ?_));refine cL (fun fi=>?_) (fun fi=>?_)
   ·
    refine G.region ?_;refine o.aa ?_;refine o.v1 (Y.ux (b:=(UInt8.ofNat 2)) rfl rfl rfl) ?_;refine o.al ?_;refine aR.sub (cW () _ ?_) ⟨rfl,(by first|(rw[ny,if_pos (by assumption)];rfl)|(rw[ny,if_neg (by simp_all),UInt8.add_zero];rfl)),trivial⟩;exact⟨trivial,bZ⟩
   ·
    refine G.skip ?_;refine aR.sub (cW () _ ?_) ⟨rfl,(by first|(rw[ny,if_pos (by assumption)];rfl)|(rw[ny,if_neg (by simp_all),UInt8.add_zero];rfl)),trivial⟩;exact⟨trivial,bZ⟩
  ·
   intro _ ac c_;obtain⟨fD,bc⟩:=c_;have n:=n.N bc;have j:=j.N bc;have A:=A.L bc;have gf:=bc.size;refine G.L (fun dH=>?_);refine o.aa ?_;refine o.aS (cS _ ([mz x+ny x]) de et fB (rfl)) fun cX X bj=>?_;obtain⟨k,aT,dW,dJ⟩:=bj;have fJ:X.size=ac.size+1:=by rw[dJ];simp
   have c0:=(ax.new (Q.mono A.size):ax _ (ac.size+1));have c1:af (J.size+1) (ac.size+1):=af.new j.lt;have c2:U 0 J.size (ac.size+1):=U.new A.size;have n:=n.N aT;have j:=j.N aT;have A:=A.L aT;have gg:=aT.size;obtain⟨dd,rfl⟩:∃s:aO,cX=s.v:=⟨cm cX,k.bm.symm⟩;refine o.al ?_;refine dH ?_
   refine G.cut (fun(aa:(aO)×(Nat))=>match aa with|(s1,an)=>[(1,.pointer (some ⟨J.size,0,none⟩)),(5,s1.v)])
    (fun(s1,an) (H:Heap)=>(aU an 5 H a6 1 s1.v (iX x))∧(U (ac.size+1) X.size an)∧W (aB [(ac.size+1)]) X H) (fun _ b0 _=>?_) ?_
   ·
    have ap:W (aB [(ac.size+1)]) X X:=W.refl _ _;have bB:=U.refl (ac.size+1) X.size;refine G.L (fun dL=>?_);refine o.v1 (Y.an j.O rfl bt rfl dz) ?_;refine o.v1 (au j.O ec) (o.nil (dL ?_));refine cL (fun bm=>?_) (fun bm=>?_)
    ·
     refine G.region ?_;refine o.aa ?_;refine o.v1 (Y.an j.O rfl bt rfl bV) ?_;refine o.v1 (au (j.O.drop 1) bR) ?_;refine aV oD (tJ _ _ _ x.ak w0 _ k (by simp) (by have:=L.ak bm;omega)) (fun gi gj fk=>?_);obtain⟨gB,c3,rfl,k,dM,a9⟩:=fk;have dN:U (ac.size+1) X.size c3:=U.L (bB) dM ap.size;have ap:=ap.aL a9 (ah.I (ao.r bB));have gl:=a9.size;have M:=k.le;refine o.aa ?_;refine o.v1 cF ?_;refine o.v1 cF ?_;refine o.al ?_;refine aR.sub (b0 (gB,c3) _ ?_) ⟨rfl,rfl,trivial⟩;exact⟨(by rw[iX,if_pos bm,qo,←wk];exact k),dN,ap⟩
    ·
     refine G.skip ?_;refine aR.sub (b0 (dd,(ac.size+1)) _ ?_) ⟨rfl,rfl,trivial⟩;exact⟨(by rw[iX,if_neg (by simp[bm]),List.append_nil,qo,←wk];exact k),bB,ap⟩
   ·
    rintro⟨s1,an⟩ fG db;obtain⟨k,E,aw⟩:=db;have ca:=ax.app (c0) (Q.mono A.size) E;have cu:af (J.size+1) an:=af.app (c1) j.lt E;have cx:U 0 J.size an:=U.L (c2) E A.size;have n:=n.ae aw (ay.I c0);have j:=j.ae aw (ag.I c1);have A:=A.bx aw (ah.I (ao.q c2));have gm:=aw.size;have M:=k.le;refine G.L (fun dP=>?_);refine o.aa ?_;refine o.v1 (Y.an j.O rfl bt rfl dO) ?_;refine o.v1 (au (j.O.drop 2) dV) ?_;refine o.v1 (bf n.m c9) ?_;refine o.v1 (Y.hq rfl gk gV rfl) ?_;refine aV lO (dm.lX _ _ _ 2 _ w0 _ k (by decide) (by omega)) (fun bO a2 fl=>?_);have dQ:=j.lt;obtain⟨bO,R,rfl,k,bu,aX⟩:=fl;have cz:=ax.app (ca) (Q.mono A.size) bu;have bT:af (J.size+1) R:=af.app (cu) dQ bu;have be:U 0 J.size R:=U.L (cx) bu A.size;have n:=n.ae aX (ay.I ca);have j:=j.ae aX (ag.I cu);have A:=A.bx aX (ah.I (ao.q cx));have gn:=aX.size;have M:=k.le;obtain⟨fm,rfl⟩:∃s:aO,bO=s.v:=⟨cm bO,k.bm.symm⟩;refine o.al ?_;refine dP (G.t1 (fun dS=>G.L (fun dh=>?_)));refine o.al ?_;refine dh (G.aD (fun _ di _=>?_))
    refine G.bc (fun(aa:(Nat)×(aO)×(Nat))=>match aa with|(i,ar,N)=>[(1,.pointer (some ⟨J.size,0,none⟩)),(5,ar.v),(6,.int .i64 (i:Int))])
     (fun(i,ar,N) (H:Heap)=>(i≤x.ml.length)∧(aU N 5 H a6 1 ar.v ((iX x++cd 2 (UInt64.ofNat x.ml.length)++(x.ml.take i).flatMap iD)))∧(U R a2.size N)∧W (aB [R]) a2 H)
     (fun(i,ar,N)=>x.ml.length-i) (0,fm,R) ⟨rfl,rfl,rfl,trivial⟩ ?_ ?_
    ·
     exact⟨(by omega),(by simpa using k),U.refl _ _,W.refl _ _⟩
    rintro⟨i,ar,N⟩ a3 fo gp dj dk;obtain⟨fu,k,E,K⟩:=fo;have aC:=ax.app (cz) (Q.mono A.size) E;have aZ:af (J.size+1) N:=af.app (bT) j.lt E;have bx:U 0 J.size N:=U.L (be) E A.size;have n:=n.ae K (ay.I cz);have j:=j.ae K (ag.I bT);have A:=A.bx K (ah.I (ao.q be));have gr:=K.size;have M:=k.le;have b5:=E;have fw:=sP L i;have c6:(iX x++cd 2 (UInt64.ofNat x.ml.length)++(x.ml.take i).flatMap iD).length≤4400000000:=by simp only[List.length_append,dI];omega
    refine G.t2 (fun dq dr=>G.L (fun dt=>?_));refine o.aa ?_;refine o.v1 (Y.an j.O rfl bt rfl dO) ?_;refine o.v1 (au (j.O.drop 2) dV) ?_;refine o.v1 (bf n.m c9) ?_;refine o.v1 bH (o.nil (dt ?_));refine aW (fun fp=>?_) (fun fp=>?_)
    ·
     refine G.skip (dq (G.t1 (fun dw=>G.aD (fun dx _ _=>G.L (fun dy=>?_)))));refine o.aa ?_;refine o.v1 (Y.an j.O rfl bt rfl dO) ?_;refine o.v1 (au (j.O.drop 2) dV) ?_;refine o.aa ?_;have aQ:i<x.ml.length:=by omega
     obtain⟨y,O⟩:∃q,q=x.ml[i]:=⟨_,rfl⟩;have bo:y∈x.ml:=by rw[O];exact List.getElem_mem aQ
     have gM:=L.iW y bo;refine o.b1 (Y.bU n.m (i) rfl c9 dp rfl rfl) fun gv cC=>?_;refine o.v1 (Y.an cC.O rfl cv rfl bV) ?_;refine o.v1 (Y.cast (v2:=aK y.n) (au (cC.O.drop 0) bR) (by rw[O])) ?_;refine aV oD (tJ _ _ _ y.n w0 _ k (by omega) (by omega)) (fun d0 aP dl=>?_);have dU:=j.lt;obtain⟨d1,a4,rfl,k,bz,aH⟩:=dl;have ae:=ax.app (aC) (Q.mono A.size) bz;have al:af (J.size+1) a4:=af.app (aZ) dU bz;have bi:U R a2.size a4:=U.L (b5) bz K.size;have n:=n.ae aH (ay.I aC);have j:=j.ae aH (ag.I aZ);have A:=A.bx aH (ah.I (ao.q bx));have K:=K.aL aH (ah.I (ao.r b5));have cy:=aH.size;have M:=k.le;refine o.aa ?_;refine o.v1 cF ?_;refine o.v1 cF ?_;refine o.al ?_;refine dy (G.t1 (fun eN=>?_));refine dg (fun P=>W (aB [a4]) aP P) [] ?_;have B:W (aB [a4]) aP aP:=W.refl _ _;have cD:=U.refl a4 aP.size;refine T.aa 0 rfl B ?_;refine T.t1 1 rfl (fun P C=>Y.fieldAddr (j.ae C (ag.I al)).O rfl bt rfl rfl dO (by decide) rfl) B ?_;refine T.t1 2 rfl (fun P C=>au ((j.ae C (ag.I al)).O.drop 2) dV) B ?_;refine T.aa 3 rfl B ?_;refine T.e (g:=fun ad=> .pointer (some ad)) 4 (by kernel_rfl) rfl (by kernel_rfl) (by kernel_rfl) (by kernel_rfl) (Y.bU n.m (i) rfl c9 dp rfl rfl) cM rfl rfl B (fun dn aD=>?_);refine T.t1 5 rfl (fun P C=>Y.fieldAddr (aD.ae C (ay.I ae)).O rfl cv rfl rfl bd (by decide) rfl) B ?_;refine T.t1 6 rfl (fun P C=>Y.cast (v2:=bs y.I) (a_ (((aD.ae C (ay.I ae)).O.drop 1).take 32) cj bd (by rw[hs];exact bC _)) ((by rw[O];exact cn (hs _)))) B ?_;refine T.t1 8 rfl (fun P C=>Y.fieldAddr (j.ae C (ag.I al)).O rfl bt rfl rfl dO (by decide) rfl) B ?_;refine T.t1 9 rfl (fun P C=>au ((j.ae C (ag.I al)).O.drop 2) dV) B ?_;refine T.aa 10 rfl B ?_;refine T.e (g:=fun ad=> .pointer (some ad)) 11 (by kernel_rfl) rfl (by kernel_rfl) (by kernel_rfl) (by kernel_rfl) (Y.bU n.m (i) rfl c9 dp rfl rfl) cM rfl rfl B (fun gw cG=>?_);refine T.t1 12 rfl (fun P C=>Y.fieldAddr (cG.ae C (ay.I ae)).O rfl cv rfl rfl bd (by decide) rfl) B ?_;refine T.t1 13 rfl (fun P C=>Y.cast (v2:=bs y.w) (a_ (((cG.ae C (ay.I ae)).O.drop 33).take 32) cj bd (by rw[fe];exact bC _)) ((by rw[O];exact cn (fe _)))) B ?_;refine T.aX 7 ?_;refine b7 ng (nT _ _ _ y.I w0 _ k (by rw[List.length_append,ha];omega)) (fun d2 bn fq=>?_);have eP:=j.lt;obtain⟨d3,ab,rfl,k,a1,aI⟩:=fq;have eR:=ax.app (ae) (Q.mono A.size) a1;have eT:af (J.size+1) ab:=af.app (al) eP a1;have cH:U R a2.size ab:=U.L (bi) a1 K.size;have ce:U a4 aP.size ab:=U.L (cD) a1 B.size;have n:=n.ae aI (ay.I ae);have j:=j.ae aI (ag.I al);have K:=K.aL aI (ah.I (ao.r bi));have B:=B.aL aI (ah.I (ao.r cD));have e_:=aI.size;have M:=k.le;refine T.bZ B (ah.I (ao.r ce)) ?_;have B:W (aB [ab]) bn bn:=W.refl _ _;have cJ:=U.refl ab bn.size;refine T.aX 14 ?_;refine b7 ng (nT _ _ _ y.w w0 _ k (by rw[List.length_append,List.length_append,ha,y.I.2];omega)) (fun d4 c5 ds=>?_);obtain⟨d5,bJ,rfl,k,cK,aJ⟩:=ds;have cO:U R a2.size bJ:=U.L (cH) cK K.size;have eV:U ab bn.size bJ:=U.L (cJ) cK B.size;have n:=n.ae aJ (ay.I eR);have j:=j.ae aJ (ag.I eT);have K:=K.aL aJ (ah.I (ao.r cH));have B:=B.aL aJ (ah.I (ao.r cJ));have gx:=aJ.size;have M:=k.le;refine T.bZ B (ah.I (ao.r eV)) ?_;have B:W (aB [bJ]) c5 c5:=W.refl _ _;refine T.t1 15 rfl (fun P C=>e5) B ?_;refine cI ?_;refine eN (G.region ?_);refine o.aa ?_;refine o.v1 (Y.an j.O rfl bt rfl dO) ?_;refine o.v1 (au (j.O.drop 2) dV) ?_;refine o.aa ?_;refine o.b1 (Y.bU n.m (i) rfl c9 dp rfl rfl) fun gy cP=>?_;refine o.v1 (Y.an cP.O rfl cv rfl bV) ?_;refine o.v1 (Y.cast (v2:=aK y.y) (au (cP.O.nL) bR) (by rw[O])) ?_;refine aV oD (Ha _ _ _ y.y w0 _ k (by rw[List.length_append,List.length_append,List.length_append,ha,y.I.2,y.w.2];omega) (by omega)) (fun gA gC dR=>?_);obtain⟨ci,cQ,rfl,k,dZ,b1⟩:=dR;have eW:U R a2.size cQ:=U.L (cO) dZ K.size;have K:=K.aL b1 (ah.I (ao.r cO));have gD:=b1.size;have M:=k.le;refine o.aa ?_;refine o.v1 cF ?_;refine o.v1 cF ?_;refine o.al ?_;refine dx (dw (G.region ?_));refine o.aa ?_;refine o.v1 bD ?_;refine o.al ?_;refine aR.sub (dj (i+1,ci,cQ) _ ?_ ?_) ⟨rfl,rfl,(aF (by omega)),trivial⟩
     ·exact⟨(by omega),(by rw[nz aQ,←O,iD];simpa only[List.append_assoc]using k),eW,K⟩
     ·first|omega|(simp only;omega)|(simp;omega)
    ·
     obtain rfl:i=x.ml.length:=by omega
     rw[List.take_length]at k c6;have fy:=pe L;refine G.exit (dr (dk (di ?_)));refine dS ?_
     refine G.cut (fun(aa:(aO)×(Nat))=>match aa with|(bp,hV)=>[(1,.pointer (some ⟨J.size,0,none⟩)),(5,bp.v)])
      (fun(bp,hV) (H:Heap)=>(aU hV 5 H a6 1 bp.v (iV x))∧(U N a3.size hV)∧W (aB [N]) a3 H) (fun _ bv _=>?_) ?_
     ·
      have aM:W (aB [N]) a3 a3:=W.refl _ _;have bE:=U.refl N a3.size;refine G.L (fun eY=>?_);refine o.v1 (Y.an j.O rfl bt rfl dz) ?_;refine o.v1 (au (j.O.drop 3) ec) (o.nil (eY ?_));refine cL (fun aL=>?_) (fun aL=>?_)
      ·
       refine G.L (fun eZ=>?_);refine o.al ?_;refine eZ (G.L (fun e0=>?_));refine o.aa ?_;refine o.v1 (Y.an j.O rfl bt rfl dY) ?_;refine o.v1 (Y.cast (v2:=gu x.q) (a_ ((j.O.drop 4).take 70) j9 dY (by rw[jK];exact fz _)) (cn (jK x))) ?_;refine aV AM (Gp _ _ _ x.q F w0 _ k (by omega) n.q (Q.mono A.size) (aC) (L.kF aL) (L.jZ aL)) (fun gE gF e1=>?_);obtain⟨co,cR,rfl,k,ea,b2⟩:=e1;have e3:U N a3.size cR:=U.L (bE) ea aM.size;have aM:=aM.aL b2 (ah.I (ao.r bE));have fM:=b2.size;have M:=k.le;refine o.aa ?_;refine o.v1 cF ?_;refine o.v1 cF ?_;refine o.aP 2 ?_;refine e0 (G.L (fun e6=>?_));refine o.aa ?_;refine o.v1 eG (o.nil (e6 ?_));refine dK ?_;refine G.skip ?_;refine aR.sub (bv (co,cR) _ ?_) ⟨rfl,rfl,trivial⟩;exact⟨(by rw[iV,if_pos aL];exact k),e3,aM⟩
      ·
       refine G.skip ?_;refine aR.sub (bv (ar,N) _ ?_) ⟨rfl,rfl,trivial⟩;exact⟨(by rw[iV,if_neg (by simp[aL]),List.append_nil];exact k),bE,aM⟩
     ·
      rintro⟨bp,hV⟩ fH dc;obtain⟨k,E,ba⟩:=dc;have cb:=ax.app (aC) (Q.mono A.size) E;have cc:af (J.size+1) hV:=af.app (aZ) j.lt E;have cf:U 0 J.size hV:=U.L (bx) E A.size;have n:=n.ae ba (ay.I aC);have j:=j.ae ba (ag.I aZ);have A:=A.bx ba (ah.I (ao.q bx));have fN:=ba.size;have M:=k.le;refine G.L (fun e7=>?_);refine o.aa ?_;refine o.v1 (Y.an j.O rfl bt rfl dT) ?_;refine o.v1 (au j.O.gU eA) ?_;refine o.v1 (bf n.e cA) ?_;refine o.v1 (Y.hq rfl gk gV rfl) ?_;refine aV lO (dm.lX _ _ _ 2 _ w0 _ k (by decide) (by have:=qH L;omega)) (fun bA a8 cs=>?_);have e8:=j.lt;obtain⟨bA,Z,rfl,k,bq,bg⟩:=cs;have cg:=ax.app (cb) (Q.mono A.size) bq;have ck:af (J.size+1) Z:=af.app (cc) e8 bq;have cl:U 0 J.size Z:=U.L (cf) bq A.size;have n:=n.ae bg (ay.I cb);have j:=j.ae bg (ag.I cc);have A:=A.bx bg (ah.I (ao.q cf));have fO:=bg.size;have M:=k.le;obtain⟨bw,rfl⟩:∃s:aO,bA=s.v:=⟨cm bA,k.bm.symm⟩;refine o.al ?_;refine e7 (G.t1 (fun cZ=>G.L (fun e9=>?_)));refine o.al ?_;refine e9 (G.aD (fun _ fc _=>?_))
      refine G.bc (fun(aa:(Nat)×(aO)×(Nat))=>match aa with|(i,az,S)=>[(1,.pointer (some ⟨J.size,0,none⟩)),(5,az.v),(8,.int .i64 (i:Int))])
       (fun(i,az,S) (H:Heap)=>(i≤x.el.length)∧(aU S 5 H a6 1 az.v (iV x++cd 2 (UInt64.ofNat x.el.length)++(x.el.take i).flatMap iC))∧(U Z a8.size S)∧W (aB [Z]) a8 H)
       (fun(i,az,S)=>x.el.length-i) (0,bw,Z) ⟨rfl,rfl,rfl,trivial⟩ ?_ ?_
      ·
       exact⟨(by omega),(by simpa using k),U.refl _ _,W.refl _ _⟩
      rintro⟨i,az,S⟩ d6 fh d7 ff fg;obtain⟨fu,k,E,am⟩:=fh;have ek:=ax.app (cg) (Q.mono A.size) E;have eo:af (J.size+1) S:=af.app (ck) j.lt E;have eu:U 0 J.size S:=U.L (cl) E A.size;have n:=n.ae am (ay.I cg);have j:=j.ae am (ag.I ck);have A:=A.bx am (ah.I (ao.q cl));have fP:=am.size;have M:=k.le;have cp:=E;have fw:=vI L i;have gK:=qH L;have gI:=L.el;have c6:(iV x++cd 2 (UInt64.ofNat x.el.length)++(x.el.take i).flatMap iC).length≤8800000000:=by simp only[List.length_append,dI];omega
      refine G.t2 (fun ev ew=>G.L (fun ey=>?_));refine o.aa ?_;refine o.v1 (Y.an j.O rfl bt rfl dT) ?_;refine o.v1 (au j.O.gU eA) ?_;refine o.v1 (bf n.e cA) ?_;refine o.v1 bH (o.nil (ey ?_));refine aW (fun ez=>?_) (fun ez=>?_)
      ·
       refine G.skip (ev (G.t1 (fun eB=>G.aD (fun eC _ _=>G.L (fun eD=>?_)))));refine o.aa ?_;refine o.v1 (Y.an j.O rfl bt rfl dT) ?_;refine o.v1 (au j.O.gU eA) ?_;refine o.aa ?_;have aQ:i<x.el.length:=by omega
       obtain⟨y,O⟩:∃q,q=x.el[i]:=⟨_,rfl⟩;have bo:y∈x.el:=by rw[O];exact List.getElem_mem aQ
       have gL:=L.md y bo;refine o.b1 (Y.bU n.e (i) rfl cA cr rfl rfl) fun fK b3=>?_;refine o.v1 (Y.an b3.O rfl fr rfl bd) ?_;refine o.v1 (Y.cast (v2:=bs y.k) (a_ ((b3.O.drop 0).take 32) cj bd (by rw[fa];exact bC _)) ((by rw[O];exact cn (fa _)))) ?_;refine aV ng (nT _ _ _ y.k w0 _ k (by omega)) (fun fQ fR eE=>?_);obtain⟨fS,eF,rfl,k,dA,bl⟩:=eE;have cq:U Z a8.size eF:=U.L (cp) dA am.size;have n:=n.ae bl (ay.I ek);have j:=j.ae bl (ag.I eo);have am:=am.aL bl (ah.I (ao.r cp));have fT:=bl.size;have M:=k.le;refine o.al ?_;refine eD (G.region ?_);refine o.aa ?_;refine o.v1 (Y.an j.O rfl bt rfl dT) ?_;refine o.v1 (au j.O.gU eA) ?_;refine o.aa ?_;refine o.b1 (Y.bU n.e (i) rfl cA cr rfl rfl) fun fL b8=>?_;refine o.v1 (Y.an b8.O rfl fr rfl c8) ?_;refine o.v1 (Y.cast (v2:=y.v.v) (au (b8.O.jR) eI) (by rw[O])) ?_;refine o.v1 (Y.nd (n.d y bo) rfl Tryz.underlying57 Tryz.underlying9 Tryz.underlying5 rfl) ?_;refine aV oD (Hb _ _ _ y.d w0 _ k (by rw[List.length_append,y.k.2];omega) (by omega)) (fun fV fW eH=>?_);obtain⟨eJ,ct,rfl,k,dC,b9⟩:=eH;have eK:U Z a8.size ct:=U.L (cq) dC am.size;have am:=am.aL b9 (ah.I (ao.r cq));have fX:=b9.size;have M:=k.le;refine o.aa ?_;refine o.v1 cF ?_;refine o.v1 cF ?_;refine o.al ?_;refine eC (eB (G.region ?_));refine o.aa ?_;refine o.v1 bD ?_;refine o.al ?_;refine aR.sub (ff (i+1,eJ,ct) _ ?_ ?_) ⟨rfl,rfl,(aF (by omega)),trivial⟩
       ·exact⟨(by omega),(by rw[nz aQ,←O,iC];simpa only[List.append_assoc]using k),eK,am⟩
       ·first|omega|(simp only;omega)|(simp;omega)
      ·
       obtain rfl:i=x.el.length:=by omega
       rw[List.take_length]at k;refine G.exit (ew (fg (fc ?_)));refine cZ (G.L (fun eL=>?_));refine o.aP 3 ?_;refine eL ?_;refine G.ret (fC ?_);exact⟨az,S,rfl,by rw[vL];exact k,eu,A⟩
end od

namespace lD
open E Go.RowKit eY fm fw fA ez eZ e0 fI fJ fQ gb eL gL gM kZ m3 od dm
def fX(l:List bn):Nat:=(l.map (fun m=>m.n.length+m.y.length)).sum
def hh(l:List bu):Nat:=(l.map (fun x=>x.d.length)).sum
theorem EJ{l:List bn}{i:Nat}(h:i<l.length):fX (l.take (i+1))=fX (l.take i)+(l[i].n.length+l[i].y.length):=by
 unfold fX;rw[List.take_succ_eq_append_getElem h,List.map_append,List.sum_append];simp only[List.map_cons,List.map_nil,List.sum_cons,List.sum_nil,Nat.add_zero]
theorem EH{l:List bu}{i:Nat}(h:i<l.length):hh (l.take (i+1))=hh (l.take i)+l[i].d.length:=by
 unfold hh;rw[List.take_succ_eq_append_getElem h,List.map_append,List.sum_append];simp only[List.map_cons,List.map_nil,List.sum_cons,List.sum_nil,Nat.add_zero]
structure pL (t:bP):Prop where
 ak:t.ak.length≤140737488355328
 br:t.q.br.length≤140737488355328
 cN:∀m∈t.ml,m.n.length≤140737488355328∧m.y.length≤140737488355328
 md:∀x∈t.el,x.d.length≤140737488355328
def lg(t:bP):Nat:=t.ak.length+t.q.br.length+fX t.ml+hh t.el
def hc(t:bP):Prop:=lg t<20000∧t.ml.length<40∧t.el.length<40∧t.q.ba.length<200
instance (t:bP):Decidable (hc t):=by unfold hc;exact inferInstance
theorem EK{l:List bn}(h:∀m∈l,m.n.length≤140737488355328∧m.y.length≤140737488355328):fX l≤281474976710656*l.length:=by
 induction l with
 |nil=>simp[fX]
 |cons x l ih=>
  have d:=h x List.mem_cons_self;have V:=ih (fun m hm=>h m (List.mem_cons_of_mem _ hm));unfold fX at V⊢;simp only[List.map_cons,List.sum_cons,List.length_cons];omega
theorem EI{l:List bu}(h:∀x∈l,x.d.length≤140737488355328):hh l≤140737488355328*l.length:=by
 induction l with
 |nil=>simp[hh]
 |cons x l ih=>
  have d:=h x List.mem_cons_self;have V:=ih (fun m hm=>h m (List.mem_cons_of_mem _ hm));unfold hh at V⊢;simp only[List.map_cons,List.sum_cons,List.length_cons];omega
theorem sX:∀{l:List bn} {m:bn},m∈l→m.n.length+m.y.length≤fX l
 |x::l,m,h=>by
  unfold fX;simp only[List.map_cons,List.sum_cons];rcases List.mem_cons.1 h with rfl|h
  ·omega
  ·have:=sX h;unfold fX at this;omega
theorem sW:∀{l:List bu} {x:bu},x∈l→x.d.length≤hh l
 |y::l,x,h=>by
  unfold hh;simp only[List.map_cons,List.sum_cons];rcases List.mem_cons.1 h with rfl|h
  ·omega
  ·have:=sW h;unfold hh at this;omega
theorem xo:∀(l:List bn),(l.flatMap iD).length=67*l.length+fX l
 |[]=>rfl
 |x::l=>by
  have:=xo l;rw[List.flatMap_cons,List.length_append,nM,this];unfold fX;simp only[List.map_cons,List.sum_cons,List.length_cons];omega
theorem xe:∀(l:List bu),(l.flatMap iC).length=36*l.length+hh l
 |[]=>rfl
 |x::l=>by
  have:=xe l;rw[List.flatMap_cons,List.length_append,xc,this];unfold hh;simp only[List.map_cons,List.sum_cons,List.length_cons];omega
theorem GM(q:c5):(j0 q).length≤100+q.br.length+33*q.ba.length:=by
 have d:=mA (f:=j1) (n:=33) (l:=q.ba) (fun x _=>by rw[rb];omega);unfold j0;split<;>simp only[List.length_append,dI,ha,q.cc.2,q.bw.2,List.length_nil]<;>omega
theorem v_{t:bP}(h:hc t):(e2 t).length≤31000:=by
 obtain⟨i,V,k,n⟩:=h;have aN:=xo t.ml;have d:=xe t.el;have j:=GM t.q;unfold lg at i;unfold e2;simp only[List.length_append,dI,aN,d];split<;>split<;>simp only[List.length_append,dI,ha,List.length_nil]<;>omega
theorem qj{t:bP}(h:hc t):lG t:=by
 have k:=v_ h;obtain⟨d,V,i,j⟩:=h;unfold lg at d;exact⟨by omega,by omega,fun m hm=>by have:=sX hm;omega,fun m hm=>by have:=sX hm;omega,by omega,by omega,by omega,by omega⟩
set_option maxHeartbeats 1600000 in
theorem v8(x:bP)(w0:World)(J:Heap)
 (hm:bM J db 66 x.cN.v x.ml) (j:bM J dF 33 x.q.cf.v x.q.ba) (he:bM J bQ 33 x.b9.v x.el) (ak:∀y∈x.el,bM J a6 1 y.v.v y.d) (hw:pL x):
 aG Tryz.prog w0 13 #[ep x] J (fun r ag=>r= .bool (decide (hc x))∧aq J ag):=by
 refine aG.aN [ep x] Tryz.func13 ?_;intro bo bl;have B:aq J J:=W.refl _ _;have hm:=hm.b2;have j:=j.b2;have he:=he.b2;have ak:=fun y C=>(ak y C).b2;have bK:=hm.len;have bJ:=j.len;have bB:=he.len;have ar:=hw.ak;have bO:=hw.br;refine G.L (fun al=>?_);refine o.aS cY ?_;rintro v1 H1 ⟨rfl,i,ac,bw,an⟩;have bp:H1.size=J.size+1:=by rw[an];simp
 have hm:=hm.N ac;have j:=j.N ac;have he:=he.N ac;have ak:=fun y C=>(ak y C).N ac;have B:=B.L ac;have bx:=ac.size;have i:Var 32 H1 J.size (dB x):=i;refine o.al ?_;refine al (G.L (fun ay=>?_));refine o.v1 (Y.an i.O rfl bt rfl bV) ?_;refine o.v1 (au (i.O.drop 1) bR) ?_;refine o.v1 (fu dC) ?_;refine o.v1 (Y.an i.O rfl bt rfl dY) ?_;refine o.v1 (Y.an (i.O.drop 4) rfl bN rfl bV) ?_;refine o.v1 (au (i.O.rh.drop 1) bR) ?_;refine o.v1 (fu dC) ?_;refine o.v1 (Y.cast (v2:= .int .i64 (x.ak.length+x.q.br.length:Nat)) bD (fh (by omega))) ?_;refine o.al ?_;refine ay (G.t1 (fun az=>G.L (fun aB=>?_)));refine o.al ?_;refine aB (G.aD (fun _ aC _=>?_))
 refine G.bc (fun(i1:(Nat))=>[(1,.pointer (some ⟨J.size,0,none⟩)),(3,.int .i64 ((x.ak.length+x.q.br.length+fX (x.ml.take i1)):Nat)),(4,.int .i64 (i1:Int))])
  (fun(i1:(Nat)) (H:Heap)=>(i1≤x.ml.length∧i1≤40)∧aq H1 H)
  (fun(i1:(Nat))=>x.ml.length-i1) 0 ⟨rfl,(by simp[fX,cG]),rfl,trivial⟩ ?_ ?_
 ·
  exact⟨(by omega),W.refl _ _⟩
 intro i1 aD aH bn aI aJ;obtain⟨bE,k⟩:=aH;have hm:=hm.N k;have j:=j.N k;have he:=he.N k;have ak:=fun y C=>(ak y C).N k;have i:=i.N k;have B:=B.L k;have bz:=k.size;have bg:=EK (l:=x.ml.take i1) (fun m hm=>hw.cN m (List.mem_of_mem_take hm));rw[List.length_take]at bg;refine G.t2 (fun aL aM=>G.L (fun aO=>?_));refine o.aa ?_;refine o.v1 (Y.an i.O rfl bt rfl dO) ?_;refine o.v1 (au (i.O.drop 2) dV) ?_;refine o.v1 (bf hm c9) ?_;refine o.v1 bH ?_;refine o.aa ?_;refine o.join (d:=22) (v:= .bool (decide ((i1:Int)<x.ml.length∧(i1:Int)<40))) 3 (fun P=>?_) ?_
 ·
  refine o.bp (d:=19) rfl (fun E=>?_) (fun E=>?_)
  ·
   refine o.bJ ?_;refine o.ar bH ?_;refine o.O ?_;exact P _ (congrArg (fun b=>some (Value.bool b)) (by simp[E])) (ai (ai (ai (bL (congrArg Value.bool (decide_eq_true E).symm)))))
  ·
   refine o.az 3 ?_;exact P _ (congrArg (fun b=>some (Value.bool b)) (by simp[E])) (ai (ai (ai (bL (congrArg Value.bool (decide_eq_false E).symm)))))
 refine o.nil (aO ?_);refine aW (fun aP=>?_) (fun aP=>?_)
 ·
  refine G.skip (aL (G.t1 (fun aQ=>G.aD (fun am _ _=>?_))));refine ik ?_;refine o.aa ?_;refine o.v1 (Y.an i.O rfl bt rfl dO) ?_;refine o.v1 (au (i.O.drop 2) dV) ?_;refine o.aa ?_;have M:i1<x.ml.length:=by omega
  obtain⟨y,A⟩:∃q,q=x.ml[i1]:=⟨_,rfl⟩;have N:y∈x.ml:=by rw[A];exact List.getElem_mem M
  have bm:=hw.cN y N;refine o.b1 (Y.bU hm (i1) rfl c9 dp rfl rfl) fun bq U=>?_;refine o.v1 (Y.an U.O rfl cv rfl bV) ?_;refine o.v1 (Y.cast (v2:=aK y.n) (au (U.O.drop 0) bR) (by rw[A])) ?_;refine o.v1 (fu dC) ?_;refine o.v1 (Y.cast (v2:= .int .i64 ((x.ak.length+x.q.br.length+fX (x.ml.take i1))+y.n.length:Nat)) bD (fh (by omega))) ?_;refine o.v1 (Y.an i.O rfl bt rfl dO) ?_;refine o.v1 (au (i.O.drop 2) dV) ?_;refine o.aa ?_;refine o.b1 (Y.bU hm (i1) rfl c9 dp rfl rfl) fun bs X=>?_;refine o.v1 (Y.an X.O rfl cv rfl bV) ?_;refine o.v1 (Y.cast (v2:=aK y.y) (au (X.O.nL) bR) (by rw[A])) ?_;refine o.v1 (fu dC) ?_;refine o.v1 (Y.cast (v2:= .int .i64 ((x.ak.length+x.q.br.length+fX (x.ml.take (i1+1))):Nat)) bD (fh (by rw[EJ M,←A];omega))) ?_;refine o.al ?_;refine am (aQ (G.region ?_));refine o.aa ?_;refine o.v1 bD ?_;refine o.al ?_;refine aR.sub (aI (i1+1) _ ?_ ?_) ⟨rfl,(aF (by omega)),(aF (by omega)),trivial⟩
  ·exact⟨(by omega),k⟩
  ·first|omega|(simp only;omega)|(simp;omega)
 ·
  have ae:x.ml.length<40→i1=x.ml.length:=fun bd=>by omega
  refine G.exit (aM (aJ (aC ?_)));refine az (G.t1 (fun aV=>G.L (fun ap=>?_)));refine o.al ?_;refine ap (G.aD (fun _ aX _=>?_))
  refine G.bc (fun(i2:(Nat))=>[(1,.pointer (some ⟨J.size,0,none⟩)),(3,.int .i64 (((x.ak.length+x.q.br.length+fX (x.ml.take i1))+hh (x.el.take i2)):Nat)),(5,.int .i64 (i2:Int))])
   (fun(i2:(Nat)) (H:Heap)=>(i2≤x.el.length∧i2≤40)∧aq aD H)
   (fun(i2:(Nat))=>x.el.length-i2) 0 ⟨rfl,(by simp[hh,cG]),rfl,trivial⟩ ?_ ?_
  ·
   exact⟨(by omega),W.refl _ _⟩
  intro i2 bA aS a0 aZ a1;obtain⟨bF,n⟩:=aS;have hm:=hm.N n;have j:=j.N n;have he:=he.N n;have ak:=fun y C=>(ak y C).N n;have i:=i.N n;have B:=B.L n;have cg:=n.size;have bk:=EI (l:=x.el.take i2) (fun m hm=>hw.md m (List.mem_of_mem_take hm));rw[List.length_take]at bk;refine G.t2 (fun a7 a8=>G.L (fun a_=>?_));refine o.aa ?_;refine o.v1 (Y.an i.O rfl bt rfl dT) ?_;refine o.v1 (au i.O.gU eA) ?_;refine o.v1 (bf he cA) ?_;refine o.v1 bH ?_;refine o.aa ?_;refine o.join (d:=50) (v:= .bool (decide ((i2:Int)<x.el.length∧(i2:Int)<40))) 3 (fun Q=>?_) ?_
  ·
   refine o.bp (d:=47) rfl (fun F=>?_) (fun F=>?_)
   ·
    refine o.bJ ?_;refine o.ar bH ?_;refine o.O ?_;exact Q _ (congrArg (fun b=>some (Value.bool b)) (by simp[F])) (ai (ai (ai (bL (congrArg Value.bool (decide_eq_true F).symm)))))
   ·
    refine o.az 3 ?_;exact Q _ (congrArg (fun b=>some (Value.bool b)) (by simp[F])) (ai (ai (ai (bL (congrArg Value.bool (decide_eq_false F).symm)))))
  refine o.nil (a_ ?_);refine aW (fun aT=>?_) (fun aT=>?_)
  ·
   refine G.skip (a7 (G.t1 (fun ba=>G.aD (fun bb _ _=>G.region ?_))));refine o.aa ?_;refine o.v1 (Y.an i.O rfl bt rfl dT) ?_;refine o.v1 (au i.O.gU eA) ?_;refine o.aa ?_;have M:i2<x.el.length:=by omega
   obtain⟨y,A⟩:∃q,q=x.el[i2]:=⟨_,rfl⟩;have N:y∈x.el:=by rw[A];exact List.getElem_mem M
   have bm:=hw.md y N;refine o.b1 (Y.bU he (i2) rfl cA cr rfl rfl) fun bu Z=>?_;refine o.v1 (Y.an Z.O rfl fr rfl c8) ?_;refine o.v1 (Y.cast (v2:=y.v.v) (au (Z.O.jR) eI) (by rw[A])) ?_;refine o.v1 (bf (ak y N) dj) ?_;refine o.v1 (Y.cast (v2:= .int .i64 (((x.ak.length+x.q.br.length+fX (x.ml.take i1))+hh (x.el.take (i2+1))):Nat)) bD (fh (by rw[EH M,←A];omega))) ?_;refine o.al ?_;refine bb (ba (G.region ?_));refine o.aa ?_;refine o.v1 bD ?_;refine o.al ?_;refine aR.sub (aZ (i2+1) _ ?_ ?_) ⟨rfl,(aF (by omega)),(aF (by omega)),trivial⟩
   ·exact⟨(by omega),n⟩
   ·first|omega|(simp only;omega)|(simp;omega)
  ·
   have af:x.el.length<40→i2=x.el.length:=fun bd=>by omega
   refine G.exit (a8 (a1 (aX ?_)));refine aV (G.L (fun ah=>?_));refine o.aa ?_;refine o.v1 bH ?_;refine o.aa ?_;refine o.join (d:=69) (v:= .bool (decide (((((x.ak.length+x.q.br.length+fX (x.ml.take i1))+hh (x.el.take i2)):Nat):Int)<20000∧(x.ml.length:Int)<40))) 5 (fun R=>?_) ?_
   ·
    refine o.bp (d:=64) rfl (fun K=>?_) (fun K=>?_)
    ·
     refine o.ar (Y.an i.O rfl bt rfl dO) ?_;refine o.ar (au (i.O.drop 2) dV) ?_;refine o.ar (bf hm c9) ?_;refine o.ar bH ?_;refine o.O ?_;exact R _ (congrArg (fun b=>some (Value.bool b)) (decide_eq_decide.2 ⟨fun h=>⟨K,h⟩,fun h=>h.2⟩)) (ai (ai (ai (ai (ai (bL (congrArg Value.bool (decide_eq_true K).symm)))))))
    ·
     refine o.az 5 ?_;exact R _ (congrArg (fun b=>some (Value.bool b)) ((decide_eq_false (fun h=>K h.1)).symm)) (ai (ai (ai (ai (ai (bL (congrArg Value.bool (decide_eq_false K).symm)))))))
   refine o.aa ?_;refine o.join (d:=75) (v:= .bool (decide ((((((x.ak.length+x.q.br.length+fX (x.ml.take i1))+hh (x.el.take i2)):Nat):Int)<20000∧(x.ml.length:Int)<40)∧(x.el.length:Int)<40))) 5 (fun S=>?_) ?_
   ·
    refine o.bp (d:=70) rfl (fun L=>?_) (fun L=>?_)
    ·
     refine o.ar (Y.an i.O rfl bt rfl dT) ?_;refine o.ar (au i.O.gU eA) ?_;refine o.ar (bf he cA) ?_;refine o.ar bH ?_;refine o.O ?_;exact S _ (congrArg (fun b=>some (Value.bool b)) (decide_eq_decide.2 ⟨fun h=>⟨L,h⟩,fun h=>h.2⟩)) (ai (ai (ai (ai (ai (bL (congrArg Value.bool (decide_eq_true L).symm)))))))
    ·
     refine o.az 5 ?_;exact S _ (congrArg (fun b=>some (Value.bool b)) ((decide_eq_false (fun h=>L h.1)).symm)) (ai (ai (ai (ai (ai (bL (congrArg Value.bool (decide_eq_false L).symm)))))))
   refine o.aa ?_;refine o.join (d:=82) (v:= .bool (decide (((((((x.ak.length+x.q.br.length+fX (x.ml.take i1))+hh (x.el.take i2)):Nat):Int)<20000∧(x.ml.length:Int)<40)∧(x.el.length:Int)<40)∧(x.q.ba.length:Int)<200))) 6 (fun T=>?_) ?_
   ·
    refine o.bp (d:=76) rfl (fun aw=>?_) (fun aw=>?_)
    ·
     refine o.ar (Y.an i.O rfl bt rfl dY) ?_;refine o.ar (Y.an (i.O.drop 4) rfl bN rfl e4) ?_;refine o.ar (au i.O.tP fU) ?_;refine o.ar (bf j fZ) ?_;refine o.ar bH ?_;refine o.O ?_;exact T _ (congrArg (fun b=>some (Value.bool b)) (decide_eq_decide.2 ⟨fun h=>⟨aw,h⟩,fun h=>h.2⟩)) (ai (ai (ai (ai (ai (ai (bL (congrArg Value.bool (decide_eq_true aw).symm))))))))
    ·
     refine o.az 6 ?_;exact T _ (congrArg (fun b=>some (Value.bool b)) ((decide_eq_false (fun h=>aw h.1)).symm)) (ai (ai (ai (ai (ai (ai (bL (congrArg Value.bool (decide_eq_false aw).symm))))))))
   refine o.al ?_;refine ah ?_;refine G.ret (bl ?_)
   exact⟨congrArg Value.bool (decide_eq_decide.2 (by
    unfold hc lg;constructor
    ·rintro⟨⟨⟨aa,V⟩,ab⟩,bc⟩
     have aN:=ae (by omega);have O:=af (by omega);rw[aN,O,List.take_length,List.take_length]at aa;omega
    ·rintro⟨aa,V,ab,bc⟩
     have aN:=ae V;have O:=af ab;rw[aN,O,List.take_length,List.take_length];omega)),B⟩
end lD

namespace pI
open E Go.RowKit eY fm fw fA ez eZ e0 fI fJ fQ gb eL gL gM h8 kZ m3 od lD dm
set_option maxRecDepth 100000 in
theorem qw:c3 Tryz.prog 24 52 66 96:=⟨Tryz.underlying24,_,_,rfl,rfl,rfl,rfl,rfl⟩
set_option maxRecDepth 100000 in
theorem oT:c3 Tryz.prog 27 129 33 40:=⟨Tryz.underlying27,_,_,rfl,rfl,rfl,rfl,rfl⟩
set_option maxRecDepth 100000 in
theorem iz:c3 Tryz.prog 30 68 33 56:=⟨Tryz.underlying30,_,_,rfl,rfl,rfl,rfl,rfl⟩
set_option maxRecDepth 100000 in
theorem de:c3 Tryz.prog 57 5 1 1:=⟨Tryz.underlying57,_,_,rfl,rfl,rfl,rfl,rfl⟩
section
variable {x : bP}
theorem GN{q:c5}(s:aO)(l:List fL):(eC q).set 66 s.v=eC {q with cf:=s,ba:=l}:=by
 show Value.int .i64 q.k::aK q.br::((bX q.cc++(bX q.bw++iR q)).set 64 s.v)=_;rw[List.set_append_right _ _ (by rw[bC];omega),List.set_append_right _ _ (by rw[bC,bC];omega),bC,bC];rfl
theorem Hh(s:aO)(l:List bn):(dB x).set 2 s.v=dB {x with cN:=s,ml:=l}:=rfl
theorem Hi(s:aO)(l:List fL):(dB x).set 70 s.v=dB {x with q:={x.q with cf:=s,ba:=l}}:=by
 show Value.bool x.bz::aK x.ak::x.cN.v:: .bool x.aj::((eC x.q++[x.b9.v]).set 66 s.v)=_;rw[List.set_append_left _ _ (by rw[fz];omega),GN (l:=l)];rfl
theorem Hg(s:aO)(l:List bu):(dB x).set 74 s.v=dB {x with b9:=s,el:=l}:=by
 show Value.bool x.bz::aK x.ak::x.cN.v:: .bool x.aj::((eC x.q++[x.b9.v]).set 70 s.v)=_;rw[List.set_append_right _ _ (by rw[fz];omega),fz];rfl
end
structure mh (F:Nat→Prop) (H:Heap) (t:bP):Prop where
 q:Rd F H dF 33 t.q.cf.v t.q.ba
 e:Rd F H bQ 33 t.b9.v t.el
 d:∀y∈t.el,Rd F H a6 1 y.v.v y.d
section
variable {F aQ : Nat → Prop} {H ab : Heap} {t : bP} {ks : List Nat}
theorem mh.N(x:mh F H t)(w:aq H ab):mh F ab t:=⟨x.q.N w,x.e.N w,fun y hy=>(x.d y hy).N w⟩
theorem mh.ae(x:mh F H t)(w:W (aB ks) H ab)(d:ay F ks):mh F ab t:=⟨x.q.ae w d,x.e.ae w d,fun y hy=>(x.d y hy).ae w d⟩
end
def k3(a b:bP):Prop:=a.bz=b.bz∧a.ak=b.ak∧a.ml=b.ml∧a.aj=b.aj∧a.q.p=b.q.p∧a.el.map (fun x=>(x.k,x.d))=b.el.map (fun x=>(x.k,x.d))
set_option maxHeartbeats 1600000 in
theorem tN(t:bP)(F:Nat→Prop)(w0:World)(J:Heap)
 (B:eU F J t) (bl:bk F J.size) (e2:t.ml.length≤1000000) (e3:t.q.ba.length≤1000000) (eZ:t.el.length≤1000000) (dI:∀y∈t.el,y.d.length≤140737488355328):
 aG Tryz.prog w0 18 #[ep t] J (fun r Q=>∃ew:aO,∃st:aO,∃aa:aO,∃N:List bu,∃mE:Nat,∃aQ:Nat→Prop,r=ep {t with cN:=ew,q:={t.q with cf:=st},b9:=aa,el:=N}∧(aU mE 52 Q db 66 ew.v t.ml)∧(U 0 J.size mE)∧(∀u:Unit,mh aQ Q {t with cN:=ew,q:={t.q with cf:=st},b9:=aa,el:=N})∧(bk aQ Q.size)∧(∀b,aQ b→J.size≤b)∧(ax aQ mE)∧(N.map (fun x=>(x.k,x.d))=t.el.map (fun x=>(x.k,x.d)))∧aq J Q):=by
 refine aG.enter (args:=[ep t]) Tryz.func18 rfl rfl rfl ?_;intro dS dK;have j:aq J J:=W.refl _ _;refine G.L (fun ck=>?_);refine o.aS cY ?_;rintro v1 H1 ⟨rfl,d,cg,eu,cl⟩;have dW:H1.size=J.size+1:=by rw[cl];simp
 have bX:=(ax.new (bl.mono j.size):ax _ (J.size+1));have a2:U 0 J.size (J.size+1):=U.new j.size;have B:=B.N cg;have j:=j.L cg;have ev:=cg.size;have d:Var 32 H1 J.size (dB t):=d;refine o.aS (dk pE) ?_;rintro v2 Q ⟨rfl,n,bb,ez,cp⟩;have dZ:Q.size=H1.size+1:=by rw[cp];simp
 have a3:af (J.size+1) (H1.size+1):=af.new d.lt;have cq:U 0 J.size (H1.size+1):=U.new j.size;have B:=B.N bb;have d:=d.N bb;have j:=j.L bb;have eB:=bb.size;refine o.nil (ck (G.L (fun ct=>?_)));refine o.aS (cS _ (([]:List bn)) qw fc kC (rfl)) ?_;rintro v5 bq ⟨A,aZ,eC,cu⟩;have ea:bq.size=Q.size+1:=by rw[cu];simp
 have cP:=(ax.new (bl.mono j.size):ax _ (Q.size+1));have bY:af (J.size+1) (Q.size+1):=af.new d.lt;have bZ:af (H1.size+1) (Q.size+1):=af.new n.lt;have b0:U 0 J.size (Q.size+1):=U.new j.size;have B:=B.N aZ;have d:=d.N aZ;have n:=n.N aZ;have j:=j.L aZ;have eD:=aZ.size;refine o.v1 (Y.an d.O rfl bt rfl dO) ?_;refine o.v1 (au (d.O.drop 2) dV) ?_;refine o.aS (eg A B.m qw (by simp;omega) (by simp;omega)) ?_;rintro b8 dP ⟨Z,A,a1,aC⟩;have a1:U (Q.size+1) bq.size Z:=a1;have aC:=aC.md;have bp:af (J.size+1) Z:=af.app (bY) d.lt a1;have a4:af (H1.size+1) Z:=af.app (bZ) n.lt a1;have a5:U 0 J.size Z:=U.L (b0) a1 j.size;have B:=B.ae aC (ay.I cP);have d:=d.ae aC (ag.I bY);have n:=n.ae aC (ag.I bZ);have j:=j.bx aC (ah.I (ao.q b0));have eE:=aC.size;have dU:=A.le;rw[List.nil_append]at A;obtain⟨a7,rfl⟩:∃s:aO,b8=s.v:=⟨cm b8,A.bm.symm⟩;refine o.v1 (Y.an d.O rfl bt rfl dO) ?_;refine o.s1 (dL d 2 (dB {t with cN:=a7}) (rfl) dO (by rw[dX];omega) ((Hh _ _))) fun ap ca=>?_;obtain⟨d,aH⟩:=ca;have aH:=aH.bB;have B:=B.ae aH (ay.I bX);have n:=n.ae aH (ag.I a3.symm);have A:=A.ae aH (ag.I bp.symm);have j:=j.bx aH (ah.I (ao.q a2));have eF:=aH.size;refine o.nil (ct (G.L (fun dj=>?_)));refine o.aS (cS _ (([]:List fL)) oT ix nu (rfl)) fun eG b1 dm=>?_;obtain⟨O,aN,eR,cb⟩:=dm;have ed:b1.size=ap.size+1:=by rw[cb];simp
 have a9:=(ax.new (bl.mono j.size):ax _ (ap.size+1));have bx:af (J.size+1) (ap.size+1):=af.new d.lt;have bz:af (H1.size+1) (ap.size+1):=af.new n.lt;have bA:af Z (ap.size+1):=af.new A.le;have bB:U 0 J.size (ap.size+1):=U.new j.size;have B:=B.N aN;have d:=d.N aN;have n:=n.N aN;have A:=A.N aN;have j:=j.L aN;have eH:=aN.size;refine o.v1 (Y.an d.O rfl bt rfl dY) ?_;refine o.v1 (Y.an (d.O.drop 4) rfl bN rfl e4) ?_;refine o.v1 (au d.O.tP fU) ?_;refine o.aS (eg O B.q oT (by simp;omega) (by simp;omega)) fun b2 eJ dp=>?_;obtain⟨aL,O,aP,aw⟩:=dp;have aP:U (ap.size+1) b1.size aL:=aP;have aw:=aw.md;have bE:af (J.size+1) aL:=af.app (bx) d.lt aP;have cd:af (H1.size+1) aL:=af.app (bz) n.lt aP;have cQ:af Z aL:=af.app (bA) A.le aP;have cR:U 0 J.size aL:=U.L (bB) aP j.size;have B:=B.ae aw (ay.I a9);have d:=d.ae aw (ag.I bx);have n:=n.ae aw (ag.I bz);have A:=A.ae aw (ag.I bA);have j:=j.bx aw (ah.I (ao.q bB));have eK:=aw.size;have ei:=O.le;rw[List.nil_append]at O;obtain⟨bc,rfl⟩:∃s:aO,b2=s.v:=⟨cm b2,O.bm.symm⟩;refine o.v1 (Y.an d.O rfl bt rfl dY) ?_;refine o.v1 (Y.an (d.O.drop 4) rfl bN rfl e4) ?_;refine o.s1 (dL d 70 (dB {t with cN:=a7,q:={t.q with cf:=bc}}) (rfl) e4 (by rw[dX];omega) ((Hi _ _))) fun a8 bT=>?_;obtain⟨d,al⟩:=bT;have al:=al.bB;have B:=B.ae al (ay.I bX);have n:=n.ae al (ag.I a3.symm);have A:=A.ae al (ag.I bp.symm);have O:=O.ae al (ag.I bE.symm);have j:=j.bx al (ah.I (ao.q a2));have eL:=al.size;refine o.nil (dj (G.L (fun ce=>?_)));refine o.al ?_;refine ce (G.t1 (fun dq=>G.L (fun dr=>?_)));refine o.al ?_;refine dr (G.aD (fun _ dR _=>?_))
 refine G.bc (fun(dN:(Nat)×(aO)×(Nat)×(List bu)×(Nat→Prop))=>match dN with|(i,aa,C,N,aQ)=>[(1,.pointer (some ⟨J.size,0,none⟩)),(2,.pointer (some ⟨H1.size,0,none⟩)),(3,aa.v),(4,.int .i64 (i:Int))])
  (fun(i,aa,C,N,aQ) (H:Heap)=>(i≤t.el.length)∧(aU C 68 H bQ 33 aa.v N)∧(∀y∈N,Rd aQ H a6 1 y.v.v y.d)∧(bk aQ H.size)∧(ax aQ C)∧(ax aQ (J.size+1))∧(ax aQ (H1.size+1))∧(ax aQ Z)∧(∀b,aQ b→J.size≤b)∧(N.map (fun x=>(x.k,x.d))=(t.el.take i).map (fun x=>(x.k,x.d)))∧(U 0 a8.size C)∧aq a8 H)
  (fun(i,aa,C,N,aQ)=>t.el.length-i) (0,dw,0,[],fun _=>False) ⟨rfl,rfl,rfl,rfl,trivial⟩ ?_ ?_
 ·
  exact⟨(by omega),aU.nil di hr,(fun x h=>by cases h),(fun b e=>e.elim),(fun b e=>e.elim),(fun b e=>e.elim),(fun b e=>e.elim),(fun b e=>e.elim),(fun b e=>e.elim),rfl,U.refl _ _,W.refl _ _⟩
 rintro⟨i,aa,C,N,aQ⟩ L ci dQ dt du;obtain⟨e0,E,P,bg,f1,f2,f3,f4,bU,bm,aM,K⟩:=ci;have ba:=ax.app (ax.z) (bl.mono j.size) aM;have aX:af (J.size+1) C:=af.app (af.z) d.lt aM;have be:af (H1.size+1) C:=af.app (af.z) n.lt aM;have b5:af Z C:=af.app (af.z) A.le aM;have cV:U 0 J.size C:=U.L (U.refl 0 _) aM j.size;have B:=B.N K;have d:=d.N K;have n:=n.N K;have A:=A.N K;have O:=O.N K;have j:=j.L K;have eM:=K.size;have cc:=E.le;have bF:=aM;have e1:N.length=i:=by have dH:=congrArg List.length bm;simp at dH;omega
 refine G.t2 (fun dx dy=>G.L (fun cW=>?_));refine o.aa ?_;refine o.v1 (Y.an d.O rfl bt rfl dT) ?_;refine o.v1 (au d.O.gU eA) ?_;refine o.v1 (bf B.e cA) ?_;refine o.v1 bH (o.nil (cW ?_));refine aW (fun dz=>?_) (fun dz=>?_)
 ·
  refine G.skip (dx (G.t1 (fun bi=>G.aD (fun cX _ _=>?_))));refine dg (fun S=>W (aB [C]) L S) [] ?_;have k:W (aB [C]) L L:=W.refl _ _;have aD:=U.refl C L.size;refine T.aa 0 rfl k ?_;refine T.t1 1 rfl (fun S M=>Y.fieldAddr (d.ae M (ag.I aX)).O rfl bt rfl rfl dT (by decide) rfl) k ?_;refine T.t1 2 rfl (fun S M=>Y.fM (d.ae M (ag.I aX)).O.gU rfl eA rfl) k ?_;refine T.aa 3 rfl k ?_;have b6:i<t.el.length:=by omega
  obtain⟨y,bo⟩:∃q,q=t.el[i]:=⟨_,rfl⟩;have b7:y∈t.el:=by rw[bo];exact List.getElem_mem b6
  have eY:=dI y b7;refine T.e (g:=fun ad=> .pointer (some ad)) 4 (by kernel_rfl) rfl (by kernel_rfl) (by kernel_rfl) (by kernel_rfl) (Y.bU B.e (i) rfl cA cr rfl rfl) cM rfl rfl k (fun co bJ=>?_);refine T.t1 5 rfl (fun S M=>Y.fieldAddr (bJ.ae M (ay.I ba)).O rfl fr rfl rfl bd (by decide) rfl) k ?_;refine T.t1 6 rfl (fun S M=>Y.cast (v2:=bs y.k) (a_ (((bJ.ae M (ay.I ba)).O.drop 0).take 32) cj bd (by rw[fa];exact bC _)) ((by rw[bo];exact cn (fa _)))) k ?_;refine T.t1 8 rfl (fun S M=>Y.fieldAddr (d.ae M (ag.I aX)).O rfl bt rfl rfl dT (by decide) rfl) k ?_;refine T.t1 9 rfl (fun S M=>Y.fM (d.ae M (ag.I aX)).O.gU rfl eA rfl) k ?_;refine T.aa 10 rfl k ?_;refine T.e (g:=fun ad=> .pointer (some ad)) 11 (by kernel_rfl) rfl (by kernel_rfl) (by kernel_rfl) (by kernel_rfl) (Y.bU B.e (i) rfl cA cr rfl rfl) cM rfl rfl k (fun eS bK=>?_);refine T.t1 12 rfl (fun S M=>Y.fieldAddr (bK.ae M (ay.I ba)).O rfl fr rfl rfl c8 (by decide) rfl) k ?_;refine T.t1 13 rfl (fun S M=>Y.cast (v2:=y.v.v) (au ((bK.ae M (ay.I ba)).O.jR) eI) (by rw[bo])) k ?_;refine T.aX 7 ?_;refine ey rfl (cS _ (([]:List UInt8)) de et fB (rfl)) (fun eN az dA=>?_);obtain⟨R,ab,eT,c0⟩:=dA;have ee:az.size=L.size+1:=by rw[c0];simp
  have c1:af (J.size+1) (L.size+1):=af.new d.lt;have c2:af (H1.size+1) (L.size+1):=af.new n.lt;have c3:af Z (L.size+1):=af.new A.le;have bL:af C (L.size+1):=af.new E.le;have c5:=(ax.new (bg.mono (by omega)):ax _ (L.size+1));have c6:U 0 J.size (L.size+1):=U.new j.size;have br:U 0 a8.size (L.size+1):=U.new K.size;have c7:U 0 L.size (L.size+1):=U.new k.size;have B:=B.N ab;have d:=d.N ab;have n:=n.N ab;have A:=A.N ab;have E:=E.N ab;have P:=fun y X=>(P y X).N ab;have j:=j.L ab;have K:=K.L ab;have k:=k.a8 ab;have cs:=ab.size;refine T.bZ k (ah.cons (ao.r aD) (ah.I (ao.q c7))) ?_;have k:W (aB [C,(L.size+1)]) az az:=W.refl _ _;have c9:=U.refl C az.size;have bM:=U.refl (L.size+1) az.size;refine T.aX 14 ?_;refine ey rfl (eg R (B.d y b7) de (by simp;omega) (by simp;omega)) (fun b3 ae dC=>?_);obtain⟨am,R,ar,aI⟩:=dC;have ar:U (L.size+1) az.size am:=ar;have aI:=aI.md;have c_:af (J.size+1) am:=af.app (c1) d.lt ar;have bv:af (H1.size+1) am:=af.app (c2) n.lt ar;have da:af Z am:=af.app (c3) A.le ar;have bO:af C am:=af.app (bL) E.le ar;have dc:U 0 J.size am:=U.L (c6) ar j.size;have df:U (L.size+1) az.size am:=U.L (bM) ar k.size;have E:=E.ae aI (ag.I bL);have P:=fun y X=>(P y X).ae aI (ay.I c5);have K:=K.bx aI (ah.I (ao.q br));have k:=k.aL aI (ah.I (ao.r bM));have bw:=aI.size;have ec:=R.le;obtain⟨a0,rfl⟩:∃s:aO,b3=s.v:=⟨cm b3,R.bm.symm⟩;rw[List.nil_append]at R;refine T.bZ k (ah.cons (ao.r c9) (ah.I (ao.r df))) ?_;have k:W (aB [C,am]) ae ae:=W.refl _ _;have cv:=U.refl C ae.size;have cx:=U.refl am ae.size;refine T.t1 (v:= .agg (bQ (⟨y.k,a0,y.d⟩:bu)).toArray) 15 rfl (fun S M=>?_) k ?_
  ·exact Y.build (v:= .agg (bQ (⟨y.k,a0,y.d⟩:bu)).toArray) rfl rfl (by intro w;exact oA _ _ _)
  refine T.aX 16 ?_;refine ey rfl (cS _ ([(⟨y.k,a0,y.d⟩:bu)]) iz di hr (rfl)) (fun eP ai cZ=>?_);obtain⟨dM,aS,eV,cy⟩:=cZ;have ef:ai.size=ae.size+1:=by rw[cy];simp
  have cz:U 0 ae.size (ae.size+1):=U.new k.size;have E:=E.N aS;have P:=fun y X=>(P y X).N aS;have R:=R.N aS;have K:=K.L aS;have k:=k.a8 aS;have eW:=aS.size;refine T.bZ k (ah.cons (ao.r cv) (ah.cons (ao.r cx) (ah.I (ao.q cz)))) ?_;have k:W (aB [C,am,(ae.size+1)]) ai ai:=W.refl _ _;have bR:=U.refl C ai.size;have cB:=U.refl am ai.size;have cC:=U.refl (ae.size+1) ai.size;refine T.aX 17 ?_;refine ey rfl (eg E dM.rd iz (by simp;omega) (by simp;omega)) (fun bV bW dG=>?_);obtain⟨aK,E,aT,aJ⟩:=dG;have aT:U C ai.size aK:=aT;have aJ:=aJ.md;have cD:=ax.app (f1) (bg.mono (by omega)) aT;have cE:af am aK:=af.app (bO.symm) R.le aT;have cG:U 0 a8.size aK:=U.L (bF) aT K.size;have cH:U C ai.size aK:=U.L (bR) aT k.size;have P:=fun y X=>(P y X).ae aJ (ay.I f1);have R:=R.ae aJ (ag.I bO.symm);have K:=K.bx aJ (ah.I (ao.q bF));have k:=k.aL aJ (ah.I (ao.r bR));have eX:=aJ.size;have cc:=E.le;obtain⟨dh,rfl⟩:∃s:aO,bV=s.v:=⟨cm bV,E.bm.symm⟩;refine T.bZ k (ah.cons (ao.r cH) (ah.cons (ao.r cB) (ah.I (ao.r cC)))) ?_;have k:W (aB [aK,am,(ae.size+1)]) bW bW:=W.refl _ _;refine T.t1 18 rfl (fun S M=>e5) k ?_;refine cI ?_;refine cX (bi (G.region ?_));refine o.aa ?_;refine o.v1 bD ?_;refine o.al ?_;refine aR.sub (dt (i+1,dh,aK,N++[(⟨y.k,a0,y.d⟩:bu)],fun b=>aQ b∨b+1=am) _ ?_ ?_) ⟨rfl,rfl,rfl,(aF (by omega)),trivial⟩
  ·exact⟨(by omega),E,tw P (fun b e=> .inl e) (R.rd.imp (fun b _ e=> .inr e)),bk.dx (bg.mono (by omega)) R.le,ax.dx (cD) (cE.symm),ax.dx (f2) (c_),ax.dx (f3) (bv),ax.dx (f4) (da),lK bU (dc),by rw[List.map_append,bm,List.take_succ_eq_append_getElem b6,List.map_append,←bo];rfl,cG,K⟩
  ·first|omega|(simp only;omega)|(simp;omega)
 ·
  obtain rfl:i=t.el.length:=by omega
  rw[List.take_length]at bm;refine G.exit (dy (du (dR ?_)));refine dq (G.L (fun cJ=>?_));refine o.aa ?_;refine o.v1 (Y.an d.O rfl bt rfl dT) ?_;refine o.s1 (dL d 74 (dB {t with cN:=a7,q:={t.q with cf:=bc},b9:=aa,el:=N}) (rfl) dT (by rw[dX];omega) ((Hg _ _))) fun ej cK=>?_;obtain⟨d,ac⟩:=cK;have ac:=ac.bB;have n:=n.ae ac (ag.I a3.symm);have A:=A.ae ac (ag.I bp.symm);have O:=O.ae ac (ag.I bE.symm);have E:=E.ae ac (ag.I aX.symm);have P:=fun y X=>(P y X).ae ac (ay.I f2);have j:=j.bx ac (ah.I (ao.q a2));have ek:=ac.size;refine o.nil (cJ (G.L (fun cL=>?_)));refine o.v1 (a_ d.O gz fj (dX _)) ?_;refine o.s1 (eh n (_) (dB {t with cN:=a7,q:={t.q with cf:=bc},b9:=aa,el:=N}) (nv _) fj (dX _) ((dJ (dX _).symm))) fun eo cO=>?_;obtain⟨n,an⟩:=cO;have an:=an.bB;have A:=A.ae an (ag.I a4.symm);have O:=O.ae an (ag.I cd.symm);have E:=E.ae an (ag.I be.symm);have P:=fun y X=>(P y X).ae an (ay.I f3);have j:=j.bx an (ah.I (ao.q cq));have er:=an.size;refine o.nil (cL ?_);refine G.ret (dK .ret (.inr rfl) _ _ _ (kk rfl rfl n.O gz fj (dX _)) ?_);exact⟨a7,bc,aa,N,Z,fun b=>aQ b∨b+1=C∨b+1=aL,rfl,A,(a5),(fun _=>⟨O.rd.imp (fun b _ e=> .inr (.inr e)),E.rd.imp (fun b _ e=> .inr (.inl e)),fun y hy=>(P y hy).imp (fun b _ e=> .inl e)⟩),(fun b e=>e.elim (fun e=>by have aV:=bg b e;omega) (fun e=>e.elim (fun e=>by have aV:=E.le;omega) (fun e=>by have aV:=O.le;omega))),(fun b e=>e.elim (bU b) (fun e=>e.elim (fun e=>by have aV:=(cV);unfold U at aV;omega) (fun e=>by have aV:=(cR);unfold U at aV;omega))),(fun b e h=>e.elim (fun e=>(f4) b e h) (fun e=>e.elim (fun e=>(b5.symm) b e h) (fun e=>(cQ.symm) b e h))),bm,j⟩
def kg(bI:dh)(on:List Bool)(i:Nat)(m:bn):bn:=if on.getD i false=true then{m with I:=gd bI m.n}else m
def eb(bI:dh)(on:List Bool)(ml:List bn):List bn:=ml.mapIdx (kg bI on)
def ht(bI:dh)(on:List Bool)(i:Nat)(ml:List bn):List bn:=ml.mapIdx (fun j m=>if j<i then kg bI on j m else m)
theorem xr(bI:dh)(on:List Bool)(ml:List bn):ht bI on 0 ml=ml:=by
 unfold ht;refine List.ext_getElem (by simp) (fun i d V=>by simp)
theorem mI(bI:dh)(on:List Bool)(i:Nat)(ml:List bn):(ht bI on i ml).length=ml.length:=by unfold ht;simp
theorem xt(bI:dh)(on:List Bool)(ml:List bn):ht bI on ml.length ml=eb bI on ml:=by
 unfold ht eb;refine List.ext_getElem (by simp) (fun i d V=>by simp at d;simp[d])
theorem pa{bI:dh}{on:List Bool}{i:Nat}{ml:List bn}(h:i<ml.length):(ht bI on i ml)[i]'(by rw[mI];exact h)=ml[i]:=by unfold ht;simp
theorem s4{bI:dh}{on:List Bool}{i:Nat}{ml:List bn}(h:i<ml.length):ht bI on (i+1) ml=(ht bI on i ml).set i (kg bI on i ml[i]):=by
 refine List.ext_getElem (by simp[mI]) (fun j k V=>?_);rw[List.getElem_set];by_cases e:i=j
 ·subst e;simp[ht]
 ·rw[if_neg e]
  by_cases d:j<i
  ·simp[ht,d,show j<i+1 by omega]
  ·simp[ht,d,show ¬j<i+1 by omega]
theorem EV{bI:dh}{on:List Bool}{i:Nat}{ml:List bn}(h:i<ml.length)(d:on.getD i false=false):ht bI on (i+1) ml=ht bI on i ml:=by
 rw[s4 h,show kg bI on i ml[i]=(ht bI on i ml)[i]'(by rw[mI];exact h)by rw[pa h];unfold kg;rw[if_neg (by rw[d];decide)],List.set_getElem_self]
theorem xm(m:bn)(z:cw):db {m with I:=z}=dU (db m) 1 (bX z):=by
 unfold dU;rw[bC,show 1+32=33 from rfl,sg];rfl
set_option maxHeartbeats 1600000 in
theorem EN(s:c1)(t:bP)(v:Value)(on:List Bool)(F:Nat→Prop)(w0:World)(J:Heap)
 (E:bM J dE 33 s.fN.v s.aY) (ab:eU F J t) (cm:bk F J.size) (C:bM J qc 1 v on) (cx:t.ml.length≤1000000) (cB:t.q.ba.length≤1000000) (cu:t.el.length≤1000000) (cq:∀y∈t.el,y.d.length≤140737488355328):
 aG Tryz.prog w0 16 #[eR s,ep t,v] J (fun r aH=>∃ew:aO,∃st:aO,∃bs:aO,∃aN:List bu,∃aQ:Nat→Prop,r=ep {t with cN:=ew,ml:=eb (bh s.aY) on t.ml,q:={t.q with cf:=st},b9:=bs,el:=aN}∧(∀u:Unit,eU aQ aH {t with cN:=ew,ml:=eb (bh s.aY) on t.ml,q:={t.q with cf:=st},b9:=bs,el:=aN})∧(bk aQ aH.size)∧(∀b,aQ b→J.size≤b)∧(aN.map (fun x=>(x.k,x.d))=t.el.map (fun x=>(x.k,x.d)))∧aq J aH):=by
 refine aG.enter (args:=[eR s,ep t,v]) Tryz.func16 rfl rfl rfl ?_;intro cE cA;have A:aq J J:=W.refl _ _;have E:=E.b2;have bb:=E.b5;have C:=C.b2;have ba:=C.b5;have c7:=C.len;refine G.L (fun b6=>?_);refine o.aS cY ?_;rintro v3 M ⟨rfl,K,ap,cP,b8⟩;have a0:M.size=J.size+1:=by rw[b8];simp
 have E:=E.N ap;have ab:=ab.N ap;have C:=C.N ap;have A:=A.L ap;have cQ:=ap.size;have K:Var 47 M J.size (b3 s):=K;refine o.aS cY ?_;rintro v4 R ⟨rfl,B,ae,cR,cg⟩;have a2:R.size=M.size+1:=by rw[cg];simp
 have a3:=(ax.new (bb.mono A.size):ax _ (M.size+1));have a4:=(ax.new (ba.mono A.size):ax _ (M.size+1));have a5:af (J.size+1) (M.size+1):=af.new K.lt;have bx:U 0 J.size (M.size+1):=U.new A.size;have E:=E.N ae;have ab:=ab.N ae;have C:=C.N ae;have K:=K.N ae;have A:=A.L ae;have cS:=ae.size;have B:Var 32 R M.size (dB t):=B;refine o.aS (dk pE) ?_;rintro v6 bw ⟨rfl,O,Z,cV,bz⟩;have cG:bw.size=R.size+1:=by rw[bz];simp
 have bB:af (M.size+1) (R.size+1):=af.new B.lt;have bE:U 0 J.size (R.size+1):=U.new A.size;have E:=E.N Z;have ab:=ab.N Z;have C:=C.N Z;have K:=K.N Z;have B:=B.N Z;have A:=A.L Z;have br:=Z.size;refine o.nil (b6 (G.L (fun a9=>?_)));refine o.v1 (a_ B.O gz fj (dX _)) ?_;refine aV rV (tN t F w0 _ ab (cm.mono (by omega)) cx cB cu cq) ?_;rintro v9 cC ⟨aC,aX,aT,aP,Q,aZ,rfl,n,al,k,cb,aI,cr,ct,aa⟩;have bF:=ax.app (ax.z) (bb.mono A.size) al;have bJ:=ax.app (ax.z) (ba.mono A.size) al;have bK:af (J.size+1) Q:=af.app (af.z) K.lt al;have bc:af (M.size+1) Q:=af.app (af.z) B.lt al;have bg:af (R.size+1) Q:=af.app (af.z) O.lt al;have bl:U 0 J.size Q:=U.L (U.refl 0 _) al A.size;have E:=E.N aa;have C:=C.N aa;have K:=K.N aa;have B:=B.N aa;have O:=O.N aa;have A:=A.L aa;have cW:=aa.size;have aw:=n.le;have bN:=cr;have bO:=(fun b e h=>by have bq:=aI b e;omega:ax aZ ((M.size+1)));have bQ:=(fun b e h=>by have bq:=aI b e;omega:ax aZ ((R.size+1)));rw[←xr (bh s.aY) on t.ml]at n;refine o.s1 (S.var B (_) (dB {t with cN:=aC,q:={t.q with cf:=aX},b9:=aT,el:=aP}) rfl rfl rfl rfl (nv _) fj (dX _) (by rw[dX];exact Nat.le_refl _) ((dJ ((dX _).trans (dX _).symm)))) fun bm bU=>?_;obtain⟨B,P⟩:=bU;have P:=P.bB;have E:=E.ae P (ay.I a3);have C:=C.ae P (ay.I a4);have K:=K.ae P (ag.I a5);have O:=O.ae P (ag.I bB.symm);have n:=n.ae P (ag.I bc.symm);have k:=fun u=>(k u).ae P (ay.I bO);have A:=A.bx P (ah.I (ao.q bx));have cX:=P.size;refine o.nil (a9 (G.t1 (fun ca=>G.L (fun cj=>?_))));refine o.al ?_;refine cj (G.aD (fun _ ck _=>?_))
 refine G.bc (fun(i:(Nat))=>[(2,v),(3,.pointer (some ⟨J.size,0,none⟩)),(4,.pointer (some ⟨M.size,0,none⟩)),(6,.pointer (some ⟨R.size,0,none⟩)),(7,.int .i64 (i:Int))])
  (fun(i:(Nat)) (H:Heap)=>(i≤t.ml.length)∧(aU Q 52 H db 66 aC.v (ht (bh s.aY) on i t.ml))∧(U Q bm.size Q)∧W (aB [Q]) bm H)
  (fun(i:(Nat))=>t.ml.length-i) 0 ⟨rfl,rfl,rfl,rfl,rfl,trivial⟩ ?_ ?_
 ·
  exact⟨(by omega),n,U.refl _ _,W.refl _ _⟩
 intro i a6 cl cD a7 bT;obtain⟨c5,n,aM,L⟩:=cl;have bW:af (R.size+1) Q:=af.app (bg) O.lt aM;have bY:U 0 J.size Q:=U.L (bl) aM A.size;have E:=E.ae L (ay.I bF);have C:=C.ae L (ay.I bJ);have K:=K.ae L (ag.I bK);have B:=B.ae L (ag.I bc);have O:=O.ae L (ag.I bg);have k:=fun u=>(k u).ae L (ay.I bN);have A:=A.bx L (ah.I (ao.q bl));have cZ:=L.size;have aw:=n.le;have am:=aM;have c6:=mI (bh s.aY) on i t.ml;refine G.t2 (fun be cn=>G.L (fun cp=>?_));refine o.aa ?_;refine o.v1 (Y.an B.O rfl bt rfl dO) ?_;refine o.v1 (au (B.O.drop 2) dV) ?_;refine o.v1 (Y.cast (v2:= .int .i64 (t.ml.length:Int)) (bf n.rd c9) (fh (by rw[mI]))) ?_;refine o.v1 bH (o.nil (cp ?_));refine aW (fun bi=>?_) (fun bi=>?_)
 ·
  refine G.skip (be (G.t1 (fun a8=>G.aD (fun bp _ _=>G.L (fun bZ=>?_)))));refine o.az 2 ?_;refine o.v1 (bf C y4) ?_;refine o.v1 bH ?_;refine o.aa ?_;refine o.join (d:=26) (v:= .bool (on.getD i false)) 5 (fun a1=>?_) ?_
  ·
   refine o.bp (d:=21) rfl (fun aJ=>?_) (fun aJ=>?_)
   ·
    refine o.az 2 ?_;refine o.e (g:=fun ad=> .pointer (some ad)) (Y.bU C (i) rfl y4 dz rfl rfl) bo rfl rfl (fun cJ b0=>?_);refine o.ar (au b0.O ec) ?_;refine o.O ?_;exact a1 _ (congrArg (fun b=>some (Value.bool b)) (by rw[List.getD_eq_getElem?_getD,List.getElem?_eq_getElem (by omega)];rfl)) (ai (ai (ai (ai (ai (bL (congrArg Value.bool (decide_eq_true aJ).symm)))))))
   ·
    refine o.az 5 ?_;exact a1 _ (congrArg (fun b=>some (Value.bool b)) (by rw[List.getD_eq_getElem?_getD,List.getElem?_eq_none (by omega)];rfl)) (ai (ai (ai (ai (ai (bL (congrArg Value.bool (decide_eq_false aJ).symm)))))))
  refine o.nil (bZ ?_);refine cL (fun aL=>?_) (fun aL=>?_)
  ·
   have cy:=aL;have ar:i<t.ml.length:=by omega
   obtain⟨y,aS⟩:∃q,q=t.ml[i]:=⟨_,rfl⟩;refine dg (fun X=>aq a6 X) [11,12,13] ?_;have N:=aq.refl a6;refine T.t1 0 rfl (fun X k=>Y.an (B.O.N k) rfl bt rfl dO) N ?_;refine T.t1 1 rfl (fun X k=>au ((B.O.drop 2).N k) dV) N ?_;refine T.aa 2 rfl N ?_;refine T.t1 3 rfl (fun X k=>a_ (K.O.N k) gY ev (cO _)) N ?_;refine T.t1 4 rfl (fun X k=>Y.an (B.O.N k) rfl bt rfl dO) N ?_;refine T.t1 5 rfl (fun X k=>au ((B.O.drop 2).N k) dV) N ?_;refine T.aa 6 rfl N ?_;refine T.t1 7 rfl (fun X k=>il (n.N k) (i) c9 dp (by omega)) N ?_;refine T.t1 8 rfl (fun X k=>Y.fieldAddr ((n.O (j:=i) (by omega)).N k) rfl cv rfl rfl bV (by decide) rfl) N ?_;refine T.t1 9 rfl (fun X k=>Y.cast (v2:=aK y.n) (au (((n.O (j:=i) (by omega)).drop 0).N k) bR) (by rw[pa ar,aS])) N ?_;refine T.aX 10 ?_;refine b7 p1 (pU s y.n w0 _ E.any) (fun bv b5 aD=>?_);obtain⟨rfl,an⟩:=aD;have n:=n.N an;have k:=fun u=>(k u).N an;have L:=L.a8 an;have c0:=an.size;have cc:=N.L an;refine T.cD cc ?_;have cd:=aq.refl b5;refine T.aX 11 ?_;refine gJ rfl (il n (i) c9 dp (by omega)) (.inl rfl) ?_;refine T.aX 12 ?_;refine gJ rfl (Y.an (n.O (j:=i) (by omega)) rfl cv rfl bd) (.inl rfl) ?_;refine T.aX 13 ?_;refine gW rfl (S.qU n i 1 ({y with I:=gd (bh s.aY) y.n}:bn) (bX (gd (bh s.aY) y.n)) rfl rfl rfl rfl (jk _) bd (bC _) (by omega) (by decide) (by rw[pa ar,←aS];exact xm _ _)) (fun cH bA=>?_);obtain⟨n,az⟩:=bA;have az:=az.md;have L:=L.aL az (ah.I (ao.r am));have c2:=az.size;refine⟨.inl rfl,?_⟩;refine cI ?_;have c8:=cd;refine bp (a8 (G.region ?_));refine o.aa ?_;refine o.v1 bD ?_;refine o.al ?_;refine aR.sub (a7 (i+1) _ ?_ ?_) ⟨rfl,rfl,rfl,rfl,(aF (by omega)),trivial⟩
   ·exact⟨(by omega),by rw[s4 ar,←aS];unfold kg;rw[if_pos cy];exact n,am,L⟩
   ·first|omega|(simp only;omega)|(simp;omega)
  ·
   have cz:=aL;have ar:i<t.ml.length:=by omega
   refine G.skip (bp (a8 (G.region ?_)));refine o.aa ?_;refine o.v1 bD ?_;refine o.al ?_;refine aR.sub (a7 (i+1) _ ?_ ?_) ⟨rfl,rfl,rfl,rfl,(aF (by omega)),trivial⟩
   ·exact⟨(by omega),by rw[EV ar cz];exact n,am,L⟩
   ·first|omega|(simp only;omega)|(simp;omega)
 ·
  obtain rfl:i=t.ml.length:=by omega
  rw[xt]at n;refine G.exit (cn (bT (ck ?_)));refine ca (G.L (fun b1=>?_));refine o.v1 (a_ B.O gz fj (dX _)) ?_;refine o.s1 (eh O (_) (dB {t with cN:=aC,q:={t.q with cf:=aX},b9:=aT,el:=aP}) (nv _) fj (dX _) ((dJ (dX _).symm))) fun cK b2=>?_;obtain⟨O,ac⟩:=b2;have ac:=ac.bB;have n:=n.ae ac (ag.I bW.symm);have k:=fun u=>(k u).ae ac (ay.I bQ);have A:=A.bx ac (ah.I (ao.q bE));have c3:=ac.size;refine o.nil (b1 ?_);refine G.ret (cA .ret (.inr rfl) _ _ _ (kk rfl rfl O.O gz fj (dX _)) ?_);exact⟨aC,aX,aT,aP,_,rfl,(fun _=>⟨n.rd.imp (fun b _ e=>Or.inr e),(k ()).q.imp (fun b _ e=>Or.inl e),(k ()).e.imp (fun b _ e=>Or.inl e),(fun y hy=>((k ()).d y hy).imp (fun b _ e=>Or.inl e))⟩),(bk.dx (cb.mono (by omega)) n.le),(lK (fun b e=>by have bq:=aI b e;omega) (bY)),ct,A⟩
end pI

namespace rC
open E Go.RowKit eY fm fw fA ez eZ e0 fI fJ fQ gb eL gL gM h8 ob pG kZ dm
set_option maxRecDepth 100000 in
theorem oV:c3 Tryz.prog 69 9 1 16:=⟨Tryz.underlying69,_,_,rfl,rfl,rfl,rfl,rfl⟩
theorem CY{ul:List cx}{m:bn}(av:cU m.n=0)(d:m.I=bq)(hw:¬m.w=bq):iy m.n ((ul.map (·.n)).filter (fun x=>decide (x≠m.n)))=if hC (bh ul) m=true then 13 else 0:=by
 rw[wj av (fun h=>by have:=(List.mem_filter.1 h).2;simp at this)];unfold hC;rw[decide_eq_true (show m.I=bq∧m.w≠bq from⟨d,hw⟩),Bool.true_and,List.any_filter,show(bh ul).map (·.1)=ul.map (·.n)by simp[bh]]
theorem qL{l:dh}{ml:List bn}{j:Nat}{e:Int}(n:j<ml.length)(k:∀q (h:q<j),∀V:q<ml.length,fV l (ml.take q) ml[q]=0)(he:fV l (ml.take j) ml[j]=e)(aC:e≠0):e3 l ml=e:=by
 have d:=sS (ml:=ml) (l:=l) (pre:=[]) (j:=j) n (fun i h=>by rw[List.nil_append];exact k i h (by omega)) (by rw[List.nil_append,he];exact aC);rw[List.nil_append,he]at d;rw[e3,if_pos (by rw[d];exact aC),d]
theorem Ev(l:dh)(m:bn):(dH l m).length≤l.length+1:=by
 unfold dH;split
 ·have:(eu l m.n).length≤l.length:=List.length_filter_le _ _
  omega
 ·exact wB _ _ _
theorem ph(l:List cx):(bh l).length=l.length:=List.length_map ..
theorem Dj{ml:List bn}{n:aJ}{j k:Nat}(d:k<j)(i:k<ml.length)(h:ml[k].n=n):n∈(ml.take j).map (·.n):=
 List.mem_map.2 ⟨ml[k],List.mem_take_iff_getElem.2 ⟨k,by omega,rfl⟩,h⟩
theorem s3{ml:List bn}{n:aJ}{j:Nat}(h:∀q,q<j→∀V:q<ml.length,¬ml[q].n=n):n∉(ml.take j).map (·.n):=by
 intro hm;obtain⟨x,d,e⟩:=List.mem_map.1 hm;obtain⟨q,i,rfl⟩:=List.mem_take_iff_getElem.1 d;exact h q (by omega) (by omega) e
set_option maxHeartbeats 1600000 in
theorem F3(s:c1)(t:bP)(w0:World)(J:Heap)
 (C:bM J dE 33 s.fN.v s.aY) (d_:dt (bh s.aY)) (gM:s.aY.length≤200) (fu:∀x∈(bh s.aY),x.1.length≤60) (hm:bM J db 66 t.cN.v t.ml) (gJ:t.ml.length≤65535) (cd:∀m∈t.ml,m.n.length≤140737488355328):
 aG Tryz.prog w0 41 #[eR s,ep t] J (fun r M=>r= .int .i64 (e3 (bh s.aY) t.ml)∧aq J M):=by
 refine aG.aN [eR s,ep t] Tryz.func41 ?_;intro fC az;have n:aq J J:=W.refl _ _;have C:=C.b2;have cr:=C.b5;have hm:=hm.b2;have ct:=hm.b5;refine G.L (fun eA=>?_);refine o.aS cY ?_;rintro v2 M ⟨rfl,F,a2,fS,eB⟩;have fL:M.size=J.size+1:=by rw[eB];simp
 have C:=C.N a2;have hm:=hm.N a2;have n:=n.L a2;have fT:=a2.size;have F:Var 47 M J.size (b3 s):=F;refine o.aS cY ?_;rintro v3 ba ⟨rfl,A,aP,fU,eC⟩;have fM:ba.size=M.size+1:=by rw[eC];simp
 have C:=C.N aP;have hm:=hm.N aP;have F:=F.N aP;have n:=n.L aP;have fX:=aP.size;have A:Var 32 ba M.size (dB t):=A;refine o.al ?_;refine eA (G.t2 (fun eD a3=>G.L (fun eE=>?_)));refine o.al ?_;refine eE (G.aD (fun _ eF a4=>?_))
 refine G.bc (fun(j:(Nat))=>[(2,.pointer (some ⟨J.size,0,none⟩)),(3,.pointer (some ⟨M.size,0,none⟩)),(5,.int .i64 (j:Int))])
  (fun(j:(Nat)) (H:Heap)=>(j≤t.ml.length)∧(∀q (h:q<j),∀V:q<t.ml.length,fV (bh s.aY) (t.ml.take q) t.ml[q]=0)∧aq ba H)
  (fun(j:(Nat))=>t.ml.length-j) 0 ⟨rfl,rfl,rfl,trivial⟩ ?_ ?_
 ·
  exact⟨(by omega),(fun q h=>absurd h (Nat.not_lt_zero _)),W.refl _ _⟩
 intro j X eG fB eH aQ;obtain⟨gH,aL,E⟩:=eG;have C:=C.N E;have hm:=hm.N E;have F:=F.N E;have A:=A.N E;have n:=n.L E;have fY:=E.size;refine G.t2 (fun eI eJ=>G.L (fun eK=>?_));refine o.aa ?_;refine o.v1 (Y.an A.O rfl bt rfl dO) ?_;refine o.v1 (au (A.O.drop 2) dV) ?_;refine o.v1 (bf hm c9) ?_;refine o.v1 bH (o.nil (eK ?_));refine aW (fun eL=>?_) (fun eL=>?_)
 ·
  refine G.skip (eI (G.t2 (fun eM a5=>G.aD (fun eN _ bb=>G.L (fun cp=>?_)))));refine o.v1 (Y.an A.O rfl bt rfl dO) ?_;refine o.v1 (au (A.O.drop 2) dV) ?_;refine o.aa ?_;have O:j<t.ml.length:=by omega
  obtain⟨y,L⟩:∃q,q=t.ml[j]:=⟨_,rfl⟩;have a1:y∈t.ml:=by rw[L];exact List.getElem_mem O
  have gN:=cd y a1;refine o.b1 (Y.bU hm (j) rfl c9 dp rfl rfl) fun fN a9=>?_;refine o.v1 (Y.cast (v2:= .agg (db y).toArray) (a_ a9.O ji dp (fc _)) (by rw[L])) ?_;refine o.aS (dk l9) ?_;rintro v6 cl ⟨rfl,B,ar,fZ,eo⟩;have fE:cl.size=X.size+1:=by rw[eo];simp
  have er:=(ax.new (cr.mono n.size):ax _ (X.size+1));have du:=(ax.new (ct.mono n.size):ax _ (X.size+1));have cC:af (J.size+1) (X.size+1):=af.new F.lt;have dM:af (M.size+1) (X.size+1):=af.new A.lt;have dN:U 0 J.size (X.size+1):=U.new n.size;have dP:U 0 ba.size (X.size+1):=U.new E.size;have C:=C.N ar;have hm:=hm.N ar;have F:=F.N ar;have A:=A.N ar;have n:=n.L ar;have E:=E.L ar;have f_:=ar.size;refine o.s1 (eh B (_) (db y) (kC y) dp (fc _) ((dJ (fc _).symm))) fun fF bT=>?_;obtain⟨B,ac⟩:=bT;have ac:=ac.bB;have C:=C.ae ac (ay.I er);have hm:=hm.ae ac (ay.I du);have F:=F.ae ac (ag.I cC);have A:=A.ae ac (ag.I dM);have n:=n.bx ac (ah.I (ao.q dN));have E:=E.bx ac (ah.I (ao.q dP));have ga:=ac.size;refine o.nil (cp (G.t2 (fun be dQ=>G.L (fun dS=>?_))));refine o.v1 (Y.an B.O rfl cv rfl bV) ?_;refine o.v1 (au B.O bR) ?_;refine aV p2 (qY y.n w0 _ (by omega)) (fun gb et eu=>?_);obtain⟨rfl,aa⟩:=eu;have C:=C.N aa;have hm:=hm.N aa;have F:=F.N aa;have A:=A.N aa;have B:=B.N aa;have n:=n.L aa;have E:=E.L aa;have gf:=aa.size;refine o.v1 da (o.nil (dS ?_));refine aW (fun aH=>?_) (fun aH=>?_)
  ·
   refine G.L (fun bi=>?_);refine o.al ?_;refine bi ?_;refine G.ret (dQ (bb (a5 (aQ (a4 (a3 (az ?_)))))));exact⟨by rw[qL (e:=7) O aL (by rw[←L];unfold fV;rw[if_pos aH]) (by decide)],n⟩
  ·
   refine G.skip (be (G.t2 (fun dT aD=>G.L (fun dU=>?_))));refine o.al ?_;refine dU (G.aD (fun _ dX dY=>?_))
   refine G.bc (fun(k:(Nat))=>[(2,.pointer (some ⟨J.size,0,none⟩)),(3,.pointer (some ⟨M.size,0,none⟩)),(5,.int .i64 (j:Int)),(6,.pointer (some ⟨X.size,0,none⟩)),(7,.int .i64 (k:Int))])
    (fun(k:(Nat)) (H:Heap)=>(k≤j)∧(∀q,q<k→∀V:q<t.ml.length,¬t.ml[q].n=y.n)∧aq et H)
    (fun(k:(Nat))=>j-k) 0 ⟨rfl,rfl,rfl,rfl,rfl,trivial⟩ ?_ ?_
   ·
    exact⟨(by omega),(fun q h=>absurd h (Nat.not_lt_zero _)),W.refl _ _⟩
   intro k b6 cB gg dZ bK;obtain⟨fq,a6,S⟩:=cB;have C:=C.N S;have hm:=hm.N S;have F:=F.N S;have A:=A.N S;have B:=B.N S;have n:=n.L S;have E:=E.L S;have gi:=S.size;refine G.t2 (fun ea ec=>G.L (fun br=>?_));refine o.az 2 ?_;refine o.v1 bH (o.nil (br ?_));refine aW (fun ew=>?_) (fun ew=>?_)
   ·
    refine G.skip (ea (G.t2 (fun ee ef=>G.aD (fun ei _ bv=>G.t1 (fun ej=>?_)))));refine ik ?_;refine o.v1 (Y.an A.O rfl bt rfl dO) ?_;refine o.v1 (au (A.O.drop 2) dV) ?_;refine o.aa ?_;have bm:k<t.ml.length:=by omega
    obtain⟨z,ab⟩:∃q,q=t.ml[k]:=⟨_,rfl⟩;refine o.b1 (Y.bU hm (k) rfl c9 dp rfl rfl) fun fG bN=>?_;refine o.v1 (Y.an bN.O rfl cv rfl bV) ?_;refine o.v1 (Y.cast (v2:=aK z.n) (au (bN.O.drop 0) bR) (by rw[ab])) ?_;refine o.v1 (Y.an B.O rfl cv rfl bV) ?_;refine o.v1 (au B.O bR) ?_;refine o.v1 (Y.lr rfl rfl rfl) (o.nil (ej ?_));refine aW (fun bE=>?_) (fun bE=>?_)
    ·
     refine G.L (fun ek=>?_);refine o.al ?_;refine ek ?_;refine G.ret (bv (ef (bK (dY (aD (bb (a5 (aQ (a4 (a3 (az ?_)))))))))));exact⟨by rw[qL (e:=18) O aL (by rw[←L];unfold fV;rw[if_neg aH,if_pos (Dj (k:=k) (by omega) bm (by rw[←ab];exact bE))]) (by decide)],n⟩
    ·
     refine G.skip (ei (ee (G.region ?_)));refine o.aa ?_;refine o.v1 bD ?_;refine o.al ?_;refine aR.sub (dZ (k+1) _ ?_ ?_) ⟨rfl,rfl,(aF (by omega)),rfl,(aF (by omega)),trivial⟩
     ·exact⟨(by omega),(fun q h V=>by rcases Nat.lt_succ_iff_lt_or_eq.1 h with Z|rfl;exact a6 q Z V;rw[←ab];exact bE),S⟩
     ·first|omega|(simp only;omega)|(simp;omega)
   ·
    have fr:k=j:=by omega
    rw[fr]at a6;refine G.exit (ec (bK (dX ?_)));refine dT (G.t2 (fun c0 c2=>G.t1 (fun c3=>?_)));refine dg (fun al=>aq b6 al) [] ?_;have aM:=aq.refl b6;refine T.t1 0 rfl (fun al Q=>a_ (F.O.N Q) gY ev (cO _)) aM ?_;refine T.t1 1 rfl (fun al Q=>Y.an (B.O.N Q) rfl cv rfl bV) aM ?_;refine T.t1 2 rfl (fun al Q=>au (B.O.N Q) bR) aM ?_;refine T.t1 4 rfl (fun al Q=>Y.an (B.O.N Q) rfl cv rfl bd) aM ?_;refine T.t1 5 rfl (fun al Q=>Y.cast (v2:=bs y.I) (a_ (((B.O.drop 1).N Q).take 32) cj bd (by rw[hs];exact bC _)) (cn (hs _))) aM ?_;refine T.aX 3 ?_;refine b7 p1 (pU s y.n w0 _ C.any) (fun gj ez eP=>?_);obtain⟨rfl,aX⟩:=eP;have B:=B.N aX;have n:=n.L aX;have E:=E.L aX;have gk:=aX.size;have cu:=aM.L aX;refine T.cD cu ?_;have b1:=aq.refl ez;refine T.t1 6 rfl (fun al Q=>Y.kt rfl Tryz.eqGuardType26 (fun w=>gR 9998 Tryz.underlying26 Tryz.underlying5 cK ed ((gd (bh s.aY) y.n).2) (y.I.2) w) rfl rfl) b1 ?_;refine cI ?_;have gL:=b1;refine c3 ?_;refine aW (fun bc=>?_) (fun bc=>?_)
    ·
     refine G.L (fun c5=>?_);refine o.al ?_;refine c5 ?_;refine G.ret (c2 (bb (a5 (aQ (a4 (a3 (az ?_)))))));exact⟨by rw[qL (e:=21) O aL (by rw[←L];unfold fV;rw[if_neg aH,if_neg (s3 a6),if_pos (fun e=>bc (congrArg Subtype.val e))]) (by decide)],n⟩
    ·
     refine G.skip (c0 (G.L (fun c6=>?_)));refine o.v1 (Y.an B.O rfl cv rfl bd) ?_;refine o.v1 (Y.cast (v2:=bs y.w) (a_ ((B.O.drop 33).take 32) cj bd (by rw[fe];exact bC _)) (cn (fe _))) ?_;refine o.v1 (Y.an B.O rfl cv rfl bd) ?_;refine o.v1 (Y.cast (v2:=bs y.I) (a_ ((B.O.drop 1).take 32) cj bd (by rw[hs];exact bC _)) (cn (hs _))) ?_;refine o.v1 (Y.ka rfl Tryz.eqGuardType26 (fun w=>gR 9998 Tryz.underlying26 Tryz.underlying5 cK ed (y.w.2) (y.I.2) w) rfl rfl) (o.nil (c6 ?_));refine aW (fun bB=>?_) (fun bB=>?_)
     ·
      refine G.L (fun c7=>?_);refine o.al ?_;refine c7 ?_;refine G.ret (bb (a5 (aQ (a4 (a3 (az ?_))))));exact⟨by rw[qL (e:=26) O aL (by rw[←L];unfold fV;rw[if_neg aH,if_neg (s3 a6),if_neg (fun e=>e (Subtype.ext (Classical.not_not.1 bc))),if_pos (Subtype.ext bB)]) (by decide)],n⟩
     ·
      refine G.skip (eN (eM (G.region ?_)));refine o.aa ?_;refine o.v1 bD ?_;refine o.al ?_;refine aR.sub (eH (j+1) _ ?_ ?_) ⟨rfl,rfl,(aF (by omega)),trivial⟩
      ·exact⟨(by omega),(fun q h V=>by rcases Nat.lt_or_ge q j with Z|Z;exact aL q Z V;obtain rfl:q=j:=(by omega);rw[←L];unfold fV;rw[if_neg aH,if_neg (s3 a6),if_neg (fun e=>e (Subtype.ext (Classical.not_not.1 bc))),if_neg (fun e=>bB (congrArg Subtype.val e))]),E⟩
      ·first|omega|(simp only;omega)|(simp;omega)
 ·
  obtain rfl:j=t.ml.length:=by omega
  have a8:fW (bh s.aY) [] t.ml=0:=sT (fun i cc=>by rw[List.nil_append];exact aL i cc cc);have fx:=y_ fu a8;refine G.exit (eJ (aQ (eF ?_)));refine eD (G.L (fun c8=>?_));refine o.v1 (Y.an F.O rfl cH rfl h2) ?_;refine o.v1 (au (F.O.drop 1) jh) ?_;refine o.al ?_;refine c8 (G.t1 (fun c_=>G.L (fun dc=>?_)));refine o.al ?_;refine dc (G.aD (fun _ de _=>?_))
  refine G.bc (fun(bF:(Nat)×(aO)×(List cx)×(Nat→Prop))=>match bF with|(i2,aC,ul,aN)=>[(3,.pointer (some ⟨M.size,0,none⟩)),(8,aC.v),(9,.int .i64 (i2:Int))])
   (fun(i2,aC,ul,aN) (H:Heap)=>(i2≤t.ml.length)∧(∀u:Unit,Rd aN H dE 33 aC.v ul)∧(bk aN H.size)∧(bh ul=(t.ml.take i2).foldl dH (bh s.aY))∧(ul.length≤200+i2)∧aq X H)
   (fun(i2,aC,ul,aN)=>t.ml.length-i2) (0,s.fN,s.aY,fun b=>True∧b<J.size) ⟨rfl,rfl,rfl,trivial⟩ ?_ ?_
  ·
   exact⟨(by omega),(fun _=>C),(fun b e=>Nat.lt_of_lt_of_le e.2 n.size),rfl,(by omega),W.refl _ _⟩
  rintro⟨i2,aC,ul,aN⟩ b8 fg gl df dh;obtain⟨gF,hu,cz,ae,gI,an⟩:=fg;have hm:=hm.N an;have A:=A.N an;have n:=n.L an;have b9:=an.size;refine G.t2 (fun di dj=>G.L (fun dm=>?_));refine o.aa ?_;refine o.v1 (Y.an A.O rfl bt rfl dO) ?_;refine o.v1 (au (A.O.drop 2) dV) ?_;refine o.v1 (bf hm c9) ?_;refine o.v1 bH (o.nil (dm ?_));refine aW (fun bj=>?_) (fun bj=>?_)
  ·
   refine G.skip (di (G.t1 (fun dq=>G.aD (fun dr _ _=>G.region ?_))));refine o.aa ?_;refine o.v1 (Y.an A.O rfl bt rfl dO) ?_;refine o.v1 (au (A.O.drop 2) dV) ?_;refine o.aa ?_;have O:i2<t.ml.length:=by omega
   obtain⟨y,L⟩:∃q,q=t.ml[i2]:=⟨_,rfl⟩;refine o.b1 (Y.bU hm (i2) rfl c9 dp rfl rfl) fun dW dx=>?_;refine o.v1 (Y.cast (v2:= .agg (db y).toArray) (a_ dx.O ji dp (fc _)) (by rw[L])) ?_;refine aV BK (El _ ul y w0 _ (hu ()).any (by omega)) (fun gm gn dd=>?_);obtain⟨fh,gB,rfl,bA,gv,bO⟩:=dd;have an:=an.L bO;have gw:=bO.size;have fD:=bA.le;have cf:bh (mG y ul)=(t.ml.take (i2+1)).foldl dH (bh s.aY):=by rw[lQ O,←L,←ae];exact Er y ul (by rw[ae];exact kE d_)
   refine o.al ?_;refine dr (dq (G.region ?_));refine o.aa ?_;refine o.v1 bD ?_;refine o.al ?_;refine aR.sub (df (i2+1,fh,mG y ul,fun b=>b+1=gB) _ ?_ ?_) ⟨rfl,rfl,(aF (by omega)),trivial⟩
   ·exact⟨(by omega),(fun _=>bA.rd),(bk.of bA.le),cf,(by rw[←ph,cf,lQ O];refine Nat.le_trans (Ev _ _) ?_;rw[←ae,ph];omega),an⟩
   ·first|omega|(simp only;omega)|(simp;omega)
  ·
   obtain rfl:i2=t.ml.length:=by omega
   rw[List.take_length]at ae;refine G.exit (dj (dh (de ?_)));refine c_ (G.t2 (fun dy dz=>G.L (fun dA=>?_)));refine o.aa ?_;refine o.v1 (bf (hu ()) hF) ?_;refine o.v1 eX (o.nil (dA ?_));refine aW (fun fi=>?_) (fun fi=>?_)
   ·
    refine G.L (fun dC=>?_);refine o.al ?_;refine dC ?_;refine G.ret (dz (az ?_));exact⟨by rw[e3,if_neg (by rw[a8];decide),if_pos (by rw[←ae,ph];omega)],n⟩
   ·
    have ca:¬200<(t.ml.foldl dH (bh s.aY)).length:=by rw[←ae,ph];omega
    refine G.skip (dy (G.t2 (fun dG dI=>G.L (fun dK=>?_))));refine o.al ?_;refine dK (G.aD (fun _ cE cG=>?_))
    refine G.bc (fun(i3:(Nat))=>[(3,.pointer (some ⟨M.size,0,none⟩)),(8,aC.v),(10,.int .i64 (i3:Int))])
     (fun(i3:(Nat)) (H:Heap)=>(i3≤t.ml.length)∧(∀m∈t.ml.take i3,hC (t.ml.foldl dH (bh s.aY)) m=false)∧aq b8 H)
     (fun(i3:(Nat))=>t.ml.length-i3) 0 ⟨rfl,rfl,rfl,trivial⟩ ?_ ?_
    ·
     exact⟨(by omega),(fun m h=>by simp at h),W.refl _ _⟩
    intro i3 aS fj gp bQ bU;obtain⟨gG,Z,K⟩:=fj;have hm:=hm.N K;have A:=A.N K;have hu:=fun u=>(hu u).N K;have n:=n.L K;have gx:=K.size;refine G.t2 (fun cJ cL=>G.L (fun cP=>?_));refine o.aa ?_;refine o.v1 (Y.an A.O rfl bt rfl dO) ?_;refine o.v1 (au (A.O.drop 2) dV) ?_;refine o.v1 (bf hm c9) ?_;refine o.v1 bH (o.nil (cP ?_));refine aW (fun dl=>?_) (fun dl=>?_)
    ·
     refine G.skip (cJ (G.t2 (fun bW cQ=>G.aD (fun cR cV cW=>G.L (fun cX=>?_)))));refine o.v1 (Y.an A.O rfl bt rfl dO) ?_;refine o.v1 (au (A.O.drop 2) dV) ?_;refine o.aa ?_;have O:i3<t.ml.length:=by omega
     obtain⟨y,L⟩:∃q,q=t.ml[i3]:=⟨_,rfl⟩;have a1:y∈t.ml:=by rw[L];exact List.getElem_mem O
     refine o.b1 (Y.bU hm (i3) rfl c9 dp rfl rfl) fun cy dL=>?_;refine o.v1 (Y.cast (v2:= .agg (db y).toArray) (a_ dL.O ji dp (fc _)) (by rw[L])) ?_;refine o.aS (dk l9) fun gr dn fk=>?_;obtain⟨rfl,P,bl,gy,eS⟩:=fk;have fH:dn.size=aS.size+1:=by rw[eS];simp
     have eT:=(ax.new (cz.mono (by omega)):ax _ (aS.size+1));have eU:U 0 J.size (aS.size+1):=U.new n.size;have eV:U 0 b8.size (aS.size+1):=U.new K.size;have hu:=fun u=>(hu u).N bl;have n:=n.L bl;have K:=K.L bl;have e_:=bl.size;refine o.s1 (eh P (_) (db y) (kC y) dp (fc _) ((dJ (fc _).symm))) fun aw cA=>?_;obtain⟨P,aI⟩:=cA;have aI:=aI.bB;have hu:=fun u=>(hu u).ae aI (ay.I eT);have n:=n.bx aI (ah.I (ao.q eU));have K:=K.bx aI (ah.I (ao.q eV));have ds:=aI.size;refine o.nil (cX (G.t2 (fun ce eW=>G.L (fun eY=>?_))));refine o.v1 (Y.an P.O rfl cv rfl bd) ?_;refine o.v1 (Y.cast (v2:=bs y.I) (a_ ((P.O.drop 1).take 32) cj bd (by rw[hs];exact bC _)) (cn (hs _))) ?_;refine o.v1 (Y.build (v:=bs bq) rfl rfl (by intro w;kernel_rfl)) ?_;refine o.v1 (Y.cast (v2:= .bool (decide (¬y.I=bq))) (Y.kt rfl Tryz.eqGuardType26 (fun w=>gR 9998 Tryz.underlying26 Tryz.underlying5 cK ed (y.I.2) (bq.2) w) rfl rfl) ((congrArg Value.bool (decide_eq_decide.2 ⟨fun h e=>h (congrArg Subtype.val e),fun h e=>h (Subtype.ext e)⟩)))) ?_;refine o.aa ?_;refine o.join (d:=96) (v:= .bool (decide (¬(y.I=bq∧y.w≠bq)))) 5 (fun bJ=>?_) ?_
     ·
      refine o.bp (d:=91) rfl (fun aT=>?_) (fun aT=>?_)
      ·
       refine o.az 5 ?_;exact bJ _ (congrArg (fun b=>some (Value.bool b)) (by simp[aT])) (ai (ai (ai (ai (ai (bL (congrArg Value.bool (decide_eq_true aT).symm)))))))
      ·
       refine o.ar (Y.an P.O rfl cv rfl bd) ?_;refine o.ar (Y.cast (v2:=bs y.w) (a_ ((P.O.drop 33).take 32) cj bd (by rw[fe];exact bC _)) (cn (fe _))) ?_;refine o.ar (Y.build (v:=bs bq) rfl rfl (by intro w;kernel_rfl)) ?_;refine o.ar (Y.cast (v2:= .bool (decide (y.w=bq))) (Y.ka rfl Tryz.eqGuardType26 (fun w=>gR 9998 Tryz.underlying26 Tryz.underlying5 cK ed (y.w.2) (bq.2) w) rfl rfl) ((congrArg Value.bool (decide_eq_decide.2 ⟨fun e=>Subtype.ext e,fun e=>congrArg Subtype.val e⟩)))) ?_;refine o.dy ?_;exact bJ _ (congrArg (fun b=>some (Value.bool b)) (by simp[aT])) (ai (ai (ai (ai (ai (bL (congrArg Value.bool (decide_eq_false aT).symm)))))))
     refine o.nil (eY ?_);refine aW (fun dR=>?_) (fun dR=>?_)
     ·
      have bn:=dR;refine G.exit (eW (cV ?_));refine bW (G.region ?_);refine o.aa ?_;refine o.v1 bD ?_;refine o.al ?_;refine aR.sub (bQ (i3+1) _ ?_ ?_) ⟨rfl,rfl,(aF (by omega)),trivial⟩
      ·exact⟨(by omega),mi Z O (by rw[←L];unfold hC;rw[decide_eq_false bn];rfl),K⟩
      ·first|omega|(simp only;omega)|(simp;omega)
     ·
      have bn:y.I=bq∧¬y.w=bq:=Classical.not_not.1 dR;refine G.skip (ce (G.L (fun ci=>?_)));refine o.al ?_;refine ci (G.t1 (fun eZ=>G.L (fun e0=>?_)));refine o.al ?_;refine e0 (G.aD (fun _ e1 _=>?_))
      refine G.bc (fun(bF:(Nat)×(aO)×(Nat)×(List aJ))=>match bF with|(k,so,aB,out)=>[(3,.pointer (some ⟨M.size,0,none⟩)),(8,aC.v),(10,.int .i64 (i3:Int)),(11,.pointer (some ⟨aS.size,0,none⟩)),(12,so.v),(13,.int .i64 (k:Int))])
       (fun(k,so,aB,out) (H:Heap)=>(k≤ul.length)∧(aU aB 9 H fy 1 so.v out)∧(out=((ul.take k).map (·.n)).filter (fun x=>decide (x≠y.n)))∧(out.length≤k)∧(U 0 aw.size aB)∧aq aw H)
       (fun(k,so,aB,out)=>ul.length-k) (0,dw,0,[]) ⟨rfl,rfl,rfl,rfl,rfl,rfl,trivial⟩ ?_ ?_
      ·
       exact⟨(by omega),aU.nil mx ns,rfl,(by simp),U.refl _ _,W.refl _ _⟩
      rintro⟨k,so,aB,out⟩ fl fm gu bX e2;obtain⟨fq,R,a7,gK,cD,N⟩:=fm;have hu:=fun u=>(hu u).N N;have P:=P.N N;have n:=n.L N;have K:=K.L N;have gz:=N.size;have cq:=R.le;have bo:=cD;refine G.t2 (fun e4 co=>G.L (fun e5=>?_));refine o.az 2 ?_;refine o.v1 (bf (hu ()) hF) ?_;refine o.v1 bH (o.nil (e5 ?_));refine aW (fun e6=>?_) (fun e6=>?_)
      ·
       refine G.skip (e4 (G.t1 (fun bY=>G.aD (fun bZ _ _=>G.t1 (fun e7=>?_)))));refine ik ?_;refine o.az 2 ?_;have bm:k<ul.length:=by omega
       obtain⟨z,ab⟩:∃q,q=ul[k]:=⟨_,rfl⟩;refine o.b1 (Y.bU (hu ()) (k) rfl hF iI rfl rfl) fun fI b2=>?_;refine o.v1 (Y.an b2.O rfl l6 rfl bV) ?_;refine o.v1 (Y.cast (v2:=aK z.n) (au (b2.O.drop 0) bR) (by rw[ab])) ?_;refine o.v1 (Y.an P.O rfl cv rfl bV) ?_;refine o.v1 (au P.O bR) ?_;refine o.v1 (Y.iZ rfl rfl rfl) (o.nil (e7 ?_));refine aW (fun bp=>?_) (fun bp=>?_)
       ·
        refine G.region ?_;refine o.az 3 ?_;refine o.b1 (Y.bU (hu ()) (k) rfl hF iI rfl rfl) fun fJ b5=>?_;refine o.v1 (Y.an b5.O rfl l6 rfl bV) ?_;refine o.v1 (Y.cast (v2:=aK z.n) (au (b5.O.drop 0) bR) (by rw[ab])) ?_;refine o.aS (cS _ ([z.n]) oV mx ns (rfl)) fun gA b0 cs=>?_;obtain⟨fA,am,fK,a0⟩:=cs;have fO:b0.size=fl.size+1:=by rw[a0];simp
        have R:=R.N am;have N:=N.L am;have gC:=am.size;refine o.aS (eg R fA.rd oV (by simp;omega) (by simp;omega)) fun cg gD bw=>?_;obtain⟨bu,R,bz,bg⟩:=bw;have bz:U aB b0.size bu:=bz;have bg:=bg.md;have cZ:U 0 aw.size bu:=U.L (bo) bz N.size;have N:=N.bx bg (ah.I (ao.q bo));have gE:=bg.size;have cq:=R.le;obtain⟨e8,rfl⟩:∃s:aO,cg=s.v:=⟨cm cg,R.bm.symm⟩;refine o.al ?_;refine bZ (bY (G.region ?_));refine o.aa ?_;refine o.v1 bD ?_;refine o.al ?_;refine aR.sub (bX (k+1,e8,bu,out++[z.n]) _ ?_ ?_) ⟨rfl,rfl,(aF (by omega)),rfl,rfl,(aF (by omega)),trivial⟩
        ·exact⟨(by omega),R,by rw[List.take_succ_eq_append_getElem bm,List.map_append,List.filter_append,←a7];simp[←ab,bp],(by simp;omega),cZ,N⟩
        ·first|omega|(simp only;omega)|(simp;omega)
       ·
        refine G.skip (bZ (bY (G.region ?_)));refine o.aa ?_;refine o.v1 bD ?_;refine o.al ?_;refine aR.sub (bX (k+1,so,aB,out) _ ?_ ?_) ⟨rfl,rfl,(aF (by omega)),rfl,rfl,(aF (by omega)),trivial⟩
        ·exact⟨(by omega),R,by rw[List.take_succ_eq_append_getElem bm,List.map_append,List.filter_append,←a7];simp[←ab,Classical.not_not.1 bp],(by omega),bo,N⟩
        ·first|omega|(simp only;omega)|(simp;omega)
      ·
       obtain rfl:k=ul.length:=by omega
       rw[List.take_length]at a7;have fz:=nN a8 y a1;have cb:iy y.n out=if hC (t.ml.foldl dH (bh s.aY)) y=true then 13 else 0:=by rw[a7,←ae];exact CY fz bn.1 bn.2
       have fw:∀x∈out,x.length≤140737488355328:=fun x ck=>by
        rw[a7]at ck;obtain⟨z9,b9,fo⟩:=List.mem_map.1 (List.mem_filter.1 ck).1;have fp:=fx (z9.n,z9.i) (by rw[←ae];exact List.mem_map.2 ⟨z9,b9,rfl⟩);rw[←fo];simp only at fp;omega
       refine G.exit (co (e2 (e1 ?_)));refine eZ (G.L (fun e9=>?_));refine o.v1 (Y.an P.O rfl cv rfl bV) ?_;refine o.v1 (au P.O bR) ?_;refine o.aa ?_;refine aV AJ (FY y.n _ out w0 _ R.rd.any (cd y a1) fw) (fun fP fQ fa=>?_);obtain⟨rfl,ap⟩:=fa;have n:=n.L ap;have K:=K.L ap;have fR:=ap.size;refine o.v1 da (o.nil (e9 ?_));refine aW (fun bx=>?_) (fun bx=>?_)
       ·
        refine G.L (fun ff=>?_);refine o.al ?_;refine ff ?_;refine G.ret (cW (cQ (bU (cG (dI (az ?_))))));exact⟨by have aZ:hC (t.ml.foldl dH (bh s.aY)) y=true:=(by cases aZ:hC (t.ml.foldl dH (bh s.aY)) y with|true=>rfl|false=>exact absurd (by rw[cb,aZ];rfl) bx);rw[e3,if_neg (by rw[a8];decide),if_neg ca,wh a1 aZ],n⟩
       ·
        refine G.skip (cR (bW (G.region ?_)));refine o.aa ?_;refine o.v1 bD ?_;refine o.al ?_;refine aR.sub (bQ (i3+1) _ ?_ ?_) ⟨rfl,rfl,(aF (by omega)),trivial⟩
        ·exact⟨(by omega),mi Z O (by rw[←L];cases aZ:hC (t.ml.foldl dH (bh s.aY)) y with|false=>rfl|true=>exact absurd (by rw[cb,aZ];decide) bx),K⟩
        ·first|omega|(simp only;omega)|(simp;omega)
    ·
     refine G.exit (cL (bU (cE ?_)));refine dG (G.L (fun ey=>?_));refine o.al ?_;refine ey ?_;refine G.ret (az ?_);exact⟨by obtain rfl:i3=t.ml.length:=(by omega);rw[List.take_length]at Z;rw[e3,if_neg (by rw[a8];decide),if_neg ca,wi Z],n⟩
end rC

namespace rD
open E Go.RowKit eY fm fw fA ez eZ e0 fI fJ fQ gb eL gL gM h8 ob pG kZ m3 od rC dm
section
variable {s : dZ} {t : bP}
theorem B1(h:ef t=1):dD s t=1:=by unfold dD;rw[if_pos (by rw[h];decide),h]
theorem B2(i:ef t=0)(h:fg t≠0):dD s t=7:=by
 have e:fg t=7:=by
  unfold fg at h⊢;split
  ·rename_i d
   rw[if_pos d]at h;rcases p8 t.ak with e|e
   ·exact absurd e h
   ·exact e
  ·rename_i d;rw[if_neg d]at h;exact absurd rfl h
 unfold dD;rw[if_neg (by rw[i];decide),if_pos h,e]
theorem B3(d:ef t=0)(i:fg t=0)(h:e3 s.bI t.ml≠0):dD s t=e3 s.bI t.ml:=by unfold dD;rw[if_neg (by rw[d];decide),if_neg (by rw[i];decide),if_pos h]
theorem B4(d:ef t=0)(i:fg t=0)(V:e3 s.bI t.ml=0)(h:gi t≠0):dD s t=gi t:=by unfold dD;rw[if_neg (by rw[d];decide),if_neg (by rw[i];decide),if_neg (by rw[V];decide),if_pos h]
theorem p6(d:ef t=0)(i:fg t=0)(V:e3 s.bI t.ml=0)(j:gi t=0):dD s t=hX s.g_ t.el:=by unfold dD;rw[if_neg (by rw[d];decide),if_neg (by rw[i];decide),if_neg (by rw[V];decide),if_neg (by rw[j];decide)]
end
theorem Eb{el:List bu}(h:hW el=0):∀x∈el,¬x.k=bq∧x.d.length≤65536:=fun x i=>by
 have d:=o5 h x i;unfold gE at d;split at d
 ·cases d
 ·rename_i V
  split at d
  ·cases d
  ·exact⟨V,by omega⟩
theorem r7(l:List bu):(cq l).length=l.length:=List.length_map ..
theorem w6{l:jz}{el:List bu}{i:Nat}{e:Int}(k:i<el.length)(j:∀x∈el.take i,gE x=0)(he:gE el[i]=e)(aC:e≠0):hX l el=e:=by
 have d:=sG k j (by rw[he];exact aC);rw[hX,if_pos (by rw[d,he];exact aC),d,he]
set_option maxHeartbeats 1600000 in
theorem Fw(s:c1)(t:bP)(F aQ:Nat→Prop)(w0:World)(J:Heap)
 (aj:fo F J s) (bl:bk F J.size) (n:eU aQ J t) (ct:bk aQ J.size) (ok:s.m.Ok) (K:lG t):
 aG Tryz.prog w0 20 #[eR s,ep t] J (fun r B=>r= .int .i64 (dD s.m t)∧aq J B):=by
 refine aG.aN [eR s,ep t] Tryz.func20 ?_;intro cV C;have k:aq J J:=W.refl _ _;have dS:=n.m.len;have dN:=n.e.len;have aS:=K.ak;have z2:=K.br;have cR:s.aY.length≤200:=by have:=ok.hi;rwa[show s.m.bI=bh s.aY from rfl,ph]at this
 have dU:s.el.length≤500:=by have:=ok.iW;rwa[show s.m.g_=cq s.el from rfl,r7]at this
 refine G.L (fun cB=>?_);refine o.aS cY ?_;rintro v2 B ⟨rfl,A,ae,dq,cC⟩;have dA:B.size=J.size+1:=by rw[cC];simp
 have aj:=aj.N ae;have n:=n.N ae;have k:=k.L ae;have dr:=ae.size;have A:Var 47 B J.size (b3 s):=A;refine o.aS cY ?_;rintro v3 Q ⟨rfl,j,ap,dt,cD⟩;have dC:Q.size=B.size+1:=by rw[cD];simp
 have aj:=aj.N ap;have n:=n.N ap;have A:=A.N ap;have k:=k.L ap;have du:=ap.size;have j:Var 32 Q B.size (dB t):=j;refine o.al ?_;refine cB (G.t2 (fun bv cG=>G.L (fun cI=>?_)));refine o.v1 (Y.an j.O rfl bt rfl dz) ?_;refine o.v1 (au j.O ec) ?_;refine o.v1 eG ?_;refine o.aa ?_;refine o.join (d:=16) (v:= .bool (decide (t.bz=false∧t.aj=false))) 4 (fun aN=>?_) ?_
 ·
  refine o.split (d:=12) rfl (fun aB=>?_) (fun aB=>?_)
  ·
   refine o.ar (Y.an j.O rfl bt rfl dz) ?_;refine o.ar (au (j.O.drop 3) ec) ?_;refine o.ar eG ?_;refine o.O ?_;exact aN _ (congrArg (fun b=>some (Value.bool b)) (by cases aL:t.bz<;>cases V:t.aj<;>simp_all)) (ai (ai (ai (ai (bL (congrArg Value.bool aB.symm))))))
  ·
   refine o.az 4 ?_;exact aN _ (congrArg (fun b=>some (Value.bool b)) (by cases aL:t.bz<;>simp_all)) (ai (ai (ai (ai (bL (congrArg Value.bool aB.symm))))))
 refine o.aa ?_;refine o.join (d:=22) (v:= .bool (decide ((t.bz=false∧t.aj=false)∧(t.ml.length:Int)=0))) 5 (fun aO=>?_) ?_
 ·
  refine o.bp (d:=17) rfl (fun R=>?_) (fun R=>?_)
  ·
   refine o.ar (Y.an j.O rfl bt rfl dO) ?_;refine o.ar (au (j.O.drop 2) dV) ?_;refine o.ar (bf n.m c9) ?_;refine o.ar cb ?_;refine o.O ?_;exact aO _ (congrArg (fun b=>some (Value.bool b)) (decide_eq_decide.2 ⟨fun h=>⟨R,h⟩,fun h=>h.2⟩)) (ai (ai (ai (ai (ai (bL (congrArg Value.bool (decide_eq_true R).symm)))))))
  ·
   refine o.az 5 ?_;exact aO _ (congrArg (fun b=>some (Value.bool b)) ((decide_eq_false (fun h=>R h.1)).symm)) (ai (ai (ai (ai (ai (bL (congrArg Value.bool (decide_eq_false R).symm)))))))
 refine o.aa ?_;refine o.join (d:=28) (v:= .bool (decide (((t.bz=false∧t.aj=false)∧(t.ml.length:Int)=0)∧(t.el.length:Int)=0))) 5 (fun aP=>?_) ?_
 ·
  refine o.bp (d:=23) rfl (fun S=>?_) (fun S=>?_)
  ·
   refine o.ar (Y.an j.O rfl bt rfl dT) ?_;refine o.ar (au j.O.gU eA) ?_;refine o.ar (bf n.e cA) ?_;refine o.ar cb ?_;refine o.O ?_;exact aP _ (congrArg (fun b=>some (Value.bool b)) (decide_eq_decide.2 ⟨fun h=>⟨S,h⟩,fun h=>h.2⟩)) (ai (ai (ai (ai (ai (bL (congrArg Value.bool (decide_eq_true S).symm)))))))
  ·
   refine o.az 5 ?_;exact aP _ (congrArg (fun b=>some (Value.bool b)) ((decide_eq_false (fun h=>S h.1)).symm)) (ai (ai (ai (ai (ai (bL (congrArg Value.bool (decide_eq_false S).symm)))))))
 refine o.nil (cI ?_);refine aW (fun af=>?_) (fun af=>?_)
 ·
  refine G.L (fun cJ=>?_);refine o.al ?_;refine cJ ?_;refine G.ret (cG (C ?_));exact⟨(congrArg (Value.int .i64) (B1 (by unfold ef;rw[if_pos ⟨af.1.1.1,af.1.1.2,List.eq_nil_of_length_eq_zero (by omega),List.eq_nil_of_length_eq_zero (by omega)⟩]))).symm,k⟩
 ·
  have E:ef t=0:=by
   unfold ef;rw[if_neg];rintro⟨aL,V,cL,cP⟩;exact af ⟨⟨⟨aL,V⟩,by rw[cL];rfl⟩,by rw[cP];rfl⟩
  refine G.skip (bv ?_)
  refine G.bw (fun(_:Unit)=>[(2,.pointer (some ⟨J.size,0,none⟩)),(3,.pointer (some ⟨B.size,0,none⟩))])
   (fun(_:Unit) (H:Heap)=>(fg t=0)∧aq Q H) (fun _ bm bY=>?_) ?_
  ·
   have an:aq Q Q:=W.refl _ _;refine G.L (fun bn=>?_);refine o.v1 (Y.an j.O rfl bt rfl dz) ?_;refine o.v1 (au j.O ec) ?_;refine o.aa ?_;refine o.join (d:=35) (v:= .bool (decide (t.bz=true∧¬t.ak=[]))) 4 (fun aT=>?_) ?_
   ·
    refine o.split (d:=31) rfl (fun T=>?_) (fun T=>?_)
    ·
     refine o.ar (Y.an j.O rfl bt rfl bV) ?_;refine o.ar (au (j.O.drop 1) bR) ?_;refine o.ar (Y.iZ rfl rfl rfl) ?_;refine o.O ?_;exact aT _ (congrArg (fun b=>some (Value.bool b)) (by simp[T])) (ai (ai (ai (ai (bL (congrArg Value.bool T.symm))))))
    ·
     refine o.az 4 ?_;exact aT _ (congrArg (fun b=>some (Value.bool b)) (by simp[T])) (ai (ai (ai (ai (bL (congrArg Value.bool T.symm))))))
   refine o.aa ?_;refine o.bp (d:=36) rfl (fun ag=>?_) (fun ag=>?_)
   ·
    refine o.ar (Y.an j.O rfl bt rfl bV) ?_;refine o.ar (au (j.O.drop 1) bR) ?_;refine o.call rfl p2 rfl bo rfl rfl (qY t.ak w0 _ (by omega)) (fun dw dx bZ=>?_);obtain⟨rfl,aw⟩:=bZ;have k:=k.L aw;have an:=an.L aw;have c2:=aw.size;refine o.ar da ?_;refine o.O ?_;refine o.nil (bn ?_);refine aW (fun aC=>?_) (fun aC=>?_)
    ·
     refine G.L (fun b0=>?_);refine o.al ?_;refine b0 ?_;refine G.ret (bY (C ?_));exact⟨(congrArg (Value.int .i64) (B2 E (by unfold fg;rw[if_pos ag];exact aC))).symm,k⟩
    ·
     refine G.skip ?_;refine aR.sub (bm () _ ?_) ⟨rfl,rfl,trivial⟩;exact⟨by unfold fg;rw[if_pos ag];exact Classical.not_not.1 aC,an⟩
   ·
    refine o.az 5 ?_;refine o.nil (bn ?_);refine dK ?_;refine G.skip ?_;refine aR.sub (bm () _ ?_) ⟨rfl,rfl,trivial⟩;exact⟨by unfold fg;rw[if_neg ag],an⟩
  ·
   intro _ cX bU;obtain⟨P,L⟩:=bU;have aj:=aj.N L;have n:=n.N L;have A:=A.N L;have j:=j.N L;have k:=k.L L;have c3:=L.size;refine G.L (fun b1=>?_);refine o.v1 (a_ A.O gY ev (cO _)) ?_;refine o.v1 (a_ j.O gz fj (dX _)) ?_;refine aV Bw (F3 s t w0 _ aj.r.any ok.fY cR ok.aY n.m.any K.ml K.iW) (fun c5 aH b2=>?_);obtain⟨rfl,N⟩:=b2;have aj:=aj.N N;have n:=n.N N;have A:=A.N N;have j:=j.N N;have k:=k.L N;have c6:=N.size;refine o.al ?_;refine b1 (G.t2 (fun b7 b8=>G.L (fun bB=>?_)));refine o.aa ?_;refine o.v1 da (o.nil (bB ?_));refine aW (fun aI=>?_) (fun aI=>?_)
   ·
    refine G.L (fun bE=>?_);refine o.aP 2 ?_;refine bE ?_;refine G.ret (b8 (C ?_));exact⟨(congrArg (Value.int .i64) (B3 (s:=s.m) E P aI)).symm,k⟩
   ·
    have aa:e3 (bh s.aY) t.ml=0:=Classical.not_not.1 aI;refine G.skip (b7 ?_)
    refine G.bw (fun(_:Unit)=>[(2,.pointer (some ⟨J.size,0,none⟩)),(3,.pointer (some ⟨B.size,0,none⟩))])
     (fun(_:Unit) (H:Heap)=>(gi t=0)∧aq aH H) (fun _ bb bF=>?_) ?_
    ·
     have al:aq aH aH:=W.refl _ _;refine G.L (fun bJ=>?_);refine o.v1 (Y.an j.O rfl bt rfl dz) ?_;refine o.v1 (au (j.O.drop 3) ec) ?_;refine o.aa ?_;refine o.join (d:=55) (v:= .bool (decide (t.aj=true∧¬t.q.k=0))) 5 (fun aX=>?_) ?_
     ·
      refine o.split (d:=50) rfl (fun U=>?_) (fun U=>?_)
      ·
       refine o.ar (Y.an j.O rfl bt rfl dY) ?_;refine o.ar (Y.an (j.O.drop 4) rfl bN rfl b6) ?_;refine o.ar (au j.O.pw cE) ?_;refine o.ar da ?_;refine o.O ?_;exact aX _ (congrArg (fun b=>some (Value.bool b)) (by simp[U])) (ai (ai (ai (ai (ai (bL (congrArg Value.bool U.symm)))))))
      ·
       refine o.az 5 ?_;exact aX _ (congrArg (fun b=>some (Value.bool b)) (by simp[U])) (ai (ai (ai (ai (ai (bL (congrArg Value.bool U.symm)))))))
     refine o.nil (bJ ?_);refine aW (fun X=>?_) (fun X=>?_)
     ·
      refine G.L (fun bK=>?_);refine o.v1 (Y.an j.O rfl bt rfl dY) ?_;refine o.v1 (Y.cast (v2:=gu t.q) (a_ ((j.O.drop 4).take 70) j9 dY (by rw[jK];exact fz _)) (cn (jK t))) ?_;refine aV Bx (Cu t.q w0 _ n.q.any (by omega)) (fun c7 c_ b9=>?_);obtain⟨rfl,am⟩:=b9;have k:=k.L am;have al:=al.L am;have db:=am.size;refine o.al ?_;refine bK (G.L (fun bM=>?_));refine o.aa ?_;refine o.v1 da (o.nil (bM ?_));refine aW (fun aJ=>?_) (fun aJ=>?_)
      ·
       refine G.L (fun bO=>?_);refine o.aP 2 ?_;refine bO ?_;refine G.ret (bF (C ?_));exact⟨(congrArg (Value.int .i64) ((B4 (s:=s.m) E P aa (by unfold gi;rw[if_pos X];exact aJ)).trans (by unfold gi;rw[if_pos X]))).symm,k⟩
      ·
       refine G.skip ?_;refine aR.sub (bb () _ ?_) ⟨rfl,rfl,trivial⟩;exact⟨by unfold gi;rw[if_pos X];exact Classical.not_not.1 aJ,al⟩
     ·
      refine G.skip ?_;refine aR.sub (bb () _ ?_) ⟨rfl,rfl,trivial⟩;exact⟨by unfold gi;rw[if_neg X],al⟩
    ·
     intro _ bX bW;obtain⟨az,M⟩:=bW;have aj:=aj.N M;have n:=n.N M;have A:=A.N M;have j:=j.N M;have k:=k.L M;have dc:=M.size;refine G.t2 (fun a0 bc=>G.L (fun a2=>?_));refine o.al ?_;refine a2 (G.aD (fun _ a3 bg=>?_))
     refine G.bc (fun(i:(Nat))=>[(2,.pointer (some ⟨J.size,0,none⟩)),(3,.pointer (some ⟨B.size,0,none⟩)),(6,.int .i64 (i:Int))])
      (fun(i:(Nat)) (H:Heap)=>(i≤t.el.length)∧(∀x∈t.el.take i,gE x=0)∧aq bX H)
      (fun(i:(Nat))=>t.el.length-i) 0 ⟨rfl,rfl,rfl,trivial⟩ ?_ ?_
     ·
      exact⟨(by omega),(fun x h=>by simp at h),W.refl _ _⟩
     intro i de ca df a4 aK;obtain⟨dP,Z,ac⟩:=ca;have aj:=aj.N ac;have n:=n.N ac;have A:=A.N ac;have j:=j.N ac;have k:=k.L ac;have dy:=ac.size;refine G.t2 (fun a5 bx=>G.L (fun bz=>?_));refine o.aa ?_;refine o.v1 (Y.an j.O rfl bt rfl dT) ?_;refine o.v1 (au j.O.gU eA) ?_;refine o.v1 (bf n.e cA) ?_;refine o.v1 bH (o.nil (bz ?_));refine aW (fun cc=>?_) (fun cc=>?_)
     ·
      refine G.skip (a5 (G.t2 (fun bA aZ=>G.aD (fun a9 _ a1=>G.t2 (fun bQ cl=>G.L (fun cm=>?_))))));refine o.v1 (Y.an j.O rfl bt rfl dT) ?_;refine o.v1 (au j.O.gU eA) ?_;refine o.aa ?_;have ay:i<t.el.length:=by omega
      obtain⟨y,O⟩:∃q,q=t.el[i]:=⟨_,rfl⟩;have cQ:y∈t.el:=by rw[O];exact List.getElem_mem ay
      refine o.b1 (Y.bU n.e (i) rfl cA cr rfl rfl) fun dg a6=>?_;refine o.v1 (Y.an a6.O rfl fr rfl bd) ?_;refine o.v1 (Y.cast (v2:=bs y.k) (a_ ((a6.O.drop 0).take 32) cj bd (by rw[fa];exact bC _)) ((by rw[O];exact cn (fa _)))) ?_;refine o.v1 (Y.build (v:=bs bq) rfl rfl (by intro w;kernel_rfl)) ?_;refine o.v1 (Y.cast (v2:= .bool (decide (y.k=bq))) (Y.ka rfl Tryz.eqGuardType26 (fun w=>gR 9998 Tryz.underlying26 Tryz.underlying5 cK ed (y.k.2) (bq.2) w) rfl rfl) ((congrArg Value.bool (decide_eq_decide.2 ⟨fun e=>Subtype.ext e,fun e=>congrArg Subtype.val e⟩)))) (o.nil (cm ?_));refine aW (fun ah=>?_) (fun ah=>?_)
      ·
       refine G.L (fun cp=>?_);refine o.al ?_;refine cp ?_;refine G.ret (cl (a1 (aZ (aK (bg (bc (C ?_)))))));exact⟨(congrArg (Value.int .i64) ((p6 (s:=s.m) E P aa az).trans (w6 ay Z (by rw[←O];unfold gE;rw[if_pos ah]) (by decide)))).symm,k⟩
      ·
       refine G.skip (bQ (G.L (fun bT=>?_)));refine o.v1 (Y.an j.O rfl bt rfl dT) ?_;refine o.v1 (au j.O.gU eA) ?_;refine o.aa ?_;refine o.b1 (Y.bU n.e (i) rfl cA cr rfl rfl) fun dh a7=>?_;refine o.v1 (Y.an a7.O rfl fr rfl c8) ?_;refine o.v1 (Y.cast (v2:=y.v.v) (au (a7.O.jR) eI) (by rw[O])) ?_;refine o.v1 (bf (n.d y cQ) dj) ?_;refine o.v1 eX (o.nil (bT ?_));refine aW (fun cd=>?_) (fun cd=>?_)
       ·
        refine G.L (fun be=>?_);refine o.al ?_;refine be ?_;refine G.ret (a1 (aZ (aK (bg (bc (C ?_))))));exact⟨(congrArg (Value.int .i64) ((p6 (s:=s.m) E P aa az).trans (w6 ay Z (by rw[←O];unfold gE;rw[if_neg ah,if_pos (by omega)]) (by decide)))).symm,k⟩
       ·
        refine G.skip (a9 (bA (G.region ?_)));refine o.aa ?_;refine o.v1 bD ?_;refine o.al ?_;refine aR.sub (a4 (i+1) _ ?_ ?_) ⟨rfl,rfl,(aF (by omega)),trivial⟩
        ·exact⟨(by omega),mi Z ay (by rw[←O];unfold gE;rw[if_neg ah,if_neg (by omega)]),ac⟩
        ·first|omega|(simp only;omega)|(simp;omega)
     ·
      obtain rfl:i=t.el.length:=by omega
      rw[List.take_length]at Z;have aM:hW t.el=0:=sH Z;have bw:=Eb aM;refine G.exit (bx (aK (a3 ?_)));refine a0 (G.t2 (fun b5 cu=>G.L (fun cv=>?_)));refine o.v1 (Y.an A.O rfl cH rfl dT) ?_;refine o.v1 (au A.O.i_ eA) ?_;refine o.v1 (Y.an j.O rfl bt rfl dT) ?_;refine o.v1 (au j.O.gU eA) ?_;refine aV By (F2 _ _ s.el t.el F w0 _ aj.e (bl.mono k.size) n.e.any aj.d (bl.mono k.size) (fun y hy=>(n.d y hy).any) (by omega) (by have:=K.el;omega) (fun x ab=>by have:=(bw x ab).2;omega) (fun x ab=>(bw x ab).1)) (fun dG dH cf=>?_);obtain⟨dI,dW,dJ,rfl,cS,cZ,di,c0,dk,bu,ar⟩:=cf;have n:=n.N ar;have j:=j.N ar;have k:=k.L ar;have ce:=ar.size;refine o.v1 (bf (cS ()) cA) ?_;refine o.v1 eX (o.nil (cv ?_));refine aW (fun cg=>?_) (fun cg=>?_)
      ·
       refine G.L (fun bi=>?_);refine o.al ?_;refine bi ?_;refine G.ret (cu (C ?_));exact⟨(congrArg (Value.int .i64) ((p6 (s:=s.m) E P aa az).trans (by rw[hX,if_neg (by rw[aM];decide),if_pos (by rw[show s.m.g_=cq s.el from rfl,←bu,r7];omega)]))).symm,k⟩
      ·
       have bp:dD s.m t=0:=(p6 (s:=s.m) E P aa az).trans (by rw[hX,if_neg (by rw[aM];decide),if_neg (by rw[show s.m.g_=cq s.el from rfl,←bu,r7];omega)]);have ab:=sc K bp;have dQ:=K.lT;refine G.skip (b5 (G.L (fun cx=>?_)));refine o.v1 (a_ j.O gz fj (dX _)) ?_;refine aV Bz (CE t aQ w0 _ n (ct.mono k.size) ab ⟨aS,z2⟩) (fun dL dM ck=>?_);obtain⟨dR,ci,rfl,a8,dm,ba⟩:=ck;have k:=k.L ba;have dp:=ba.size;have cW:=a8.le;refine o.aa ?_;refine o.v1 cF ?_;refine o.v1 cF ?_;refine o.aP 2 ?_;refine cx (G.t1 (fun aD=>G.L (fun cy=>?_)));refine o.aa ?_;refine o.v1 ((da).fC (by simp)) ?_;refine o.az 2 ?_;refine o.ar (bf a8.rd dj) ?_;refine o.ar ((eX).fC (by omega)) ?_;refine o.dy ?_;refine o.nil (cy ?_);refine dK ?_;refine G.skip (aD (G.L (fun cz=>?_)));refine o.al ?_;refine cz ?_;refine G.ret (C ?_);exact⟨by rw[bp],k⟩
end rD

namespace n4
open E Go.RowKit dm
def jD(n:Nat):List UInt8:=[UInt8.ofNat (n/2^24),UInt8.ofNat (n/2^16),UInt8.ofNat (n/2^8),UInt8.ofNat n]
def k8(v:Nat)(l:List UInt8):Nat:=l.foldl (fun v x=>v*256+x.toNat) v
theorem uI(n:Nat):(jD n).length=4:=rfl
theorem EY(n:Nat)(h:n<18446744073709551616):cd 4 (UInt64.ofNat n)=jD n:=by
 have e:∀j,(iJ (UInt64.ofNat n) j).toNat=n/2^j:=fun j=>by rw[tu,UInt64.toNat_ofNat',Nat.mod_eq_of_lt h]
 simp only[cd,e,jD];simp
theorem uN:∀(l:List UInt8) (v:Nat),k8 v l<(v+1)*256^l.length
 |[],v=>by simp[k8]
 |x::l,v=>by
  have d:=x.toNat_lt;have:=uN l (v*256+x.toNat);have e:k8 v (x::l)=k8 (v*256+x.toNat) l:=rfl;rw[e,List.length_cons,Nat.pow_succ];refine Nat.lt_of_lt_of_le this ?_;have:v*256+x.toNat+1≤(v+1)*256:=by omega
  calc (v*256+x.toNat+1)*256^l.length≤((v+1)*256)*256^l.length:=Nat.mul_le_mul_right _ this
   _=(v+1)*(256^l.length*256):=by rw[Nat.mul_assoc,Nat.mul_comm 256]
theorem Ai(l:List UInt8)(h:l.length≤4):k8 0 l<4294967296:=by
 have:=uN l 0;have V:256^l.length≤256^4:=Nat.pow_le_pow_right (by decide) h;omega
theorem s8(a:Nat)(x:UInt8):a*2^8|||x.toNat=a*256+x.toNat:=by
 rw[Nat.mul_comm,←Nat.two_pow_add_eq_or_of_lt x.toNat_lt]
end n4

namespace mg
open E Go.RowKit
def h0(x:UInt32)(j:Nat):UInt32:=jr x j|||mU x (32-j)
theorem zQ:∀j:Nat,j<32→0<j→(UInt64.ofNat (18446744073709551616-j)&&&UInt64.ofNat 31)=UInt64.ofNat (32-j):=by decide+kernel
theorem F4(x:UInt32)(j:Nat)(w0:World)(J:Heap)
 (n:0<j) (q:j<32):
 aG Tryz.prog w0 280 #[.int .u32 x.toNat,.int .i64 (-(j:Int))] J (fun r d=>r= .int .u32 (h0 x j).toNat∧d=J):=by
 refine aG.aN [.int .u32 x.toNat,.int .i64 (-(j:Int))] Tryz.func280 ?_;intro B A;refine G.L (fun i=>?_);refine o.al ?_;refine i (G.L (fun k=>?_));refine o.aa ?_;refine o.v1 (Y.conv rfl gk tU rfl) ?_;rw[show IntKind.u64.wrap (-(j:Int))=((UInt64.ofNat (18446744073709551616-j)).toNat:Int)by rw[wrap_u64,UInt64.toNat_ofNat'];omega];refine o.v1 (Y.zR (b:=(UInt64.ofNat 31)) rfl rfl rfl) ?_;rw[zQ j q n];refine o.al ?_;refine k (G.L (fun ac=>?_));refine o.az 2 ?_;refine o.v1 (Y.q8 (32-j) rfl rfl rfl (by rw[UInt64.toNat_ofNat'];omega) (by omega)) ?_;refine o.az 2 ?_;refine o.v1 (Y.GZ (a:=(UInt64.ofNat 32)) rfl rfl rfl) ?_;rw[show UInt64.ofNat 32-UInt64.ofNat (32-j)=UInt64.ofNat j from UInt64.toNat_inj.1 (by rw[UInt64.toNat_sub,UInt64.toNat_ofNat',UInt64.toNat_ofNat',UInt64.toNat_ofNat'];omega)];refine o.v1 (Y.q9 (j) rfl rfl rfl (by rw[UInt64.toNat_ofNat'];omega) (by omega)) ?_;refine o.v1 (Y.qT rfl rfl rfl) ?_;refine o.al ?_;refine ac ?_;refine G.ret (A ?_);exact⟨by rw[h0,UInt32.or_comm],rfl⟩
theorem kS(x:UInt32)(j:Nat)(w0:World)(J:Heap)
 (n:0<j) (q:j<32):
 aG Tryz.prog w0 278 #[.int .u32 x.toNat,.int .i64 j] J (fun r d=>r= .int .u32 (h0 x j).toNat∧d=J):=by
 refine aG.aN [.int .u32 x.toNat,.int .i64 j] Tryz.func278 ?_;intro C A;refine G.L (fun i=>?_);refine o.al ?_;refine i (G.L (fun k=>?_));refine o.az 2 ?_;refine o.v1 (Y.neg rfl rfl) ?_;rw[IntWalk.i64_in _ (by omega),Int.zero_sub];refine aV Bt (F4 x j w0 J n q) ?_;rintro E B ⟨rfl,rfl⟩;refine o.al ?_;refine k ?_;refine G.ret (A ?_);exact⟨rfl,rfl⟩
def n2(a b c d:UInt8):UInt32:=mU (UInt32.ofNat a.toNat) 24|||mU (UInt32.ofNat b.toNat) 16|||mU (UInt32.ofNat c.toNat) 8|||UInt32.ofNat d.toNat
theorem HH(v:Value)(l:List UInt8)(w0:World)(J:Heap)
 (d:bM J a6 1 v l) (K:4≤l.length):
 aG Tryz.prog w0 277 #[v] J (fun r i=>r= .int .u32 (n2 l[0] l[1] l[2] l[3]).toNat∧i=J):=by
 refine aG.aN [v] Tryz.func277 ?_;intro B A;refine G.L (fun ac=>?_);refine o.al ?_;refine ac (G.t1 (fun n=>?_));refine ik ?_;refine o.aa ?_;refine o.b1 (Y.indexAddr d (0) rfl dj cK rfl rfl (by first|rfl|omega) (by first|omega|(simp;omega)|(simp;done))) fun F q=>?_;refine o.v1 (au q ed) ?_;refine o.v1 (Y.p_ rfl ju pz rfl) ?_;refine o.v1 (Y.q8 (24) rfl rfl rfl (by first|rfl|omega) (by omega)) ?_;refine o.aa ?_;refine o.b1 (Y.indexAddr d (1) rfl dj cK rfl rfl (by first|rfl|omega) (by first|omega|(simp;omega)|(simp;done))) fun H x=>?_;refine o.v1 (au x ed) ?_;refine o.v1 (Y.p_ rfl ju pz rfl) ?_;refine o.v1 (Y.q8 (16) rfl rfl rfl (by first|rfl|omega) (by omega)) ?_;refine o.v1 (Y.qT rfl rfl rfl) ?_;refine o.aa ?_;refine o.b1 (Y.indexAddr d (2) rfl dj cK rfl rfl (by first|rfl|omega) (by first|omega|(simp;omega)|(simp;done))) fun C j=>?_;refine o.v1 (au j ed) ?_;refine o.v1 (Y.p_ rfl ju pz rfl) ?_;refine o.v1 (Y.q8 (8) rfl rfl rfl (by first|rfl|omega) (by omega)) ?_;refine o.v1 (Y.qT rfl rfl rfl) ?_;refine o.aa ?_;refine o.b1 (Y.indexAddr d (3) rfl dj cK rfl rfl (by first|rfl|omega) (by first|omega|(simp;omega)|(simp;done))) fun E k=>?_;refine o.v1 (au k ed) ?_;refine o.v1 (Y.p_ rfl ju pz rfl) ?_;refine o.v1 (Y.qT rfl rfl rfl) ?_;refine o.al ?_;refine n ?_;refine G.ret (A ?_);exact⟨rfl,rfl⟩
end mg

namespace k2
open E Go.RowKit mg
abbrev e8(x:UInt32):Value:= .int .u32 x.toNat
abbrev hz(x:UInt8):Value:= .int .u8 x.toNat
structure fR where
 a:UInt32
 b:UInt32
 c:UInt32
 d:UInt32
 e:UInt32
 f:UInt32
 g:UInt32
 h:UInt32
abbrev fR.list(s:fR):List UInt32:=[s.a,s.b,s.c,s.d,s.e,s.f,s.g,s.h]
abbrev fR.cells(s:fR):List Value:=[e8 s.a,e8 s.b,e8 s.c,e8 s.d,e8 s.e,e8 s.f,e8 s.g,e8 s.h]
def xC(s:fR)(k w:UInt32):UInt32:=s.h+(h0 s.e 6^^^h0 s.e 11^^^h0 s.e 25)+(s.e&&&s.f^^^ ~~~s.e&&&s.g)+k+w
def two(s:fR):UInt32:=(h0 s.a 2^^^h0 s.a 13^^^h0 s.a 22)+(s.a&&&s.b^^^s.a&&&s.c^^^s.b&&&s.c)
def pj(s:fR)(k w:UInt32):fR:=⟨xC s k w+two s,s.a,s.b,s.c,s.d+xC s k w,s.e,s.f,s.g⟩
def grow(w:List UInt32):List UInt32:=w++[w.getD (w.length-16) 0+(h0 (w.getD (w.length-15) 0) 7^^^h0 (w.getD (w.length-15) 0) 18^^^jr (w.getD (w.length-15) 0) 3)+w.getD (w.length-7) 0+(h0 (w.getD (w.length-2) 0) 17^^^h0 (w.getD (w.length-2) 0) 19^^^jr (w.getD (w.length-2) 0) 10)]
def q6(w0:List UInt32):Nat→List UInt32
 |0=>w0
 |n+1=>grow (q6 w0 n)
def nw(b:List UInt8)(n:Nat):List UInt32:=(List.range n).map (fun i=>n2 (b.getD (4*i) 0) (b.getD (4*i+1) 0) (b.getD (4*i+2) 0) (b.getD (4*i+3) 0))
def jy:List UInt32:=[0x428a2f98,0x71374491,0xb5c0fbcf,0xe9b5dba5,0x3956c25b,0x59f111f1,0x923f82a4,0xab1c5ed5,0xd807aa98,0x12835b01,0x243185be,0x550c7dc3,0x72be5d74,0x80deb1fe,0x9bdc06a7,0xc19bf174,0xe49b69c1,0xefbe4786,0xfc19dc6,0x240ca1cc,0x2de92c6f,0x4a7484aa,0x5cb0a9dc,0x76f988da,0x983e5152,0xa831c66d,0xb00327c8,0xbf597fc7,0xc6e00bf3,0xd5a79147,0x6ca6351,0x14292967,0x27b70a85,0x2e1b2138,0x4d2c6dfc,0x53380d13,0x650a7354,0x766a0abb,0x81c2c92e,0x92722c85,0xa2bfe8a1,0xa81a664b,0xc24b8b70,0xc76c51a3,0xd192e819,0xd6990624,0xf40e3585,0x106aa070,0x19a4c116,0x1e376c08,0x2748774c,0x34b0bcb5,0x391c0cb3,0x4ed8aa4a,0x5b9cca4f,0x682e6ff3,0x748f82ee,0x78a5636f,0x84c87814,0x8cc70208,0x90befffa,0xa4506ceb,0xbef9a3f7,0xc67178f2]
def tk(s:fR)(w:List UInt32):Nat→fR
 |0=>s
 |n+1=>pj (tk s w n) (jy.getD n 0) (w.getD n 0)
def uw(s t:fR):fR:=⟨s.a+t.a,s.b+t.b,s.c+t.c,s.d+t.d,s.e+t.e,s.f+t.f,s.g+t.g,s.h+t.h⟩
def compress(s:fR)(b:List UInt8):fR:=uw s (tk s (q6 (nw b 16) 48) 64)
theorem F5 (w0:World)(J:Heap)
 :
 aG Tryz.prog w0 279 #[] J (fun r i=>r= .agg (jy.map e8).toArray∧aq J i):=by
 refine aG.enter (args:=[]) Tryz.func279 rfl rfl rfl ?_;intro C q;refine G.L (fun n=>?_);refine o.aS (dk zr) ?_;rintro H j ⟨rfl,d,B,F,E⟩;have d:Var 335 j J.size (List.replicate 64 (e8 0)):=d;refine o.nil (n (G.L (fun ac=>?_)));refine o.v1 (Y.build (v:= .agg (jy.map e8).toArray) rfl rfl (by intro w;kernel_rfl)) ?_;refine o.s1 (S.var d (jy.map e8) (jy.map e8) rfl rfl rfl rfl (by intro u hu;obtain⟨x,_,rfl⟩:=List.mem_map.1 hu;rfl) yo (rfl) (Nat.le_of_ble_eq_true rfl) (by kernel_rfl)) fun ad k=>?_;obtain⟨d,A⟩:=k;refine o.nil (ac ?_);refine G.ret (q .ret (.inr rfl) _ _ _ (kk rfl rfl d.O zD yo (by first|rfl|simp)) ?_);exact⟨rfl,B.trans A (fun _ _ e=>e) (fun b aA e=>by omega)⟩
end k2

namespace lF
open E Go.RowKit mg k2
theorem lU(w:List UInt32)(j:Nat)(h:j<w.length):(w.map e8)[j]?=some (e8 (w.getD j 0)):=by simp[h]
theorem map_set(w:List UInt32)(j:Nat)(x:UInt32):(w.map e8).set (0+j) (e8 x)=(w.set j x).map e8:=by rw[Nat.zero_add,List.map_set]
theorem tI{α:Type}(w:List α)(j:Nat)(x:α)(h:j<w.length):(w.set j x).take (j+1)=w.take j++[x]:=by
 rw[List.take_succ_eq_append_getElem (by simpa using h),List.take_set];rw[List.set_eq_of_length_le (by simp;omega)];simp
theorem getD_take(w:List UInt32)(j k:Nat)(h:j<k):(w.take k).getD j 0=w.getD j 0:=by
 simp[List.getD,List.getElem?_take,h]
theorem CW(b:List UInt8)(n:Nat):nw b (n+1)=nw b n++[n2 (b.getD (4*n) 0) (b.getD (4*n+1) 0) (b.getD (4*n+2) 0) (b.getD (4*n+3) 0)]:=by
 unfold nw;rw[List.range_succ,List.map_append];rfl
def mJ(w:List UInt32)(i:Nat):UInt32:=w.getD (i-16) 0+(h0 (w.getD (i-15) 0) 7^^^h0 (w.getD (i-15) 0) 18^^^jr (w.getD (i-15) 0) 3)+w.getD (i-7) 0+(h0 (w.getD (i-2) 0) 17^^^h0 (w.getD (i-2) 0) 19^^^jr (w.getD (i-2) 0) 10)
theorem C8(w:List UInt32)(i:Nat)(j:16≤i)(h:i≤w.length):grow (w.take i)=w.take i++[mJ w i]:=by
 unfold grow mJ;have d:(w.take i).length=i:=by simp;omega
 rw[d,getD_take w (i-16) i (by omega),getD_take w (i-15) i (by omega),getD_take w (i-7) i (by omega),getD_take w (i-2) i (by omega)]
abbrev av(s:List UInt32)(wt:List UInt8)(n:Nat)(aw:UInt64):List Value:=s.map e8++wt.map hz++[.int .i64 n,.int .u64 aw.toNat]
theorem ld{s:List UInt32}{wt:List UInt8}{n:Nat}{aw:UInt64}(aj:s.length=8)(hw:wt.length=64):(av s wt n aw).length=74:=by simp[aj,hw]
theorem wG{s:List UInt32}{wt:List UInt8}{n:Nat}{aw:UInt64}(aj:s.length=8)(i:Nat)(x:UInt8)(h:wt[i]?=some x):((av s wt n aw).drop 8)[i]?=(a6 x)[0]?∧(a6 x).length=1:=by
 refine⟨?_,rfl⟩;have d:=(List.getElem?_eq_some_iff.1 h).1;have:(s.map e8).length=8:=by simpa using aj
 rw[av,List.append_assoc,List.drop_left' this,List.getElem?_append_left (by simpa using d)];simp[h]
theorem qu{s:List UInt32}{wt:List UInt8}{n:Nat}{aw:UInt64}(aj:s.length=8)(hw:wt.length=64):(av s wt n aw)[72]?=some (.int .i64 n):=by
 rw[av,List.getElem?_append_right (by simp[aj,hw])];simp[aj,hw]
theorem wE{s:List UInt32}{wt:List UInt8}{n:Nat}{aw:UInt64}(aj:s.length=8)(hw:wt.length=64):(av s wt n aw)[73]?=some (.int .u64 aw.toNat):=by
 rw[av,List.getElem?_append_right (by simp[aj,hw])];simp[aj,hw]
theorem wF{s:List UInt32}{wt:List UInt8}{n m:Nat}{aw:UInt64}(aj:s.length=8)(hw:wt.length=64):(av s wt n aw).set 72 (.int .i64 m)=av s wt m aw:=by
 rw[av,List.set_append_right _ _ (by simp[aj,hw])];simp[aj,hw]
theorem Da{s:List UInt32}{wt:List UInt8}{n:Nat}{aw be:UInt64}(aj:s.length=8)(hw:wt.length=64):(av s wt n aw).set 73 (.int .u64 be.toNat)=av s wt n be:=by
 rw[av,List.set_append_right _ _ (by simp[aj,hw])];simp[aj,hw]
theorem Dd{s:List UInt32}{wt:List UInt8}{n:Nat}{aw:UInt64}(i:Nat)(d:i<s.length):(av s wt n aw)[i]?=some (e8 (s.getD i 0)):=by
 rw[av,List.append_assoc,List.getElem?_append_left (by simpa using d)];simp[d]
theorem Db{s:List UInt32}{wt:List UInt8}{n:Nat}{aw:UInt64}(i:Nat)(d:i<s.length)(x:UInt32):(av s wt n aw).set (0+i) (e8 x)=av (s.set i x) wt n aw:=by
 rw[av,List.append_assoc,List.set_append_left _ _ (by simpa using d),Nat.zero_add,←List.append_assoc,av,List.map_set]
theorem HG(wt:List UInt8)(i:Nat)(h:wt.length=64)(d:i<16)(n:4≤((wt.take 64).drop (4*i)).length):n2 ((wt.take 64).drop (4*i))[0] ((wt.take 64).drop (4*i))[1] ((wt.take 64).drop (4*i))[2] ((wt.take 64).drop (4*i))[3]=n2 (wt.getD (4*i) 0) (wt.getD (4*i+1) 0) (wt.getD (4*i+2) 0) (wt.getD (4*i+3) 0):=by
 have:∀j,j<4→∀(V:j<((wt.take 64).drop (4*i)).length),((wt.take 64).drop (4*i))[j]=wt.getD (4*i+j) 0:=by
  intro j k V;rw[List.getElem_drop,List.getElem_take];simp[List.getD,show 4*i+j<wt.length by omega]
 rw[this 0 (by omega),this 1 (by omega),this 2 (by omega),this 3 (by omega)];rfl
def lL(a b:List UInt32)(i:Nat):List UInt32:=(List.zipWith (·+ ·) (a.take i) (b.take i))++a.drop i
theorem zI(a b:List UInt32)(i:Nat)(d:a.length=8)(aA:b.length=8)(j:i≤8):(lL a b i).length=8:=by simp[lL,d,aA];omega
theorem zH(a b:List UInt32)(i:Nat)(d:a.length=8)(aA:b.length=8)(k:i<8):(lL a b i).getD i 0=a.getD i 0:=by
 have j:(List.zipWith (·+ ·) (a.take i) (b.take i)).length=i:=by simp[d,aA];omega
 simp only[lL,List.getD];rw[List.getElem?_append_right (by omega),j,Nat.sub_self,List.getElem?_drop,Nat.add_zero]
theorem zJ(a b:List UInt32)(i:Nat)(d:a.length=8)(aA:b.length=8)(j:i<8):(lL a b i).set i (a.getD i 0+b.getD i 0)=lL a b (i+1):=by
 have k:(List.zipWith (·+ ·) (a.take i) (b.take i)).length=i:=by simp[d,aA];omega
 unfold lL;rw[List.set_append_right _ _ (by omega),k,Nat.sub_self,List.drop_eq_getElem_cons (show i<a.length by omega),List.set_cons_zero,List.take_succ_eq_append_getElem (show i<a.length by omega),List.take_succ_eq_append_getElem (show i<b.length by omega),List.zipWith_append (by simp;omega),List.append_assoc];simp[List.getD,d,aA,j]
theorem Am(aA:Nat)(st:fR)(wt:List UInt8)(n:Nat)(aw:UInt64)(w0:World)(J:Heap)
 (B:Var 356 J aA (av st.list wt n aw)) (hw:wt.length=64):
 aG Tryz.prog w0 273 #[.pointer (some ⟨aA,0,none⟩)] J (fun r L=>r= .tuple #[]∧Var 356 L aA (av (compress st wt).list wt 0 aw)∧W (fun c=>c=aA) J L):=by
 refine aG.enter (args:=[.pointer (some ⟨aA,0,none⟩)]) Tryz.func273 rfl rfl rfl ?_;intro cY cP;have dw:=B.lt;have cQ:st.list.length=8:=rfl;refine G.L (fun bO=>?_);refine o.aS (dk zr) ?_;rintro v2 L ⟨rfl,C,Z,c_,bP⟩;have B:=B.N Z;have C:Var 335 L J.size ((List.replicate 64 (0:UInt32)).map e8):=C;have da:L.size=J.size+1:=by rw[bP];simp
 refine o.nil (bO (G.t1 (fun bQ=>G.L (fun bR=>?_))));refine o.aa (o.nil (bR ?_));refine G.aD (fun _ bU _=>?_)
 refine G.bc (fun(X:(Nat)×(List UInt32))=>match X with|(i,w)=>[(0,.pointer (some ⟨aA,0,none⟩)),(2,.pointer (some ⟨J.size,0,none⟩)),(14,.int .i64 i)])
  (fun(i,w) (H:Heap)=>i≤16∧w.length=64∧w.take i=nw wt i∧Var 335 H J.size (w.map e8)∧W (fun c=>c=J.size) L H)
  (fun(i,w)=>16-i) (0,List.replicate 64 0) ⟨rfl,rfl,rfl,trivial⟩ ?_ ?_
 ·
  exact⟨by omega,by simp,rfl,C,W.refl _ _⟩
 rintro⟨i,w⟩ H1 bV cX bW bX;obtain⟨cG,ab,K,C,hm⟩:=bV;have B:=B.up hm (by omega);refine G.L (fun bY=>?_);refine o.v1 bH (o.nil (bY ?_));refine G.t2 (fun bZ b0=>?_);refine aW (fun b1=>?_) (fun b1=>?_)
 ·
  refine G.skip (bZ (G.t1 (fun b2=>G.aD (fun b3 _ _=>G.L (fun aL=>?_)))));refine o.aP 2 ?_;refine aL (G.region ?_);refine o.az 3 ?_;refine o.v1 (Y.an B.O rfl iL rfl yp) ?_;refine o.aa ?_;refine o.v1 (Y.jo rfl rfl rfl (by omega)) ?_;refine o.aN (g:=fun v=>v) (Y.ps (F:=fun c=>c=aA) (f:=a6) (xs:=wt) (B.O.drop 8) rfl B.lt (hw) (fun i x h=>wG cQ i x h) (4*i) (64) rfl (fun w=> .inl (y7 w)) cK rfl (.inr ⟨_,_,_,rfl,rfl,by first|rfl|omega⟩) (.inl ⟨rfl,rfl⟩) (by omega) (by omega) (by decide)) fun ce cV=>?_;refine aV Br (HH _ _ w0 H1 cV.any (by simp;omega)) (fun db dc b8=>?_);obtain⟨rfl,rfl⟩:=b8;rw[HG wt i hw (by omega)];refine o.v1 (eH C.O (i) l5 eo) ?_;refine o.s1 (dL C (0+(i)) (_) (rfl) eo (by simp;omega) (map_set w i _)) fun c2 aM=>?_;obtain⟨C,an⟩:=aM;have hm:=hm.trans an (fun _ _ e=>e) (fun _ _ e=>e);refine o.nil (b3 (b2 (G.region ?_)));refine o.v1 bD ?_;refine o.aa (o.nil ?_);refine aR.sub (bW (i+1,w.set i (n2 (wt.getD (4*i) 0) (wt.getD (4*i+1) 0) (wt.getD (4*i+2) 0) (wt.getD (4*i+3) 0))) _ ?_ ?_) ⟨rfl,rfl,(aF (by omega)),trivial⟩
  ·exact⟨by omega,by simp[ab],by rw[tI _ _ _ (by omega),CW,K],C,hm⟩
  ·show 16-(i+1)<16-i;omega
 ·
  have cJ:i=16:=by omega
  subst cJ;refine G.exit (b0 (bX (bU ?_)));refine bQ (G.t1 (fun aN=>G.L (fun aO=>?_)));refine o.al ?_;refine aO (G.aD (fun _ aP _=>?_))
  refine G.bc (fun(X:(Nat)×(List UInt32))=>match X with|(i,w)=>[(0,.pointer (some ⟨aA,0,none⟩)),(2,.pointer (some ⟨J.size,0,none⟩)),(4,.int .i64 i)])
   (fun(i,w) (H:Heap)=>16≤i∧i≤64∧w.length=64∧w.take i=q6 (nw wt 16) (i-16)∧Var 335 H J.size (w.map e8)∧W (fun c=>c=J.size) H1 H)
   (fun(i,w)=>64-i) (16,w) ⟨rfl,rfl,rfl,trivial⟩ ?_ ?_
  ·
   exact⟨by omega,by omega,ab,K,C,W.refl _ _⟩
  rintro⟨i,w⟩ Q b9 dR aQ aS;obtain⟨cH,cG,ab,K,C,U⟩:=b9;have B:=B.up U (by omega);refine G.t2 (fun aT aX=>G.L (fun aZ=>?_));refine o.aa ?_;refine o.v1 bH (o.nil (aZ ?_));refine aW (fun ca=>?_) (fun ca=>?_)
  ·
   refine G.skip (aT (G.t1 (fun a1=>G.aD (fun a7 _ _=>G.t1 (fun a8=>?_)))));refine ik ?_;refine o.aa ?_;refine o.v1 fG ?_;refine o.v1 (Y.ow C.O (i-15) rfl l5 eo rfl rfl (by omega) (by first|omega|(simp;omega)|(simp;done))) ?_;refine o.v1 (au (C.O.at (i-15) (lU w (i-15) (by omega))) e1) ?_;refine o.aa ?_;refine o.v1 fG ?_;refine o.v1 (Y.ow C.O (i-2) rfl l5 eo rfl rfl (by omega) (by first|omega|(simp;omega)|(simp;done))) ?_;refine o.v1 (au (C.O.at (i-2) (lU w (i-2) (by omega))) e1) ?_;refine o.aP 2 ?_;refine a8 ?_;refine dg (fun j=>aq Q j) [29] ?_;have k:=aq.refl Q;refine T.aa 0 rfl k ?_;refine T.aa 1 rfl k ?_;refine T.t1 2 rfl (fun j d=>fG) k ?_;refine T.t1 3 rfl (fun j d=>Y.ow (C.O.N d) (i-16) rfl l5 eo rfl rfl (by omega) (by first|omega|(simp;omega)|(simp;done))) k ?_;refine T.t1 4 rfl (fun j d=>au ((C.O.at (i-16) (lU w (i-16) (by omega))).N d) e1) k ?_;refine T.aa 5 rfl k ?_;refine T.aa 7 rfl k ?_;refine T.aa 10 rfl k ?_;refine T.t1 11 rfl (fun j d=>Y.q9 (3) rfl rfl rfl (by first|rfl|omega) (by omega)) k ?_;refine T.aa 14 rfl k ?_;refine T.t1 15 rfl (fun j d=>fG) k ?_;refine T.t1 16 rfl (fun j d=>Y.ow (C.O.N d) (i-7) rfl l5 eo rfl rfl (by omega) (by first|omega|(simp;omega)|(simp;done))) k ?_;refine T.t1 17 rfl (fun j d=>au ((C.O.at (i-7) (lU w (i-7) (by omega))).N d) e1) k ?_;refine T.aa 19 rfl k ?_;refine T.aa 21 rfl k ?_;refine T.aa 24 rfl k ?_;refine T.t1 25 rfl (fun j d=>Y.q9 (10) rfl rfl rfl (by first|rfl|omega) (by omega)) k ?_;refine T.aX 6 ?_;refine b7 kv (kS _ 7 w0 _ (by omega) (by omega)) (fun ci cb cc=>?_);obtain⟨rfl,rfl⟩:=cc;have ba:=aq.refl cb;have ap:=k.L ba;refine⟨.inr ap,?_⟩;refine T.aX 8 ?_;refine b7 kv (kS _ 18 w0 _ (by omega) (by omega)) (fun de cd cf=>?_);obtain⟨rfl,rfl⟩:=cf;have bb:=aq.refl cd;have ac:=ap.L bb;refine⟨.inr ac,?_⟩;refine T.t1 9 rfl (fun j d=>Y.kn rfl rfl rfl) ac ?_;refine T.t1 12 rfl (fun j d=>Y.kn rfl rfl rfl) ac ?_;refine T.t1 13 rfl (fun j d=>Y.j_ rfl rfl rfl) ac ?_;refine T.t1 18 rfl (fun j d=>Y.j_ rfl rfl rfl) ac ?_;refine T.aX 20 ?_;refine b7 kv (kS _ 17 w0 _ (by omega) (by omega)) (fun df cg cj=>?_);obtain⟨rfl,rfl⟩:=cj;have bc:=aq.refl cg;have ay:=ac.L bc;refine⟨.inr ay,?_⟩;refine T.aX 22 ?_;refine b7 kv (kS _ 19 w0 _ (by omega) (by omega)) (fun dh ck cl=>?_);obtain⟨rfl,rfl⟩:=cl;have bd:=aq.refl ck;have ad:=ay.L bd;refine⟨.inr ad,?_⟩;refine T.t1 23 rfl (fun j d=>Y.kn rfl rfl rfl) ad ?_;refine T.t1 26 rfl (fun j d=>Y.kn rfl rfl rfl) ad ?_;refine T.t1 27 rfl (fun j d=>Y.j_ rfl rfl rfl) ad ?_;refine T.t1 28 rfl (fun j d=>eH (C.O.N d) (i) l5 eo) ad ?_;refine T.aX 29 ?_;refine gW rfl (dL C (0+(i)) (_) (rfl) eo (by simp;omega) (map_set w i _)) (fun c0 bp=>?_);obtain⟨C,an⟩:=bp;refine⟨.inl rfl,?_⟩;refine cI ?_;have aC:=ad;refine a7 (a1 (G.region ?_));refine o.aa ?_;refine o.v1 bD ?_;refine o.al ?_;refine aR.sub (aQ (i+1,w.set i (mJ w i)) _ ?_ ?_) ⟨rfl,rfl,(aF (by omega)),trivial⟩
   ·exact⟨by omega,by omega,by simp[ab],by rw[tI _ _ _ (by omega),K,show i+1-16=(i-16)+1 by omega,q6,←K,C8 w i cH (by omega)],C,U.trans an (fun _ _ e=>e) (fun _ _ e=>e)⟩
   ·show 64-(i+1)<64-i;omega
  ·
   have al:i=64:=by omega
   subst al;rw[List.take_of_length_le (by omega)]at K;refine G.exit (aX (aS (aP ?_)));refine aN (G.L (fun bf=>?_));refine o.az 2 ?_;refine o.v1 (Y.an B.O rfl iL rfl lp) ?_;refine o.v1 (a_ (B.O.take 8) rH lp (rfl)) ?_;have dx:=C.lt;refine o.aS (dk HO) ?_;rintro dJ cW ⟨rfl,A,R,di,dj⟩;have B:=B.N R;have C:=C.N R;refine o.s1 (S.var A (st.cells) (st.cells) rfl rfl rfl rfl (by simp[Value.oneCell']) lp (rfl) (Nat.le_of_ble_eq_true rfl) (rfl)) fun c7 bs=>?_;obtain⟨A,P⟩:=bs;have B:=B.up P (by omega);have C:=C.up P (by omega);refine o.nil (bf (G.t1 (fun bg=>G.L (fun bk=>?_))));refine aV Bs (F5 w0 _) (fun co bA bB=>?_);obtain⟨rfl,M⟩:=bB;have B:=B.N M;have C:=C.N M;have A:=A.N M;refine o.aa (o.nil (bk ?_));refine G.aD (fun _ bl _=>?_)
   refine G.bc (fun(X:(Nat)×(fR))=>match X with|(i,q)=>[(0,.pointer (some ⟨aA,0,none⟩)),(2,.pointer (some ⟨J.size,0,none⟩)),(7,.pointer (some ⟨Q.size,0,none⟩)),(72,.agg (jy.map e8).toArray),(73,.int .i64 i)])
    (fun(i,q) (H:Heap)=>i≤64∧q=tk st w i∧Var 336 H Q.size q.cells∧W (fun c=>c=Q.size) bA H)
    (fun(i,q)=>64-i) (0,st) ⟨rfl,rfl,rfl,rfl,rfl,trivial⟩ ?_ ?_
   ·
    exact⟨by omega,rfl,A,W.refl _ _⟩
   rintro⟨i,q⟩ ae bE dm bm bn;obtain⟨du,a0,A,N⟩:=bE;have B:=B.up N (by omega);have C:=C.up N (by omega);refine G.L (fun a2=>?_);refine o.v1 bH (o.nil (a2 ?_));refine G.t2 (fun a3 a4=>?_);refine aW (fun bF=>?_) (fun bF=>?_)
   ·
    refine G.skip (a3 (G.t1 (fun a5=>G.aD (fun aI _ _=>G.L (fun aJ=>?_)))));refine o.aa ?_;refine o.v1 (Y.rO (i) rfl l5 eo e1 rfl rfl (by first|rfl|omega) (by omega) (by rw[List.getElem?_toArray];exact lU jy i (by simp[jy];omega))) ?_;refine o.aP 2 ?_;refine aJ (G.t1 (fun aK=>?_));refine dg (fun j=>aq ae j) [] ?_;have k:=aq.refl ae;refine T.t1 0 rfl (fun j d=>eH (A.O.N d) (7) fO eo) k ?_;refine T.t1 1 rfl (fun j d=>au ((A.O.drop 7).N d) e1) k ?_;refine T.t1 2 rfl (fun j d=>eH (A.O.N d) (4) fO eo) k ?_;refine T.t1 3 rfl (fun j d=>au ((A.O.drop 4).N d) e1) k ?_;refine T.t1 5 rfl (fun j d=>eH (A.O.N d) (4) fO eo) k ?_;refine T.t1 6 rfl (fun j d=>au ((A.O.drop 4).N d) e1) k ?_;refine T.t1 9 rfl (fun j d=>eH (A.O.N d) (4) fO eo) k ?_;refine T.t1 10 rfl (fun j d=>au ((A.O.drop 4).N d) e1) k ?_;refine T.t1 14 rfl (fun j d=>eH (A.O.N d) (4) fO eo) k ?_;refine T.t1 15 rfl (fun j d=>au ((A.O.drop 4).N d) e1) k ?_;refine T.t1 16 rfl (fun j d=>eH (A.O.N d) (5) fO eo) k ?_;refine T.t1 17 rfl (fun j d=>au ((A.O.drop 5).N d) e1) k ?_;refine T.t1 18 rfl (fun j d=>Y.ot rfl rfl rfl) k ?_;refine T.t1 19 rfl (fun j d=>eH (A.O.N d) (4) fO eo) k ?_;refine T.t1 20 rfl (fun j d=>au ((A.O.drop 4).N d) e1) k ?_;refine T.t1 21 rfl (fun j d=>Y.EU rfl rfl) k ?_;refine T.t1 22 rfl (fun j d=>eH (A.O.N d) (6) fO eo) k ?_;refine T.t1 23 rfl (fun j d=>au ((A.O.drop 6).N d) e1) k ?_;refine T.t1 24 rfl (fun j d=>Y.ot rfl rfl rfl) k ?_;refine T.t1 25 rfl (fun j d=>Y.kn rfl rfl rfl) k ?_;refine T.aa 27 rfl k ?_;refine T.aa 29 rfl k ?_;refine T.t1 30 rfl (fun j d=>eH (C.O.N d) (i) l5 eo) k ?_;refine T.t1 31 rfl (fun j d=>au ((C.O.at (i) (lU w i (by omega))).N d) e1) k ?_;refine T.aX 4 ?_;refine b7 kv (kS _ 6 w0 _ (by omega) (by omega)) (fun dp bJ bK=>?_);obtain⟨rfl,rfl⟩:=bK;have a9:=aq.refl bJ;have az:=k.L a9;refine⟨.inr az,?_⟩;refine T.aX 7 ?_;refine b7 kv (kS _ 11 w0 _ (by omega) (by omega)) (fun dq bL bM=>?_);obtain⟨rfl,rfl⟩:=bM;have bo:=aq.refl bL;have ag:=az.L bo;refine⟨.inr ag,?_⟩;refine T.t1 8 rfl (fun j d=>Y.kn rfl rfl rfl) ag ?_;refine T.aX 11 ?_;refine b7 kv (kS _ 25 w0 _ (by omega) (by omega)) (fun cs ah bN=>?_);obtain⟨rfl,rfl⟩:=bN;have cm:=aq.refl ah;have E:=ag.L cm;refine⟨.inr E,?_⟩;refine T.t1 12 rfl (fun j d=>Y.kn rfl rfl rfl) E ?_;refine T.t1 13 rfl (fun j d=>Y.j_ rfl rfl rfl) E ?_;refine T.t1 26 rfl (fun j d=>Y.j_ rfl rfl rfl) E ?_;refine T.t1 28 rfl (fun j d=>Y.j_ rfl rfl rfl) E ?_;refine T.t1 32 rfl (fun j d=>Y.j_ rfl rfl rfl) E ?_;refine T.t1 33 rfl (fun j d=>e5) E ?_;refine cI ?_;have aC:=E;refine aK (G.t1 (fun cn=>?_));refine dg (fun j=>aq ah j) [] ?_;have k:=aq.refl ah;refine T.t1 0 rfl (fun j d=>eH (A.O.N d) (0) fO eo) k ?_;refine T.t1 1 rfl (fun j d=>au (A.O.N d) e1) k ?_;refine T.t1 3 rfl (fun j d=>eH (A.O.N d) (0) fO eo) k ?_;refine T.t1 4 rfl (fun j d=>au (A.O.N d) e1) k ?_;refine T.t1 7 rfl (fun j d=>eH (A.O.N d) (0) fO eo) k ?_;refine T.t1 8 rfl (fun j d=>au (A.O.N d) e1) k ?_;refine T.t1 11 rfl (fun j d=>eH (A.O.N d) (0) fO eo) k ?_;refine T.t1 12 rfl (fun j d=>au (A.O.N d) e1) k ?_;refine T.t1 13 rfl (fun j d=>eH (A.O.N d) (1) fO eo) k ?_;refine T.t1 14 rfl (fun j d=>au ((A.O.drop 1).N d) e1) k ?_;refine T.t1 15 rfl (fun j d=>Y.ot rfl rfl rfl) k ?_;refine T.t1 16 rfl (fun j d=>eH (A.O.N d) (0) fO eo) k ?_;refine T.t1 17 rfl (fun j d=>au (A.O.N d) e1) k ?_;refine T.t1 18 rfl (fun j d=>eH (A.O.N d) (2) fO eo) k ?_;refine T.t1 19 rfl (fun j d=>au ((A.O.drop 2).N d) e1) k ?_;refine T.t1 20 rfl (fun j d=>Y.ot rfl rfl rfl) k ?_;refine T.t1 21 rfl (fun j d=>Y.kn rfl rfl rfl) k ?_;refine T.t1 22 rfl (fun j d=>eH (A.O.N d) (1) fO eo) k ?_;refine T.t1 23 rfl (fun j d=>au ((A.O.drop 1).N d) e1) k ?_;refine T.t1 24 rfl (fun j d=>eH (A.O.N d) (2) fO eo) k ?_;refine T.t1 25 rfl (fun j d=>au ((A.O.drop 2).N d) e1) k ?_;refine T.t1 26 rfl (fun j d=>Y.ot rfl rfl rfl) k ?_;refine T.t1 27 rfl (fun j d=>Y.kn rfl rfl rfl) k ?_;refine T.aX 2 ?_;refine b7 kv (kS _ 2 w0 _ (by omega) (by omega)) (fun c1 bT be=>?_);obtain⟨rfl,rfl⟩:=be;have bt:=aq.refl bT;have ar:=k.L bt;refine⟨.inr ar,?_⟩;refine T.aX 5 ?_;refine b7 kv (kS _ 13 w0 _ (by omega) (by omega)) (fun c3 b5 cp=>?_);obtain⟨rfl,rfl⟩:=cp;have bu:=aq.refl b5;have af:=ar.L bu;refine⟨.inr af,?_⟩;refine T.t1 6 rfl (fun j d=>Y.kn rfl rfl rfl) af ?_;refine T.aX 9 ?_;refine b7 kv (kS _ 22 w0 _ (by omega) (by omega)) (fun c9 cq bi=>?_);obtain⟨rfl,rfl⟩:=bi;have bx:=aq.refl cq;have O:=af.L bx;refine⟨.inr O,?_⟩;refine T.t1 10 rfl (fun j d=>Y.kn rfl rfl rfl) O ?_;refine T.t1 28 rfl (fun j d=>Y.j_ rfl rfl rfl) O ?_;refine T.t1 29 rfl (fun j d=>e5) O ?_;refine cI ?_;have aC:=O;refine cn (G.region ?_);refine o.az 2 ?_;refine o.v1 (Y.j_ rfl rfl rfl) ?_;refine o.v1 (eH A.O (0) fO eo) ?_;refine o.v1 (au A.O e1) ?_;refine o.v1 (eH A.O (1) fO eo) ?_;refine o.v1 (au (A.O.drop 1) e1) ?_;refine o.v1 (eH A.O (2) fO eo) ?_;refine o.v1 (au (A.O.drop 2) e1) ?_;refine o.v1 (eH A.O (3) fO eo) ?_;refine o.v1 (au (A.O.drop 3) e1) ?_;refine o.aa ?_;refine o.v1 (Y.j_ rfl rfl rfl) ?_;refine o.v1 (eH A.O (4) fO eo) ?_;refine o.v1 (au (A.O.drop 4) e1) ?_;refine o.v1 (eH A.O (5) fO eo) ?_;refine o.v1 (au (A.O.drop 5) e1) ?_;refine o.v1 (eH A.O (6) fO eo) ?_;refine o.v1 (au (A.O.drop 6) e1) ?_;refine o.v1 (Y.build (v:= .agg (pj q (jy.getD i 0) (w.getD i 0)).cells.toArray) rfl rfl (by intro w;kernel_rfl)) ?_;refine o.s1 (S.var A ((pj q (jy.getD i 0) (w.getD i 0)).cells) ((pj q (jy.getD i 0) (w.getD i 0)).cells) rfl rfl rfl rfl (by simp[Value.oneCell']) lp (rfl) (Nat.le_of_ble_eq_true rfl) (rfl)) fun c5 bq=>?_;obtain⟨A,cR⟩:=bq;refine o.nil (aI (a5 (G.region ?_)));refine o.v1 bD ?_;refine o.aa (o.nil ?_);refine aR.sub (bm (i+1,pj q (jy.getD i 0) (w.getD i 0)) _ ?_ ?_) ⟨rfl,rfl,rfl,rfl,(aF (by omega)),trivial⟩
    ·exact⟨by omega,by rw[a0];rfl,A,N.trans cR (fun _ _ e=>e) (fun _ _ e=>e)⟩
    ·show 64-(i+1)<64-i;omega
   ·
    have al:i=64:=by omega
    subst al;rw[K]at a0;have cE:(uw st q).list=(compress st wt).list:=by rw[a0];rfl
    refine G.exit (a4 (bn (bl ?_)));refine bg (G.t1 (fun aD=>G.L (fun cr=>?_)));refine o.v1 (a_ A.O rH lp (rfl)) ?_;refine o.aa (o.nil (cr ?_));refine G.aD (fun _ ct _=>?_)
    refine G.bc (fun(i:(Nat))=>[(0,.pointer (some ⟨aA,0,none⟩)),(160,.agg q.cells.toArray),(161,.int .i64 i)])
     (fun(i:(Nat)) (H:Heap)=>i≤8∧Var 356 H aA (av (lL st.list q.list i) wt n aw)∧W (fun c=>c=aA) ae H)
     (fun(i:(Nat))=>8-i) 0 ⟨rfl,rfl,rfl,trivial⟩ ?_ ?_
    ·
     exact⟨by omega,B,W.refl _ _⟩
    intro i dr cC bw cu cv;obtain⟨cL,B,aa⟩:=cC;have ai:=zI st.list q.list i rfl rfl cL;refine G.L (fun cx=>?_);refine o.v1 bH (o.nil (cx ?_));refine G.t2 (fun cy br=>?_);refine aW (fun cz=>?_) (fun cz=>?_)
    ·
     refine G.skip (cy (G.t1 (fun cA=>G.aD (fun cB _ _=>G.L (fun bv=>?_)))));refine o.aa ?_;refine o.v1 (Y.rO (i) rfl fO eo e1 rfl rfl (by first|rfl|omega) (by omega) (by rw[List.getElem?_toArray];exact lU q.list i (by simp;omega))) ?_;refine o.aP 2 ?_;refine bv ?_;refine G.jq 11 rfl (by kernel_rfl) (fun cZ cD=>?_);refine o.az 3 ?_;refine o.v1 (Y.an B.O rfl iL rfl lp) ?_;refine o.v1 (eH B.O (i) fO eo) ?_;refine o.v1 (au (B.O.at (i) (Dd i (by omega))) e1) ?_;rw[zH st.list q.list i rfl rfl (by omega)];refine o.aa ?_;refine o.v1 (Y.j_ rfl rfl rfl) ?_;refine o.bG ?_;refine o.v1 (Y.an B.O rfl iL rfl lp) ?_;refine o.v1 (eH B.O (i) fO eo) ?_;refine o.nil (cD _ ?_);refine o.s1 (dL B (0+(i)) (_) (rfl) eo (by rw[ld ai hw];omega) (Db i (by omega) _)) fun c6 am=>?_;obtain⟨B,cS⟩:=am;refine o.nil (cB (cA (G.region ?_)));refine o.v1 bD ?_;refine o.aa (o.nil ?_);refine aR.sub (cu (i+1) _ ?_ ?_) ⟨rfl,rfl,(aF (by omega)),trivial⟩
     ·exact⟨by omega,by rw[←zJ st.list q.list i rfl rfl (by omega)];exact B,aa.trans cS (fun _ _ e=>e) (fun _ _ e=>e)⟩
     ·omega
    ·
     have cO:i=8:=by omega
     subst cO;refine G.exit (br (cv (ct ?_)));refine aD (G.region ?_);refine o.az 2 ?_;refine o.v1 (Y.an B.O rfl iL rfl b6) ?_;refine o.s1 (dL B 72 (_) (rfl) b6 (by rw[ld ai hw];omega) (wF (m:=0) ai hw)) fun c8 bz=>?_;obtain⟨B,aH⟩:=bz;refine o.nil ?_;refine cP .normal (.inl rfl) _ _ _ (iG rfl) ?_;refine⟨rfl,by rw[←cE];exact B,⟨by have:=Z.size;have:=hm.size;have:=U.size;have:=R.size;have:=P.size;have:=M.size;have:=N.size;have:=aa.size;have:=aH.size;omega,fun b dt aB=>?_⟩⟩;have dy:=Z.size;have dz:=hm.size;have dA:=U.size;have dB:=R.size;have dC:=P.size;have dG:=M.size;have dH:=N.size;have dI:=aa.size;rw[aH.same b (by omega) aB,aa.same b (by omega) aB,N.same b (by omega) (by omega),M.same b (by omega) (fun e=>e),P.same b (by omega) (by omega),R.same b (by omega) (fun e=>e),U.same b (by omega) (by omega),hm.same b (by omega) (by omega),Z.same b (by omega) (fun e=>e)]
end lF

namespace m6
open E Go.RowKit mg k2 lF
def ei:fR:=⟨0x6a09e667,0xbb67ae85,0x3c6ef372,0xa54ff53a,0x510e527f,0x9b05688c,0x1f83d9ab,0x5be0cd19⟩
def run(s:fR)(b:List UInt8):fR×List UInt8:=if h:b.length<64 then(s,b)else run (compress s (b.take 64)) (b.drop 64)
termination_by b.length
decreasing_by simp; omega
theorem kO(s:fR)(b:List UInt8)(h:b.length<64):run s b=(s,b):=by rw[run,dif_pos h]
theorem pk(s:fR)(b:List UInt8)(h:64≤b.length):run s b=run (compress s (b.take 64)) (b.drop 64):=by rw[run,dif_neg (by omega)]
theorem Gd:∀(n:Nat) (s:fR) (b:List UInt8),b.length≤n→(run s b).2.length<64:=by
 intro n
 induction n with
 |zero=>intro s b h;rw[kO s b (by omega)];simp;omega
 |succ n ih=>
  intro s b h;by_cases aA:b.length<64
  ·rw[kO s b aA];exact aA
  ·rw[pk s b (by omega)];exact ih _ _ (by simp;omega)
theorem F9:∀(n:Nat) (s:fR) (a b:List UInt8),a.length≤n→run s (a++b)=run (run s a).1 ((run s a).2++b):=by
 intro n
 induction n with
 |zero=>intro s a b h;rw[kO s a (by omega)]
 |succ n ih=>
  intro s a b h;by_cases d:a.length<64
  ·rw[kO s a d]
  ·rw[pk s a (by omega),pk s (a++b) (by simp;omega),List.take_append_of_le_length (by omega),List.drop_append_of_le_length (by omega)]
   exact ih _ _ _ (by simp;omega)
theorem yk(s:fR)(a b:List UInt8):run s (a++b)=run (run s a).1 ((run s a).2++b):=F9 _ s a b (Nat.le_refl _)
theorem yl(s:fR)(b:List UInt8):(run s b).2.length<64:=Gd _ s b (Nat.le_refl _)
theorem Dc{s:List UInt32}{wt xs:List UInt8}{n m:Nat}{aw:UInt64}(aj:s.length=8)(hw:wt.length=64)(h:m+xs.length≤64):dU (av s wt n aw) (8+m) (xs.flatMap a6)=av s (wt.take m++xs++wt.drop (m+xs.length)) n aw:=by
 have d:(s.map e8).length=8:=by simpa using aj
 have i:(xs.flatMap a6).length=xs.length:=by rw[length_flatMap et,Nat.mul_one]
 have e:∀(wt:List UInt8),av s wt n aw=s.map e8++(wt.map hz++[.int .i64 n,.int .u64 aw.toNat]):=fun wt=>by rw[av,List.append_assoc]
 rw[dU,i,e,e,List.take_append,List.take_of_length_le (by omega),d,show 8+m-8=m by omega,List.drop_append,List.drop_of_length_le (by omega),d,List.nil_append,show 8+m+xs.length-8=m+xs.length by omega];rw[List.take_append_of_le_length (by simp;omega),List.drop_append_of_le_length (by simp;omega),oP];simp[List.map_append,List.map_take,List.map_drop]
structure je (H:Heap) (aA:Nat) (m:List UInt8) (aw:UInt64):Prop where
 ex:∃wt:List UInt8,wt.length=64∧Var 356 H aA (av (run ei m).1.list wt (run ei m).2.length aw)∧wt.take (run ei m).2.length=(run ei m).2
theorem je.N{H ab:Heap}{aA:Nat}{m:List UInt8}{aw:UInt64}(h:je H aA m aw)(s:aq H ab):je ab aA m aw:=let⟨wt,d,V,i⟩:=h.ex;⟨wt,d,V.N s,i⟩
theorem je.up{H ab:Heap}{aA:Nat}{m:List UInt8}{aw:UInt64}{S:Nat→Prop}(h:je H aA m aw)(s:W S H ab)(j:¬S aA):je ab aA m aw:=let⟨wt,d,V,i⟩:=h.ex;⟨wt,d,V.up s j,i⟩
theorem je.lt{H:Heap}{aA:Nat}{m:List UInt8}{aw:UInt64}(h:je H aA m aw):aA<H.size:=let⟨_,_,V,_⟩:=h.ex;V.lt
def cat(l:List (aO×List UInt8)):List UInt8:=l.flatMap (·.2)
theorem vr(l:List (aO×List UInt8))(k:Nat)(h:k<l.length):cat (l.take (k+1))=cat (l.take k)++(l[k]).2:=by
 unfold cat;rw[List.take_succ_eq_append_getElem h,List.flatMap_append];simp
theorem qN (w0:World)(J:Heap)
 :
 aG Tryz.prog w0 256 #[] J (fun r d=>r= .pointer (some ⟨J.size,0,none⟩)∧je d J.size [] 0∧aq J d∧d.size=J.size+1):=by
 refine aG.aN [] Tryz.func256 ?_;intro x q;refine G.L (fun k=>?_);refine o.al ?_;refine k (G.L (fun n=>?_));refine o.v1 (Y.build (v:= .agg (ei.list.map e8).toArray) rfl rfl (by intro w;kernel_rfl)) ?_;refine o.v1 (Y.build (v:= .agg (av ei.list (List.replicate 64 0) 0 0).toArray) rfl rfl (by intro w;kernel_rfl)) ?_;refine o.aS cY ?_;rintro v3 j ⟨rfl,i,ac,A,ad⟩;have i:Var 356 j J.size (av ei.list (List.replicate 64 0) 0 0):=i;refine o.al ?_;refine n ?_;refine G.ret (q ?_);exact⟨rfl,⟨List.replicate 64 0,by simp,by rw[kO ei [] (by simp)];exact i,by rw[kO ei [] (by simp)];rfl⟩,ac,by rw[ad];simp⟩
theorem Gg{c x wt:List UInt8}{n:Nat}(aC:(run ei c).2.length=n)(aA:wt.take n=(run ei c).2)(hw:wt.length=64)(h:n+x.length<64):run ei (c++x)=((run ei c).1,wt.take n++x):=by
 rw[yk,kO _ _ (by simp;omega),aA]
theorem Gc{c x wt:List UInt8}{n:Nat}(aC:(run ei c).2.length=n)(aA:wt.take n=(run ei c).2)(hw:wt.length=64)(h:n+x.length=64):run ei (c++x)=(compress (run ei c).1 (wt.take n++x++wt.drop (n+x.length)),[]):=by
 have d:(wt.take n++x).length=64:=by simp;omega
 rw[yk,←aA,pk _ _ (by omega),List.take_of_length_le (by omega),List.drop_of_length_le (by omega),kO _ _ (by simp),List.drop_of_length_le (show wt.length≤n+x.length by omega),List.append_nil]
theorem Dy{wt x:List UInt8}{n:Nat}(hw:wt.length=64)(h:n+x.length≤64):(wt.take n++x++wt.drop (n+x.length)).length=64∧(wt.take n++x++wt.drop (n+x.length)).take (n+x.length)=wt.take n++x:=by
 have d:(wt.take n++x).length=n+x.length:=by simp;omega
 exact⟨by simp;omega,List.take_left' d⟩
theorem rm(aA:Nat)(N:Value)(m:List UInt8)(aw:UInt64)(l:List (aO×List UInt8))(w0:World)(J:Heap)
 (K:je J aA m aw) (R:Rd (fun b=>b≠aA) J hU 1 N l) (bk:∀x∈l,Rd (fun b=>b≠aA) J a6 1 x.1.v x.2):
 aG Tryz.prog w0 257 #[.pointer (some ⟨aA,0,none⟩),N] J (fun r S=>r= .tuple #[]∧je S aA (m++cat l) (aw+UInt64.ofNat (cat l).length)∧W (fun c=>c=aA) J S):=by
 refine aG.enter (args:=[.pointer (some ⟨aA,0,none⟩),N]) Tryz.func257 rfl rfl rfl ?_;intro bm bd;have bF:=R.len;refine G.L (fun a8=>?_);refine o.aa ?_;refine o.v1 (bf R hR) ?_;refine o.aa (o.nil (a8 ?_));refine G.aD (fun _ a_ _=>?_)
 refine G.bc (fun(k:(Nat))=>[(0,.pointer (some ⟨aA,0,none⟩)),(7,N),(8,.int .i64 l.length),(9,.int .i64 k)])
  (fun(k:(Nat)) (H:Heap)=>k≤l.length∧je H aA (m++cat (l.take k)) (aw+UInt64.ofNat (cat (l.take k)).length)∧W (fun c=>c=aA) J H)
  (fun(k:(Nat))=>l.length-k) 0 ⟨rfl,rfl,rfl,rfl,trivial⟩ ?_ ?_
 ·
  exact⟨by omega,by simpa[cat]using K,W.refl _ _⟩
 intro k bq af n9 ag ah;obtain⟨bB,K,hm⟩:=af;obtain⟨wt,j,d,E⟩:=K.ex;have P:=R.up hm (fun _ _ q V=>q V);refine G.L (fun ai=>?_);refine o.v1 bH (o.nil (ai ?_));refine G.t2 (fun al an=>?_);refine aW (fun ar=>?_) (fun ar=>?_)
 ·
  refine G.skip (al (G.t1 (fun ay=>G.aD (fun az _ _=>G.L (fun aB=>?_)))));refine o.b1 (Y.indexAddr P (k) rfl hR c8 rfl rfl (by first|rfl|omega) (by first|omega|(simp;omega)|(simp;done))) fun bo aN=>?_;refine o.v1 (au aN eI) ?_;have C:=(bk l[k] (List.getElem_mem _)).up hm (fun _ _ q V=>q V);have bg:=C.len;refine o.al ?_;refine aB (G.L (fun aD=>?_));refine o.az 2 ?_;refine o.v1 (Y.an d.O rfl iL rfl q1) ?_;refine o.v1 (au (d.O.at 73 (wE rfl j)) uk) ?_;refine o.aa ?_;refine o.v1 (bf C dj) ?_;refine o.v1 (Y.hq rfl gk gV rfl) ?_;refine o.v1 (Y.zL rfl rfl rfl) ?_;refine o.bG ?_;refine o.v1 (Y.an d.O rfl iL rfl q1) ?_;refine o.s1 (dL d 73 (_) (rfl) q1 (by rw[ld rfl j];omega) (Da rfl j)) fun bA aM=>?_;obtain⟨d,ae⟩:=aM;have hm:=hm.trans ae (fun _ _ e=>e) (fun _ _ e=>e);have C:=C.up ae (fun _ _ q V=>q V);refine o.nil (aD (G.aD (fun _ aP _=>?_)))
  refine G.bc (fun(bl:(Value)×(List UInt8)×(List UInt8)×(List UInt8))=>match bl with|(v,r,c,wt)=>[(0,.pointer (some ⟨aA,0,none⟩)),(5,v),(7,N),(8,.int .i64 l.length),(9,.int .i64 k)])
   (fun(v,r,c,wt) (H:Heap)=>wt.length=64∧Var 356 H aA (av (run ei c).1.list wt (run ei c).2.length (aw+UInt64.ofNat (cat (l.take k)).length+UInt64.ofNat (l[k]).2.length))∧wt.take (run ei c).2.length=(run ei c).2∧Rd (fun b=>b≠aA) H a6 1 v r∧c++r=m++cat (l.take k)++(l[k]).2∧W (fun c=>c=aA) J H)
   (fun(v,r,c,wt)=>r.length) ((l[k]).1.v,(l[k]).2,m++cat (l.take k),wt) ⟨rfl,rfl,rfl,rfl,rfl,trivial⟩ ?_ ?_
  ·
   exact⟨j,d,E,C,rfl,hm⟩
  rintro⟨v,r,c,wt⟩ bs aH bt T aQ;obtain⟨j,d,E,A,O,hm⟩:=aH;have bg:=A.len;refine G.t2 (fun aS aT=>G.L (fun am=>?_));refine o.aa ?_;refine o.v1 (bf A dj) ?_;refine o.v1 eX (o.nil (am ?_));refine aW (fun aI=>?_) (fun aI=>?_)
  ·
   refine G.skip (aS (G.aD (fun ac _ _=>G.t1 (fun aX=>?_))));have bc:=yl ei c;obtain⟨n,aC⟩:∃n,(run ei c).2.length=n:=⟨_,rfl⟩;rw[aC]at d E bc;obtain⟨gg,bE⟩:∃gg,min r.length (64-n)=gg:=⟨_,rfl⟩;have Q:(r.take gg).length=gg:=by simp;omega
   obtain⟨B,bb⟩:=Dy (x:=r.take gg) (n:=n) j (by omega);refine G.jq 9 rfl (by kernel_rfl) (fun bn ba=>?_);refine o.az 2 ?_;refine o.v1 (Y.an d.O rfl iL rfl yp) ?_;refine o.az 2 ?_;refine o.v1 (Y.an d.O rfl iL rfl b6) ?_;refine o.v1 (au (d.O.at 72 (qu rfl j)) cE) ?_;refine o.v1 ((Y.yx (F:=fun c=>c=aA) (f:=a6) (xs:=wt) (d.O.drop 8) rfl d.lt (j) (fun i x h=>wG rfl i x h) (n) (64) rfl (fun w=> .inl (y7 w)) cK rfl (.inr ⟨_,_,_,rfl,rfl,by first|rfl|omega⟩) (.inl ⟨rfl,rfl⟩) (by omega) (by omega) (by decide)).1 _) ?_;rw[if_neg (by omega)];refine o.aa ?_;refine o.nil (ba _ ?_);refine o.aS (Z.copy (off:=8+n) d A et fB rfl Tryz.underlying57 cK rfl rfl (by rw[ld rfl j];omega) (gg) (by omega)) fun bu bw aJ=>?_;obtain⟨rfl,d,U⟩:=aJ;rw[Dc rfl j (by omega)]at d;have A:=A.up U (fun _ _ q V=>q V);have hm:=hm.trans U (fun _ _ e=>e) (fun _ _ e=>e);refine o.al ?_;refine aX (G.L (fun ap=>?_));refine o.az 2 ?_;refine o.v1 (Y.an d.O rfl iL rfl b6) ?_;refine o.v1 (au (d.O.at 72 (qu rfl B)) cE) ?_;refine o.aa ?_;refine o.v1 bD ?_;refine o.bG ?_;refine o.v1 (Y.an d.O rfl iL rfl b6) ?_;refine o.s1 (dL d 72 (av (run ei c).1.list (wt.take n++r.take gg++wt.drop (n+(r.take gg).length)) (n+gg) (aw+UInt64.ofNat (cat (l.take k)).length+UInt64.ofNat (l[k]).2.length)) (rfl) b6 (by rw[ld rfl B];omega) (by rw[←wF (m:=n+gg) (n:=n) rfl B,Int.natCast_add])) fun bp aZ=>?_;obtain⟨d,aa⟩:=aZ;have A:=A.up aa (fun _ _ q V=>q V);have hm:=hm.trans aa (fun _ _ e=>e) (fun _ _ e=>e);refine o.nil (ap (G.L (fun a1=>?_)));refine o.az 2 ?_;refine o.aN (g:=fun v=>v) (Y.slice A (gg) (_) rfl dj cK rfl (.inr ⟨_,_,_,rfl,rfl,by first|rfl|omega⟩) (.inl ⟨rfl,rfl⟩) (by omega) (by omega)) fun ab M=>?_;rw[List.take_length]at M;refine o.al ?_;refine a1 (G.L (fun a7=>?_));refine o.az 2 ?_;refine o.v1 (Y.an d.O rfl iL rfl b6) ?_;refine o.v1 (au (d.O.at 72 (qu rfl B)) cE) ?_;refine o.v1 cb (o.nil (a7 ?_));refine aW (fun aK=>?_) (fun aK=>?_)
   ·
    refine G.region ?_;refine o.aa ?_;refine aV Bq (Am aA _ _ _ _ w0 _ d B) (fun bx bz aL=>?_);obtain⟨rfl,d,X⟩:=aL;have M:=M.up X (fun _ _ q V=>q V);have hm:=hm.trans X (fun _ _ e=>e) (fun _ _ e=>e);refine o.nil (ac ?_);have L:=Gc (x:=r.take gg) (c:=c) (wt:=wt) aC E j (by omega);refine aR.sub (T (ab,r.drop gg,c++r.take gg,wt.take n++r.take gg++wt.drop (n+(r.take gg).length)) _ ?_ ?_) ⟨rfl,rfl,rfl,(aF (by omega)),(aF (by omega)),trivial⟩
    ·exact⟨B,by rw[L];exact d,by rw[L];rfl,M,by rw[List.append_assoc,List.take_append_drop];exact O,hm⟩
    ·show(r.drop gg).length<r.length;rw[List.length_drop];omega
   ·
    refine G.skip (ac ?_);have L:=Gg (x:=r.take gg) (c:=c) (wt:=wt) aC E j (by omega);have P:(wt.take n++r.take gg).length=n+gg:=by rw[List.length_append,List.length_take];omega
    refine aR.sub (T (ab,r.drop gg,c++r.take gg,wt.take n++r.take gg++wt.drop (n+(r.take gg).length)) _ ?_ ?_) ⟨rfl,rfl,rfl,(aF (by omega)),(aF (by omega)),trivial⟩
    ·exact⟨B,by rw[L];simp only;rw[P];exact d,by rw[L];simp only;rw[P];simpa only[Q]using bb,M,by rw[List.append_assoc,List.take_append_drop];exact O,hm⟩
    ·show(r.drop gg).length<r.length;rw[List.length_drop];omega
  ·
   have C:r=[]:=List.eq_nil_of_length_eq_zero (by omega);subst C;rw[List.append_nil]at O;subst O;refine G.exit (aT (aQ (aP ?_)));refine az (ay (G.region ?_));refine o.v1 bD ?_;refine o.aa (o.nil ?_);refine aR.sub (ag (k+1) _ ?_ ?_) ⟨rfl,rfl,(aF (by omega)),(aF (by omega)),trivial⟩
   ·exact⟨by omega,⟨wt,j,by rw[vr l k (by omega),←List.append_assoc,List.length_append,UInt64.ofNat_add,←UInt64.add_assoc];exact d,by rw[vr l k (by omega),←List.append_assoc];exact E⟩,hm⟩
   ·omega
 ·
  refine G.exit (an (ah (a_ ?_)));refine bd .normal (.inl rfl) _ _ _ (iG rfl) ?_;have Q:k=l.length:=by omega
  subst Q;rw[List.take_length]at K;exact⟨rfl,K,hm⟩
end m6

namespace rE
open E Go.RowKit mg k2 lF m6
def cd:Nat→UInt64→List UInt8
 |0,_=>[]
 |j+1,x=>UInt8.ofNat (iJ x (8*j)).toNat::cd j x
theorem dI:∀(n:Nat) (x:UInt64),(cd n x).length=n
 |0,_=>rfl
 |n+1,x=>by rw[cd,List.length_cons,dI]
end rE

namespace m7
open E Go.RowKit mg k2 lF m6 rE
def lY(n:Nat):Nat:=(119-n%64)%64
def iF(n:Nat):List UInt8:=0x80::(List.replicate (lY n) 0++cd 8 (UInt64.ofNat (8*n)))
def lk(s:List UInt32):List UInt8:=(List.range 32).map (fun i=>UInt8.ofNat (jr (s.getD (i/4) 0) (24-8*(i%4))).toNat)
theorem xK(s:List UInt32):(lk s).length=32:=by simp[lk]
def sumOf(m:List UInt8):List UInt8:=lk (run ei (m++iF m.length)).1.list
theorem lv(m:List UInt8):(sumOf m).length=32:=xK _
theorem D7(w:List UInt8)(j:Nat)(x:UInt8):(w.map hz).set (0+j) (hz x)=(w.set j x).map hz:=by rw[Nat.zero_add,List.map_set]
theorem G5(w r:List UInt8)(i:Nat)(x:UInt8)(h:w.take i=r.take i)(k:i<w.length)(n:r[i]?=some x):(w.set i x).take (i+1)=r.take (i+1):=by
 have V:=(List.getElem?_eq_some_iff.1 n);obtain⟨d,j⟩:=V;rw[tI _ _ _ k,h,List.take_succ_eq_append_getElem d,j]
theorem Fa(s:List UInt32)(i:Nat)(h:i<32):(lk s)[i]?=some (UInt8.ofNat (jr (s.getD (i/4) 0) (24-8*(i%4))).toNat):=by
 simp[lk,h]
end m7

namespace pK
open E Go.RowKit mg k2 lF m6 rE m7
set_option maxRecDepth 100000 in
theorem de:c3 Tryz.prog 57 5 1 1:=⟨Tryz.underlying57,_,_,rfl,rfl,rfl,rfl,rfl⟩
set_option maxRecDepth 100000 in
theorem lf:c3 Tryz.prog 104 57 1 24:=⟨Tryz.underlying104,_,_,rfl,rfl,rfl,rfl,rfl⟩
theorem HW:∀w,(zeroValue 356).run Tryz.prog w= .ok (.agg (av (List.replicate 8 0) (List.replicate 64 0) 0 0).toArray) w:=fun w=>by kernel_rfl
theorem GF{cs d:List Value}(h:cs.length=d.length):dU cs 0 d=d:=by simp[dU,←h]
theorem C_(s:List UInt32)(wt:List UInt8)(n:Nat)(aw:UInt64):∀u∈av s wt n aw,u.oneCell'=true:=by
 intro u hu;simp only[av,List.mem_append,List.mem_map,List.mem_cons,List.not_mem_nil,or_false]at hu;rcases hu with(⟨x,_,rfl⟩|⟨x,_,rfl⟩)|rfl|rfl<;>rfl
theorem Gf:∀(n:Nat) (s:fR) (b:List UInt8),b.length≤n→(run s b).2.length=b.length%64:=by
 intro n
 induction n with
 |zero=>intro s b h;rw[kO s b (by omega)];simp only;omega
 |succ n ih=>
  intro s b h;by_cases aA:b.length<64
  ·rw[kO s b aA];simp only;omega
  ·rw[pk s b (by omega),ih _ _ (by simp;omega)];simp;omega
theorem Ge(s:fR)(b:List UInt8):(run s b).2.length=b.length%64:=Gf _ s b (Nat.le_refl _)
theorem Fi(z:Nat):(List.replicate (1+z) (0:UInt8)).set 0 0x80=0x80::List.replicate z 0:=by rw[Nat.add_comm,List.replicate_succ,List.set_cons_zero]
theorem E_(s:List UInt32)(i k:Nat)(d:i<8)(j:k<4):(lk s)[4*i+k]?=some (UInt8.ofNat (jr (s.getD i 0) (24-8*k)).toNat):=by
 rw[Fa s _ (by omega),show(4*i+k)/4=i by omega,show(4*i+k)%4=k by omega]
theorem Ft(aA:Nat)(m:List UInt8)(w0:World)(J:Heap)
 (aM:je J aA m (UInt64.ofNat m.length)) (du:m.length≤1099511627776):
 aG Tryz.prog w0 258 #[.pointer (some ⟨aA,0,none⟩)] J (fun r M=>r= .agg ((sumOf m).map hz).toArray∧W (fun c=>False) J M):=by
 refine aG.enter (args:=[.pointer (some ⟨aA,0,none⟩)]) Tryz.func258 rfl rfl rfl ?_;intro cv ct;obtain⟨wt,U,F,aP⟩:=aM.ex;have cq:=yl ei m;have cr:=Ge ei m;obtain⟨n,aC⟩:∃n,(run ei m).2.length=n:=⟨_,rfl⟩;have cn:=aP;rw[aC]at F aP cq cr;have cA:=F.lt;have cB:=aM.lt;have B:W (fun c=>False) J J:=W.refl _ _;refine G.L (fun b8=>?_);refine o.aS (dk m0) ?_;rintro v2 M ⟨rfl,C,ay,cI,b9⟩;have c5:M.size=J.size+1:=by rw[b9];simp
 have F:=F.N ay;have B:=B.trans ay (fun b A d=>d) (fun b A d=>d.elim);have cJ:=ay.size;have cy:=C.lt;have C:Var 26 M J.size ((List.replicate 32 (0:UInt8)).map hz):=C;refine o.nil (b8 (G.L (fun ca=>?_)));refine o.az 2 ?_;refine o.v1 (a_ F.O zE yq (ld rfl U)) ?_;refine o.aS (dk HW) ?_;rintro v3 aB ⟨rfl,E,af,cL,cb⟩;have br:aB.size=M.size+1:=by rw[cb];simp
 have F:=F.N af;have B:=B.trans af (fun b A d=>d) (fun b A d=>d.elim);have C:=C.N af;have cO:=af.size;have cz:=E.lt;have E:Var 356 aB M.size (av (List.replicate 8 0) (List.replicate 64 0) 0 0):=E;refine o.s1 (S.var E (av (run ei m).1.list wt n (UInt64.ofNat m.length)) (av (run ei m).1.list wt n (UInt64.ofNat m.length)) rfl rfl rfl rfl (C_ _ _ _ _) yq (ld rfl U) (Nat.le_of_ble_eq_true rfl) (GF (by rw[ld (by simp) (by simp),ld rfl U]))) fun al a1=>?_;obtain⟨E,ai⟩:=a1;have F:=F.up ai (by omega);have B:=B.trans ai (fun b A d=>d) (fun b A d=>by omega);have C:=C.up ai (by omega);have cP:=ai.size;refine o.nil (ca (G.t1 (fun cc=>?_)));have dw:lY m.length=(119-m.length%64)%64:=rfl;refine G.region ?_;refine o.v1 (Y.an E.O rfl iL rfl b6) ?_;refine o.v1 (au (E.O.at 72 (qu rfl U)) cE) ?_;refine o.v1 fG ?_;refine o.v1 (Y.FN rfl rfl rfl (by omega)) ?_;refine o.v1 bD ?_;refine o.aS (Z.D6 (1+lY m.length) ((0:UInt8)) rfl de zt rfl et fB rfl rfl (by first|rfl|omega) (by omega) (by omega)) fun cf cg bv=>?_;obtain⟨ac,aa,c6,a7⟩:=bv;have c1:cg.size=al.size+1:=by rw[a7];simp
 have F:=F.N aa;have B:=B.trans aa (fun b A d=>d) (fun b A d=>d.elim);have C:=C.N aa;have E:=E.N aa;have c0:=aa.size;have aw:=ac.le;refine o.al ?_;refine cc (G.L (fun ck=>?_));refine o.aa ?_;refine o.v1 (il ac (0) dj cK (by first|omega|(simp;omega)|(simp;done))) ?_;refine o.s1 (S.xL ac (0) 0 ((0x80:UInt8)) rfl rfl rfl rfl cK (by first|omega|(simp;omega)|(simp;done)) (by decide) (rfl)) fun aJ a8=>?_;obtain⟨ac,ad⟩:=a8;have F:=F.up ad (by omega);have B:=B.trans ad (fun b A d=>d) (fun b A d=>by omega);have C:=C.up ad (by omega);have E:=E.up ad (by omega);have c7:=ad.size;rw[Fi]at ac;refine o.nil (ck (G.t1 (fun cl=>G.L (fun bB=>?_))));refine o.al ?_;refine bB (G.aD (fun _ bE _=>?_))
 refine G.bc (fun(ae:(Nat)×(Value)×(Nat)×(List UInt8))=>match ae with|(j,P,R,ys)=>[(0,.pointer (some ⟨aA,0,none⟩)),(2,.pointer (some ⟨J.size,0,none⟩)),(3,.pointer (some ⟨M.size,0,none⟩)),(4,P),(5,.int .i64 (8*(j:Int)-8))])
  (fun(j,P,R,ys) (H:Heap)=>(j≤8)∧(aU R 5 H a6 1 P ys)∧(R=0∨R=al.size+1∨aJ.size<R)∧(ys++cd j (UInt64.ofNat (8*m.length))=(0x80::List.replicate (lY m.length) (0:UInt8))++cd 8 (UInt64.ofNat (8*m.length)))∧W (fun c=>c=al.size) aJ H)
  (fun(j,P,R,ys)=>j) (8,cf,al.size+1,(0x80::List.replicate (lY m.length) (0:UInt8))) ⟨rfl,rfl,rfl,rfl,rfl,trivial⟩ ?_ ?_
 ·
  exact⟨(by omega),ac,(by omega),rfl,W.refl _ _⟩
 rintro⟨j,P,R,ys⟩ bi bF cu bJ bK;obtain⟨dr,ac,dt,X,L⟩:=bF;have F:=F.up L (by omega);have B:=B.trans L (fun b A d=>d) (fun b A d=>by omega);have C:=C.up L (by omega);have E:=E.up L (by omega);have c8:=L.size;have aw:=ac.le;have dz:ys.length+j=lY m.length+9:=by have:=congrArg List.length X;simpa[dI]using this
 have dx:lY m.length<64:=by rw[lY];omega
 refine G.t2 (fun bL bM=>G.L (fun ba=>?_));refine o.aa ?_;refine o.v1 dq (o.nil (ba ?_));refine aW (fun bN=>?_) (fun bN=>?_)
 ·
  obtain⟨j,rfl⟩:∃q,j=q+1:=⟨j-1,by omega⟩;refine G.skip (bL (G.t1 (fun bb=>G.aD (fun bc _ _=>G.region ?_))));refine o.az 3 ?_;refine o.v1 (Y.an F.O rfl iL rfl q1) ?_;refine o.v1 (au (F.O.at 73 (wE rfl U)) uk) ?_;refine o.v1 (Y.cast (v2:= .int .u64 (UInt64.ofNat (8*m.length)).toNat) (Y.En (b:=(UInt64.ofNat 8)) rfl rfl rfl) (by rw[←UInt64.ofNat_mul,Nat.mul_comm])) ?_;refine o.aa ?_;refine o.v1 (Y.pq (8*j) rfl rfl rfl (by first|rfl|omega) (by omega)) ?_;refine o.v1 (Y.oI rfl gV ju rfl) ?_;refine o.aS (cS _ ([UInt8.ofNat (iJ (UInt64.ofNat (8*m.length)) (8*j)).toNat]) de et fB (rfl)) fun c9 bO bP=>?_;obtain⟨aK,am,cQ,bf⟩:=bP;have c2:bO.size=bi.size+1:=by rw[bf];simp
  have B:=B.trans am (fun b A d=>d) (fun b A d=>d.elim);have ac:=ac.N am
  try have L:=L.trans am (fun b A d=>d) (fun b A d=>d.elim)
  have c_:=am.size;have cC:=aK.le;refine o.aS (eg ac aK.rd de (by first|omega|(simp;omega)) (by first|omega|(simp;omega))) fun bQ ce bR=>?_;obtain⟨bU,aL,cR,ap⟩:=bR;have B:=B.trans ap (fun b A d=>d) (fun b A d=>by omega)
  try have L:=L.trans ap (fun b A d=>d) (fun b A d=>by omega)
  have da:=ap.size;have cD:=aL.le;refine o.al ?_;refine bc (bb (G.region ?_));refine o.aa ?_;refine o.v1 fG ?_;refine o.al ?_;refine aR.sub (bJ (j,bQ,bU,ys++[UInt8.ofNat (iJ (UInt64.ofNat (8*m.length)) (8*j)).toNat]) _ ?_ ?_) ⟨rfl,rfl,rfl,rfl,(aF (by omega)),trivial⟩
  ·exact⟨(by omega),aL,(by omega),by rw[←X,List.append_assoc];rfl,L⟩
  ·first|omega|(simp only;omega)|(simp;omega)
 ·
  obtain rfl:j=0:=by omega
  rw[cd,List.append_nil]at X;have X:ys=iF m.length:=by rw[X];rfl
  subst X;refine G.exit (bM (bK (bE ?_)));refine cl (G.L (fun bg=>?_));refine o.aa ?_;refine o.aS (Z.wV _ ([((cm P,iF m.length):aO×List UInt8)]) rfl lf rfl rfl rfl (by decide) (by decide) nq nr (by simp only[List.map_cons,List.map_nil,hU];rw[ac.bm,ac.rd.BY])) fun db bV bW=>?_;obtain⟨aH,ab,cV,bk⟩:=bW;have aD:bV.size=bi.size+1:=by rw[bk];simp
  have B:=B.trans ab (fun b A d=>d) (fun b A d=>d.elim);have C:=C.N ab;have E:=E.N ab;have ac:=ac.N ab;have dR:=ab.size;have cx:=aH.le;refine aV vg (rm M.size _ m (UInt64.ofNat m.length) [((cm P,iF m.length):aO×List UInt8)] w0 _ ⟨wt,U,aC▸E,cn⟩ (aH.rd.imp (fun b _ h=>by omega)) (by intro x aQ;simp only[List.mem_singleton]at aQ;subst aQ;simp only;rw[ac.bm];exact ac.rd.imp (fun b _ h=>by omega))) (fun ci O bX=>?_);obtain⟨rfl,aN,az⟩:=bX;have cp:m++cat [((cm P,iF m.length):aO×List UInt8)]=m++iF m.length:=by simp[cat]
  rw[cp]at aN;obtain⟨dA,dy,E,dm⟩:=aN.ex;have B:=B.trans az (fun b A d=>d) (fun b A d=>by omega);have C:=C.up az (by omega);have cW:=az.size;refine o.nil (bg (G.L (fun bl=>?_)));refine o.aS (dk m0) ?_;rintro v6 ar ⟨rfl,K,ag,dc,bY⟩;have cX:ar.size=O.size+1:=by rw[bY];simp
  have B:=B.trans ag (fun b A d=>d) (fun b A d=>d.elim);have C:=C.N ag;have E:=E.N ag;have cY:=ag.size;have aI:=K.lt;have K:Var 26 ar O.size ((List.replicate 32 (0:UInt8)).map hz):=K;refine o.nil (bl (G.t1 (fun bm=>G.L (fun bn=>?_))));refine o.v1 (Y.an E.O rfl iL rfl lp) ?_;refine o.v1 (Y.cast (v2:= .agg ((run ei (m++iF m.length)).1.list.map e8).toArray) (a_ (E.O.take 8) rH lp (rfl)) (rfl)) ?_;refine o.aa (o.nil (bn ?_));refine G.aD (fun _ bo _=>?_)
  refine G.bc (fun(ae:(Nat)×(List UInt8))=>match ae with|(i,I)=>[(2,.pointer (some ⟨J.size,0,none⟩)),(6,.pointer (some ⟨O.size,0,none⟩)),(40,.agg ((run ei (m++iF m.length)).1.list.map e8).toArray),(41,.int .i64 i)])
   (fun(i,I) (H:Heap)=>(i≤8)∧(I.length=32)∧(I.take (4*i)=(lk (run ei (m++iF m.length)).1.list).take (4*i))∧(Var 26 H O.size (I.map hz))∧W (fun c=>c=O.size) ar H)
   (fun(i,I)=>8-i) (0,List.replicate 32 0) ⟨rfl,rfl,rfl,rfl,trivial⟩ ?_ ?_
  ·
   exact⟨(by omega),by simp,by simp,K,W.refl _ _⟩
  rintro⟨i,I⟩ bZ b0 df bp bq;obtain⟨dp,an,Q,K,N⟩:=b0;have B:=B.trans N (fun b A d=>d) (fun b A d=>by omega);have C:=C.up N (by omega);have cZ:=N.size;have aI:=K.lt;refine G.L (fun bs=>?_);refine o.v1 bH (o.nil (bs ?_));refine G.t2 (fun a0 a2=>?_);refine aW (fun bx=>?_) (fun bx=>?_)
  ·
   refine G.skip (a0 (G.t1 (fun a3=>G.aD (fun a4 _ _=>G.L (fun a5=>?_)))));refine o.aa ?_;refine o.v1 (Y.rO (i) rfl fO eo e1 rfl rfl (by first|rfl|omega) (by omega) ((by rw[List.getElem?_toArray];exact lU (run ei (m++iF m.length)).1.list i (by simp;omega)))) ?_;refine o.aP 2 ?_;refine a5 (G.L (fun aS=>?_));refine o.aa (o.nil (aS ?_));refine G.aD (fun _ aT _=>?_)
   refine G.bc (fun(ae:(Nat)×(List UInt8))=>match ae with|(k,I)=>[(2,.pointer (some ⟨J.size,0,none⟩)),(6,.pointer (some ⟨O.size,0,none⟩)),(7,.int .i64 i),(8,.int .u32 ((run ei (m++iF m.length)).1.list.getD i 0).toNat),(40,.agg ((run ei (m++iF m.length)).1.list.map e8).toArray),(41,.int .i64 i),(45,.int .i64 k)])
    (fun(k,I) (H:Heap)=>(k≤4)∧(I.length=32)∧(I.take (4*i+k)=(lk (run ei (m++iF m.length)).1.list).take (4*i+k))∧(Var 26 H O.size (I.map hz))∧W (fun c=>c=O.size) bZ H)
    (fun(k,I)=>4-k) (0,I) ⟨rfl,rfl,rfl,rfl,rfl,rfl,rfl,trivial⟩ ?_ ?_
   ·
    exact⟨(by omega),an,Q,K,W.refl _ _⟩
   rintro⟨k,I⟩ dg bz dh aX a9;obtain⟨di,an,Q,K,T⟩:=bz;have B:=B.trans T (fun b A d=>d) (fun b A d=>by omega)
   try have N:=N.trans T (fun b A d=>d) (fun b A d=>by omega)
   have cG:=T.size;have aI:=K.lt;refine G.L (fun bt=>?_);refine o.v1 bH (o.nil (bt ?_));refine G.t2 (fun b1 b2=>?_);refine aW (fun bA=>?_) (fun bA=>?_)
   ·
    refine G.skip (b1 (G.t1 (fun b3=>G.aD (fun bT _ _=>G.L (fun be=>?_)))));refine o.aP 2 ?_;refine be (G.region ?_);refine o.aa ?_;refine o.v1 (Y.jo rfl rfl rfl (by omega)) ?_;refine o.aa ?_;refine o.v1 bD ?_;refine o.az 2 ?_;refine o.v1 (Y.jo rfl rfl rfl (by omega)) ?_;refine o.v1 fG ?_;refine o.v1 (Y.q9 (24-8*k) rfl rfl rfl (by omega) (by omega)) ?_;refine o.v1 (Y.oI rfl pz ju rfl) ?_;refine o.v1 (eH K.O (4*i+k) j2 cK) ?_;refine o.s1 (dL K (0+(4*i+k)) (_) (rfl) cK (by simp;omega) (D7 I (4*i+k) _)) fun b5 bu=>?_;obtain⟨K,ah⟩:=bu;have B:=B.trans ah (fun b A d=>d) (fun b A d=>by omega)
    try have N:=N.trans ah (fun b A d=>d) (fun b A d=>by omega)
    try have T:=T.trans ah (fun b A d=>d) (fun b A d=>by omega)
    have cH:=ah.size;refine o.nil (bT (b3 (G.region ?_)));refine o.v1 bD ?_;refine o.aa (o.nil ?_);refine aR.sub (aX (k+1,I.set (4*i+k) (UInt8.ofNat (jr ((run ei (m++iF m.length)).1.list.getD i 0) (24-8*k)).toNat)) _ ?_ ?_) ⟨rfl,rfl,(aF (by omega)),(aF (by omega)),rfl,(aF (by omega)),(aF (by omega)),trivial⟩
    ·exact⟨(by omega),by simp[an],G5 I _ (4*i+k) _ Q (by omega) (E_ _ i k (by omega) (by omega)),K,T⟩
    ·first|omega|(simp only;omega)|(simp;omega)
   ·
    obtain rfl:k=4:=by omega
    rw[show 4*i+4=4*(i+1)by omega]at Q;refine G.exit (b2 (a9 (aT ?_)));refine a4 (a3 (G.region ?_));refine o.v1 bD ?_;refine o.aa (o.nil ?_);refine aR.sub (bp (i+1,I) _ ?_ ?_) ⟨rfl,rfl,rfl,(aF (by omega)),trivial⟩
    ·exact⟨(by omega),an,Q,K,N⟩
    ·first|omega|(simp only;omega)|(simp;omega)
  ·
   obtain rfl:i=8:=by omega
   rw[List.take_of_length_le (by omega),List.take_of_length_le (by rw[xK];omega),show lk (run ei (m++iF m.length)).1.list=sumOf m from rfl]at Q;subst Q;refine G.exit (a2 (bq (bo ?_)));refine bm (G.L (fun b7=>?_));refine o.v1 (a_ K.O cj bd (rfl)) ?_;refine o.s1 (S.var C ((sumOf m).map hz) ((sumOf m).map hz) rfl rfl rfl rfl (by intro u hu;obtain⟨x,_,rfl⟩:=List.mem_map.1 hu;rfl) bd (rfl) (by simp[lv]) (by simp[dU,lv])) fun c3 aZ=>?_;obtain⟨C,bw⟩:=aZ;have B:=B.trans bw (fun b A d=>d) (fun b A d=>by omega);refine o.nil (b7 ?_);refine G.ret (ct .ret (.inr rfl) _ _ _ (kk rfl rfl C.O cj bd (by first|rfl|simp)) ?_);exact⟨rfl,B⟩
theorem E0(n:Nat):(0:UInt64)+UInt64.ofNat n=UInt64.ofNat n:=by simp
theorem Fp(L:Value)(l:List (aO×List UInt8))(w0:World)(J:Heap)
 (q:bM J hU 1 L l) (A:∀x∈l,bM J a6 1 x.1.v x.2) (Q:(cat l).length≤1099511627776):
 aG Tryz.prog w0 224 #[L] J (fun r B=>r= .agg ((sumOf (cat l)).map hz).toArray∧W (fun c=>False) J B):=by
 refine aG.enter (args:=[L]) Tryz.func224 rfl rfl rfl ?_;intro Y R;have q:=q.lt;have A:=fun x n=>(A x n).lt;have k:W (fun c=>False) J J:=W.refl _ _;refine G.L (fun N=>?_);refine o.aS (dk m0) ?_;rintro v2 B ⟨rfl,i,ad,ae,O⟩;have aa:B.size=J.size+1:=by rw[O];simp
 have q:=q.N ad;have A:=fun x n=>(A x n).up ad (fun b j d K=>K);have k:=k.trans ad (fun b j d=>d) (fun b j d=>d.elim);have af:=ad.size;have Z:=i.lt;have i:Var 26 B J.size ((List.replicate 32 (0:UInt8)).map hz):=i;refine o.nil (N (G.L (fun aw=>?_)));refine aV Bo (qN w0 _) ?_;rintro v4 T ⟨rfl,E,C,am⟩;have q:=q.N C;have A:=fun x n=>(A x n).up C (fun b j d K=>K);have k:=k.trans C (fun b j d=>d) (fun b j d=>d.elim);have i:=i.N C;have ag:=C.size;refine o.al ?_;refine aw (G.L (fun P=>?_));refine o.az 2 ?_;have ai:=E.lt;refine aV vg (rm B.size _ [] 0 l w0 _ E (q.imp (fun b _ h=>by omega)) (fun x n=>(A x n).imp (fun b _ h=>by omega))) ?_;rintro al U ⟨rfl,E,F⟩;rw[List.nil_append,E0]at E;have k:=k.trans F (fun b j d=>d) (fun b j d=>by omega);have i:=i.up F (by omega);have ah:=F.size;refine o.nil (P (G.L (fun ap=>?_)));refine o.aa ?_;refine aV Bp (Ft _ (cat l) w0 _ E Q) ?_;rintro v9 X ⟨rfl,H⟩;have k:=k.trans H (fun b j d=>d) (fun b j d=>d.elim);have i:=i.N H;have am:=H.size;refine o.s1 (S.var i ((sumOf (cat l)).map hz) ((sumOf (cat l)).map hz) rfl rfl rfl rfl (by intro u hu;obtain⟨x,_,rfl⟩:=List.mem_map.1 hu;rfl) bd (rfl) (by simp[lv]) (by simp[dU,lv])) fun ab M=>?_;obtain⟨i,ac⟩:=M;have k:=k.trans ac (fun b j d=>d) (fun b j d=>by omega);refine o.nil (ap ?_);refine G.ret (R .ret (.inr rfl) _ _ _ (kk rfl rfl i.O cj bd (by first|rfl|simp)) ?_);exact⟨rfl,k⟩
end pK

namespace iO
open E Go.RowKit dm n4 m7
abbrev Rec:=List UInt8
def gy:List UInt8:=[83,76,86,71,87,65,76,49]
def jG(n:Nat)(r:Rec):List UInt8:=(sumOf (dm.cd 8 (UInt64.ofNat n)++r)).take 8
def iU(n:Nat)(r:Rec):List UInt8:=jD r.length++(jG n r++r)
def kj(n:Nat)(r:Rec):List UInt8:=iU n r++[67]
def eV:Nat→List Rec→List UInt8
 |_,[]=>[]
 |n,r::l=>kj n r++eV (n+1) l
def cC(l:List Rec):List UInt8:=gy++eV 0 l
theorem vw(n:Nat)(r:Rec):(jG n r).length=8:=by unfold jG;rw[List.length_take,lv];rfl
theorem oY(n:Nat)(r:Rec):(iU n r).length=12+r.length:=by unfold iU;rw[List.length_append,List.length_append,vw,uI];omega
theorem th(n:Nat)(r:Rec):(kj n r).length=13+r.length:=by unfold kj;rw[List.length_append,oY];simp;omega
theorem oK:∀(a b:List Rec) (n:Nat),eV n (a++b)=eV n a++eV (n+a.length) b
 |[],b,n=>rfl
 |r::a,b,n=>by rw[List.cons_append,eV,oK a b (n+1),eV,List.append_assoc,List.length_cons,show n+1+a.length=n+(a.length+1)by omega]
theorem sb(l:List Rec)(r:Rec):cC (l++[r])=cC l++kj l.length r:=by unfold cC;rw[oK,List.append_assoc];simp[eV]
theorem vJ:∀(l:List Rec) (n:Nat),(eV n l).length=(l.map (fun r=>13+r.length)).sum
 |[],n=>rfl
 |r::l,n=>by rw[eV,List.length_append,vJ l,th];simp
theorem sa(l:List Rec):(cC l).length=8+(l.map (fun r=>13+r.length)).sum:=by unfold cC;rw[List.length_append,vJ];rfl
def e9(b:List UInt8):Nat:=k8 0 (b.take 4)
def eO(n:Nat)(b:List UInt8):Option Rec:=
 if b.length≤12∨1048576<e9 b∨b.length-12≤e9 b then none
 else if b.getD (12+e9 b) 0=67∧(b.drop 4).take 8=jG n ((b.drop 12).take (e9 b))then some ((b.drop 12).take (e9 b))else none
theorem pc{n:Nat}{b:List UInt8}{r:Rec}(h:eO n b=some r):r.length=e9 b∧13+r.length≤b.length∧r.length≤1048576:=by
 unfold eO at h;split at h
 ·cases h
 ·rename_i d
  split at h
  ·have e:=Option.some.inj h
   rw[←e,List.length_take,List.length_drop];omega
  ·cases h
def jV:Nat→Nat→List UInt8→List Rec
 |0,_,_=>[]
 |f+1,n,b=>match eO n b with
  |none=>[]
  |some r=>r::jV f (n+1) (b.drop (13+r.length))
theorem tb:∀(f g n:Nat) (b:List UInt8),b.length≤f→b.length≤g→jV f n b=jV g n b
 |0,0,_,_,_,_=>rfl
 |0,g+1,n,b,h,_=>by
  have:eO n b=none:=by unfold eO;rw[if_pos (.inl (by omega))]
  simp[jV,this]
 |f+1,0,n,b,_,h=>by
  have:eO n b=none:=by unfold eO;rw[if_pos (.inl (by omega))]
  simp[jV,this]
 |f+1,g+1,n,b,d,V=>by
  unfold jV
  cases h:eO n b with
  |none=>rfl
  |some r=>
   have:=pc h;simp only;rw[tb f g (n+1) _ (by rw[List.length_drop];omega) (by rw[List.length_drop];omega)]
def jW(n:Nat)(b:List UInt8):List Rec:=jV b.length n b
theorem td{n:Nat}{b:List UInt8}(h:eO n b=none):jW n b=[]:=by
 unfold jW
 cases aA:b.length with
 |zero=>rfl
 |succ f=>simp[jV,h]
theorem xP{n:Nat}{b:List UInt8}{r:Rec}(h:eO n b=some r):jW n b=r::jW (n+1) (b.drop (13+r.length)):=by
 have d:=pc h;unfold jW;rw[tb b.length (b.length+1) n b (Nat.le_refl _) (by omega),jV,h];show r::jV b.length (n+1) (b.drop (13+r.length))=_;rw[tb b.length _ (n+1) (b.drop (13+r.length)) (by rw[List.length_drop];omega) (Nat.le_refl _)]
theorem Af:∀(a b c d:UInt8),jD (k8 0 [a,b,c,d])=[a,b,c,d]:=fun a b c d=>by
 have i:=a.toNat_lt;have aA:=b.toNat_lt;have av:=c.toNat_lt;have ak:=d.toNat_lt;simp only[k8,List.foldl_cons,List.foldl_nil,jD,List.cons.injEq,and_true];refine⟨?_,?_,?_,?_⟩<;>(apply UInt8.toNat.inj;rw[UInt8.toNat_ofNat'];omega)
theorem xE{n:Nat}{b:List UInt8}{r:Rec}(h:eO n b=some r):b=kj n r++b.drop (13+r.length):=by
 have i:=pc h;unfold eO at h;split at h
 ·cases h
 ·rename_i k
  split at h
  ·rename_i V
   have e:=Option.some.inj h;rw[e,←i.1]at V
   have o:b.take 4=jD r.length:=by
    rw[i.1];unfold e9
    match b,k with
    |a::b::c::d::t,_=>exact(Af a b c d).symm
   have q:(b.drop 12).take r.length=r:=by rw[i.1];exact e
   have A:b.drop (12+r.length)=67::b.drop (13+r.length):=by
    have j:12+r.length<b.length:=by omega
    rw[List.drop_eq_getElem_cons j,show 12+r.length+1=13+r.length by omega];have:=V.1;rw[List.getD_eq_getElem?_getD,List.getElem?_eq_getElem j]at this;rw[show b[12+r.length]=67 from this]
   calc b=b.take 4++b.drop 4:=(List.take_append_drop 4 b).symm
    _=b.take 4++((b.drop 4).take 8++(b.drop 4).drop 8):=congrArg (fun x=>b.take 4++x) (List.take_append_drop 8 (b.drop 4)).symm
    _=jD r.length++(jG n r++b.drop 12):=by rw[o,V.2,List.drop_drop]
    _=jD r.length++(jG n r++(r++(b.drop 12).drop r.length)):=by
     rw[show(b.drop 12)=(b.drop 12).take r.length++(b.drop 12).drop r.length from(List.take_append_drop _ _).symm,q];rw[List.drop_left' rfl]
    _=kj n r++b.drop (13+r.length):=by rw[List.drop_drop,A];unfold kj iU;simp
  ·cases h
def gq(b:List UInt8):Nat:=if b.take 8=gy then 0 else 16
def dS(b:List UInt8):List Rec:=if b.take 8=gy then jW 0 (b.drop 8)else[]
def mP(b:List UInt8):Nat:=if b.take 8=gy then(cC (dS b)).length else 0
theorem xN:∀(f:Nat) (n:Nat) (b:List UInt8),∀r∈jV f n b,r.length≤1048576
 |0,_,_,r,h=>by cases h
 |f+1,n,b,r,h=>by
  unfold jV at h;split at h
  ·cases h
  ·rename_i x d
   rcases List.mem_cons.1 h with e|h
   ·rw[e];exact(pc d).2.2
   ·exact xN f _ _ r h
theorem xM(b:List UInt8):∀r∈dS b,r.length≤1048576:=fun r h=>by
 unfold dS at h;split at h
 ·exact xN _ _ _ r h
 ·cases h
theorem xO:∀(f n:Nat) (b:List UInt8),b.length≤f→∃t,b=eV n (jW n b)++t∧eO (n+(jW n b).length) t=none
 |0,n,b,h=>by
  have:eO n b=none:=by unfold eO;rw[if_pos (.inl (by omega))]
  rw[td this];exact⟨b,rfl,by simpa using this⟩
 |f+1,n,b,h=>by
  cases d:eO n b with
  |none=>rw[td d];exact⟨b,rfl,by simpa using d⟩
  |some r=>
   have i:=pc d;obtain⟨t,e,V⟩:=xO f (n+1) (b.drop (13+r.length)) (by rw[List.length_drop];omega);rw[xP d];refine⟨t,?_,by rw[List.length_cons,show n+((jW (n+1) (b.drop (13+r.length))).length+1)=n+1+(jW (n+1) (b.drop (13+r.length))).length by omega];exact V⟩;rw[eV,List.append_assoc,←e];exact xE d
theorem Fj{b:List UInt8}(h:gq b=0):∃t,b=cC (dS b)++t∧eO (dS b).length t=none:=by
 have i:b.take 8=gy:=by unfold gq at h;split at h;assumption;cases h
 obtain⟨t,e,V⟩:=xO _ 0 (b.drop 8) (Nat.le_refl _);have d:dS b=jW 0 (b.drop 8):=by unfold dS;rw[if_pos i]
 refine⟨t,?_,by rw[d];simpa using V⟩;rw[d];unfold cC;rw[List.append_assoc,←e,←i,List.take_append_drop]
end iO

namespace jg
open E Go.RowKit k2 lF m6 m7 pK n4 eM e7 iO
set_option maxRecDepth 100000 in
theorem de:c3 Tryz.prog 57 5 1 1:=⟨Tryz.underlying57,_,_,rfl,rfl,rfl,rfl,rfl⟩
set_option maxRecDepth 100000 in
theorem lf:c3 Tryz.prog 104 57 1 24:=⟨Tryz.underlying104,_,_,rfl,rfl,rfl,rfl,rfl⟩
abbrev cz(l:List (aO×Rec)):List Rec:=l.map (·.2)
theorem vK{l:List (aO×Rec)}{i:Nat}(h:i<l.length):eV 0 (cz (l.take (i+1)))=eV 0 (cz (l.take i))++kj i l[i].2:=by
 have e:(cz (l.take i)).length=i:=by simp;omega
 rw[List.take_succ_eq_append_getElem h];unfold cz;rw[List.map_append,oK];unfold cz at e;rw[e];simp[eV]
theorem CF(l:List (aO×Rec))(i:Nat):(eV 0 (cz (l.take i))).length≤(eV 0 (cz l)).length:=by
 have h:l=l.take i++l.drop i:=(List.take_append_drop i l).symm;have V:cz l=cz (l.take i)++cz (l.drop i):=by unfold cz;rw[←List.map_append,←h]
 rw[V,oK,List.length_append];omega
theorem CG{l:List (aO×Rec)}{i:Nat}(h:i<l.length):(eV 0 (cz (l.take i))).length+(13+l[i].2.length)≤(eV 0 (cz l)).length:=by
 have:=CF l (i+1);rw[vK h,List.length_append,th]at this;exact this
theorem xw(k:Nat)(v:Value)(xs:List UInt8)(n:Nat)(x:UInt64)(w0:World)(J:Heap)
 (i:aU k 5 J a6 1 v xs) (aC:n≤8) (a1:xs.length≤1099511627776):
 aG Tryz.prog w0 187 #[v,.int .i64 n,.int .u64 x.toNat] J (fun r M=>∃v2:Value,∃a7:Nat,r=v2∧(aU a7 5 M a6 1 v2 (xs++dm.cd n x))∧(U k J.size a7)∧W (aB [k]) J M):=by
 refine aG.aN [v,.int .i64 n,.int .u64 x.toNat] Tryz.func187 ?_;intro aM aJ;have E:W (aB [k]) J J:=W.refl _ _;have N:=U.refl k J.size;have ad:=i.le;refine G.L (fun ar=>?_);refine o.al ?_;refine ar (G.t1 (fun au=>G.L (fun ay=>?_)));refine o.aa ?_;refine o.v1 fG ?_;refine o.al ?_;refine ay (G.aD (fun _ az _=>?_))
 refine G.bc (fun(aK:(Nat)×(Value)×(Nat)×(List UInt8))=>match aK with|(j,B,A,ys)=>[(0,B),(2,.int .u64 x.toNat),(7,.int .i64 ((j:Int)-1))])
  (fun(j,B,A,ys) (H:Heap)=>(j≤n)∧(aU A 5 H a6 1 B ys)∧(ys++dm.cd j x=xs++dm.cd n x)∧(U k J.size (A))∧W (aB [k]) J H)
  (fun(j,B,A,ys)=>j) (n,v,k,xs) ⟨rfl,rfl,rfl,trivial⟩ ?_ ?_
 ·
  exact⟨(by omega),i,rfl,U.refl _ _,W.refl _ _⟩
 rintro⟨j,B,A,ys⟩ aD aH aL aI Q;obtain⟨aZ,i,F,ac,d⟩:=aH;have R:U k J.size (A):=U.L (N) ac E.size;have E:=E.aL d (ah.I (ao.r N));have aO:=d.size;have ad:=i.le;have P:=ac;have a8:ys.length+j=xs.length+n:=by have:=congrArg List.length F;simpa[dm.dI]using this
 refine G.t2 (fun S T=>G.L (fun X=>?_));refine o.aa ?_;refine o.v1 dq (o.nil (X ?_));refine aW (fun Z=>?_) (fun Z=>?_)
 ·
  obtain⟨j,rfl⟩:∃q,j=q+1:=⟨j-1,by omega⟩;refine G.skip (S (G.t1 (fun aa=>G.aD (fun ab _ _=>G.region ?_))));refine o.az 3 ?_;refine o.v1 (Y.jo rfl rfl rfl (by omega)) ?_;refine o.v1 (Y.pq (8*j) rfl rfl rfl (by first|rfl|omega) (by omega)) ?_;refine o.v1 (Y.oI rfl gV ju rfl) ?_;refine o.aS (cS _ ([UInt8.ofNat (iJ x (8*j)).toNat]) de et fB (rfl)) fun aP ap ae=>?_;obtain⟨al,K,aN,an⟩:=ae;have aX:ap.size=aD.size+1:=by rw[an];simp
  have i:=i.N K;have d:=d.a8 K;have aQ:=K.size;refine o.aS (eg i al.rd de (by first|omega|(simp;omega)) (by first|omega|(simp;omega))) fun af aS ag=>?_;obtain⟨aw,O,L,C⟩:=ag;have L:U (A) ap.size aw:=L;have C:=C.md;have ai:U k J.size aw:=U.L (P) L d.size;have d:=d.aL C (ah.I (ao.r P));have aT:=C.size;have aV:=O.le;refine o.al ?_;refine ab (aa (G.region ?_));refine o.aa ?_;refine o.v1 fG ?_;refine o.al ?_;refine aR.sub (aI (j,af,aw,ys++[UInt8.ofNat (iJ x (8*j)).toNat]) _ ?_ ?_) ⟨rfl,(aF (by omega)),(aF (by omega)),trivial⟩
  ·exact⟨(by omega),O,by rw[←F,List.append_assoc];rfl,ai,d⟩
  ·first|omega|(simp only;omega)|(simp;omega)
 ·
  obtain rfl:j=0:=by omega
  rw[dm.cd,List.append_nil]at F;subst F;refine G.exit (T (Q (az ?_)));refine au (G.L (fun am=>?_));refine o.aP 2 ?_;refine am ?_;refine G.ret (aJ ?_);exact⟨B,A,rfl,i,R,E⟩
theorem GC{d cs:List Value}(h:cs.length=d.length):dU cs 0 d=d:=by simp[dU,h]
theorem p5(n:Nat)(s:aO)(rc:List UInt8)(w0:World)(J:Heap)
 (j:bM J a6 1 s.v rc) (aP:rc.length≤1099511000000):
 aG Tryz.prog w0 180 #[.int .i64 (n:Int),s.v] J (fun r K=>∃t:aO,r=t.v∧(Rd (fun b=>J.size≤b) K a6 1 t.v (jG n rc))∧aq J K):=by
 refine aG.aN [.int .i64 (n:Int),s.v] Tryz.func180 ?_;intro al ai;have d:aq J J:=W.refl _ _;have j:=j.b2;refine G.L (fun Z=>?_);refine o.al ?_;refine Z (G.L (fun ap=>?_));refine o.aa ?_;refine o.v1 (Y.cast (v2:= .int .u64 (UInt64.ofNat n).toNat) (Y.hq rfl gk gV rfl) (rfl)) ?_;refine aV vb (xw 0 _ [] 8 (UInt64.ofNat (n)) w0 _ (aU.nil et fB) (by omega) (by simp)) ?_;rintro N O ⟨an,aQ,rfl,ac,ar,C⟩;have j:=j.ae C (ay.I ax.z);have d:=d.bx C (ah.cons ao.z ah.nil);have au:=C.size;have aJ:=ac.le;rw[List.nil_append]at ac;obtain⟨H,rfl⟩:∃s:aO,N=s.v:=⟨cm N,ac.bm.symm⟩;refine o.aa ?_;refine o.aS (cS _ ([(H,dm.cd 8 (UInt64.ofNat n)),(s,rc)]) lf nq nr (rfl)) fun az aa ab=>?_;obtain⟨R,A,aL,T⟩:=ab;have aK:aa.size=O.size+1:=by rw[T];simp
 have j:=j.N A;have ac:=ac.N A;have d:=d.L A;have aB:=A.size;refine aV Bi (Fp _ [(H,dm.cd 8 (UInt64.ofNat n)),(s,rc)] w0 _ R.rd.any (fun x M=>by simp only[List.mem_cons,List.not_mem_nil,or_false]at M;rcases M with rfl|rfl;exact ac.rd.any;exact j.any) (by simp[cat,dm.dI];omega)) (fun aC B ae=>?_);obtain⟨rfl,ad⟩:=ae;have d:=d.L ad;have aD:=ad.size;rw[show cat [(H,dm.cd 8 (UInt64.ofNat n)),(s,rc)]=(dm.cd 8 (UInt64.ofNat n)++rc)from by simp[cat]];refine o.aS (dk m0) ?_;rintro v5 L ⟨rfl,k,aw,aF,af⟩;have aM:L.size=B.size+1:=by rw[af];simp
 have ag:U 0 J.size (B.size+1):=U.new d.size;have d:=d.L aw;have aH:=aw.size;have k:Var 26 L B.size ((List.replicate 32 (0:UInt8)).map hz):=k;refine o.s1 (S.var k ((sumOf (dm.cd 8 (UInt64.ofNat n)++rc)).map hz) ((sumOf (dm.cd 8 (UInt64.ofNat n)++rc)).map hz) rfl rfl rfl rfl (by intro u hu;obtain⟨x,_,rfl⟩:=List.mem_map.1 hu;rfl) bd (by simp[lv]) (by simp[lv]) (GC (by simp[lv]))) fun aN X=>?_;obtain⟨k,q⟩:=X;have q:=q.bB;have d:=d.bx q (ah.I (ao.q ag));have aI:=q.size;refine o.nil (ap (G.L (fun P=>?_)));refine o.aN (g:=fun v=>v) (Y.ps (F:=fun c=>c=B.size) (f:=a6) (xs:=sumOf (dm.cd 8 (UInt64.ofNat n)++rc)) k.O rfl k.lt (lv _) (fun i x h=>⟨by simp[h],rfl⟩) (0) (8) rfl (fun w=> .inl (j2 w)) cK rfl (.inl ⟨rfl,rfl⟩) (.inr ⟨_,_,_,rfl,rfl,by first|rfl|omega⟩) (by omega) (by omega) (by decide)) fun am E=>?_;rw[List.drop_zero]at E;obtain⟨Q,rfl⟩:∃s:aO,am=s.v:=⟨cm am,E.bm.symm⟩;refine o.al ?_;refine P ?_;refine G.ret (ai ?_);exact⟨Q,rfl,(E.imp (fun b _ e=>by omega)),d⟩
theorem zg(n:Nat)(s:aO)(rc:List UInt8)(w0:World)(J:Heap)
 (d:bM J a6 1 s.v rc) (aH:rc.length≤4294967000):
 aG Tryz.prog w0 111 #[.int .i64 (n:Int),s.v] J (fun r E=>∃t:aO,∃k:Nat,r=t.v∧(aU k 5 E a6 1 t.v (iU n rc))∧(U 0 J.size k)∧aq J E):=by
 refine aG.aN [.int .i64 (n:Int),s.v] Tryz.func111 ?_;intro af ab;have i:aq J J:=W.refl _ _;have d:=d.b2;refine G.L (fun Q=>?_);refine o.al ?_;refine Q (G.L (fun R=>?_));refine o.aa ?_;refine o.v1 (bf d dj) ?_;refine o.v1 (Y.cast (v2:= .int .u64 (UInt64.ofNat rc.length).toNat) (Y.hq rfl gk gV rfl) (rfl)) ?_;refine aV vb (xw 0 _ [] 4 (UInt64.ofNat (rc.length)) w0 _ (aU.nil et fB) (by omega) (by simp)) ?_;rintro H ae ⟨ag,aI,rfl,ac,ai,A⟩;have d:=d.ae A (ay.I ax.z);have i:=i.bx A (ah.cons ao.z ah.nil);have al:=A.size;have aC:=ac.le;rw[List.nil_append]at ac;obtain⟨C,rfl⟩:∃s:aO,H=s.v:=⟨cm H,ac.bm.symm⟩;rw[EY _ (by omega)]at ac;refine o.az 2 ?_;refine aV u9 (p5 n s rc w0 _ d.any (by omega)) (fun an S T=>?_);obtain⟨B,rfl,j,ad⟩:=T;have d:=d.N ad;have ac:=ac.N ad;have i:=i.L ad;have ar:=ad.size;have j:=j.b2;refine o.aa ?_;refine o.aS (cS _ ([(C,jD rc.length),(B,jG n rc),(s,rc)]) lf nq nr (rfl)) fun X Z aa=>?_;obtain⟨M,q,aF,N⟩:=aa;have aD:Z.size=S.size+1:=by rw[N];simp
 have d:=d.N q;have ac:=ac.N q;have j:=j.N q;have i:=i.L q;have au:=q.size;refine aV va (vy X [(C,jD rc.length),(B,jG n rc),(s,rc)] w0 _ M.rd.any (fun x F=>by simp only[List.mem_cons,List.not_mem_nil,or_false]at F;rcases F with rfl|rfl|rfl;exact ac.rd.any;exact j.any;exact d.any) (by simp[gn,uI,vw];omega)) (fun az aB K=>?_);obtain⟨L,ap,rfl,O,P,aw⟩:=K;have am:U 0 J.size ap:=U.L (U.refl 0 _) P i.size;have i:=i.L aw;refine o.al ?_;refine R ?_;refine G.ret (ab ?_);exact⟨L,ap,rfl,by have e:gn [(C,jD rc.length),(B,jG n rc),(s,rc)]=iU n rc:=(by simp[gn,iU]);rw[←e];exact O,am,i⟩
theorem CH(s:aO)(l:List (aO×Rec))(w0:World)(J:Heap)
 (n:bM J hU 1 s.v l) (A:∀x∈l,bM J a6 1 x.1.v x.2) (bn:∀x∈l,x.2.length≤1048576) (bU:(eV 0 (cz l)).length≤1099510000000):
 aG Tryz.prog w0 171 #[s.v] J (fun r aa=>∃t:aO,∃k:Nat,r=t.v∧(aU k 5 aa a6 1 t.v (cC (cz l)))∧(U 0 J.size k)∧aq J aa):=by
 refine aG.aN [s.v] Tryz.func171 ?_;intro bt bm;have q:aq J J:=W.refl _ _;have n:=n.b2;have am:=n.b5;have A:=fun x C=>(A x C).b2;have bc:bk (fun b=>True∧b<J.size) J.size:=fun b h=>h.2;have bX:=n.len;refine G.L (fun aK=>?_);refine o.al ?_;refine aK (G.L (fun aL=>?_));refine o.aS (cS _ (gy) de et fB (rfl)) ?_;rintro v6 an ⟨d,N,bA,aM⟩;have bx:an.size=J.size+1:=by rw[aM];simp
 have ab:=(ax.new (am.mono q.size):ax _ (J.size+1));have ae:=(ax.new (bc.mono q.size):ax _ (J.size+1));have T:U 0 J.size (J.size+1):=U.new q.size;have n:=n.N N;have A:=fun x C=>(A x C).N N;have q:=q.L N;have bB:=N.size;refine o.aS (Z.uH d (by decide) rfl Tryz.underlying57 Tryz.underlying5 rfl) ?_;rintro bq K ⟨rfl,d,aw⟩;have aw:=aw.md;have n:=n.ae aw (ay.I ab);have A:=fun x C=>(A x C).ae aw (ay.I ae);have q:=q.bx aw (ah.I (ao.q T));have bE:=aw.size;refine o.al ?_;refine aL (G.t1 (fun aN=>G.L (fun aP=>?_)));refine o.aa ?_;refine o.v1 (bf n hR) ?_;refine o.aa (o.nil (aP ?_));refine G.aD (fun _ aQ _=>?_)
 refine G.bc (fun(bp:(Nat)×(Value)×(Nat))=>match bp with|(i,E,B)=>[(3,E),(8,s.v),(9,.int .i64 (l.length:Int)),(10,.int .i64 (i:Int))])
  (fun(i,E,B) (H:Heap)=>(i≤l.length)∧(aU B 5 H a6 1 E (gy++eV 0 (cz (l.take i))))∧(U (J.size+1) K.size B)∧W (aB [(J.size+1)]) K H)
  (fun(i,E,B)=>l.length-i) (0,bq,(J.size+1)) ⟨rfl,rfl,rfl,rfl,trivial⟩ ?_ ?_
 ·
  exact⟨(by omega),by simpa only[List.take_zero,cz,List.map_nil,eV,List.append_nil]using d,U.refl _ _,W.refl _ _⟩
 rintro⟨i,E,B⟩ bT aS bs aT aX;obtain⟨bW,d,ai,j⟩:=aS;have aZ:U 0 J.size B:=U.L (T) ai q.size;have n:=n.ae j (ay.I ab);have A:=fun x C=>(A x C).ae j (ay.I ae);have q:=q.bx j (ah.I (ao.q T));have be:=j.size;have ac:=d.le;have af:=ai;refine G.L (fun a1=>?_);refine o.v1 bH (o.nil (a1 ?_));refine G.t2 (fun a7 a8=>?_);refine aW (fun a_=>?_) (fun a_=>?_)
 ·
  refine G.skip (a7 (G.t1 (fun ba=>G.aD (fun bd _ _=>G.L (fun bg=>?_)))));refine o.aa ?_;have F:i<l.length:=by omega
  have bV:=CG F;have bo:=A l[i] (List.getElem_mem F);have bY:=bn l[i] (List.getElem_mem F);have bR:gy.length=8:=rfl;have bZ:=oY i l[i].2;refine o.b1 (Y.bU n (i) rfl hR c8 rfl rfl) fun a0 bl=>?_;refine o.v1 (au bl.O eI) ?_;refine o.aP 2 ?_;refine bg (G.region ?_);refine o.az 3 ?_;refine aV uZ (zg i l[i].1 l[i].2 w0 _ bo.any (by omega)) (fun bF a2 a3=>?_);obtain⟨bJ,bi,rfl,ap,a4,P⟩:=a3;have d:=d.N P;have j:=j.a8 P;have bK:=P.size;have bz:=ap.le;refine o.aS (eg d ap.rd de (by simp only[List.length_append];omega) (by simp only[List.length_append];omega)) fun aD a5 ar=>?_;obtain⟨X,d,Q,L⟩:=ar;have Q:U B a2.size X:=Q;have L:=L.md;have al:U (J.size+1) K.size X:=U.L (af) Q j.size;have j:=j.aL L (ah.I (ao.r af));have bL:=L.size;have ac:=d.le;refine o.aS (cS _ ([(67:UInt8)]) de et fB (rfl)) fun bN ag az=>?_;obtain⟨aC,R,bu,aH⟩:=az;have bw:ag.size=a5.size+1:=by rw[aH];simp
  have d:=d.N R;have j:=j.a8 R;have bO:=R.size;refine o.aS (eg d aC.rd de (by simp only[List.length_append,List.length_singleton];omega) (by simp only[List.length_append,List.length_singleton];omega)) fun a9 bP bb=>?_;obtain⟨O,d,S,M⟩:=bb;have S:U X ag.size O:=S;have M:=M.md;have aI:U (J.size+1) K.size O:=U.L (al) S j.size;have j:=j.aL M (ah.I (ao.r al));have bQ:=M.size;have ac:=d.le;refine o.al ?_;refine bd (ba (G.region ?_));refine o.v1 bD ?_;refine o.aa (o.nil ?_);refine aR.sub (aT (i+1,a9,O) _ ?_ ?_) ⟨rfl,rfl,(aF (by omega)),(aF (by omega)),trivial⟩
  ·exact⟨(by omega),by rw[vK F,←List.append_assoc];unfold kj;rw[←List.append_assoc];exact d,aI,j⟩
  ·first|omega|(simp only;omega)|(simp;omega)
 ·
  refine G.exit (a8 (aX (aQ ?_)));refine aN (G.L (fun aJ=>?_));refine o.aP 2 ?_;refine aJ ?_;refine G.ret (bm ?_);have F:i=l.length:=by omega
  rw[F,List.take_length]at d;obtain⟨so,rfl⟩:∃s:aO,E=s.v:=⟨cm E,d.bm.symm⟩;exact⟨so,B,rfl,d,aZ,q⟩
theorem vR(s t:aO)(a b:List UInt8)(w0:World)(J:Heap)
 (d:bM J a6 1 s.v a) (aA:bM J a6 1 t.v b):
 aG Tryz.prog w0 179 #[s.v,t.v] J (fun r i=>r= .bool (decide (a=b))∧aq J i):=by
 refine aG.aN [s.v,t.v] Tryz.func179 ?_;intro x q;have n:aq J J:=W.refl _ _;have d:=d.b2;have aA:=aA.b2;refine G.L (fun j=>?_);refine o.al ?_;refine j (G.L (fun k=>?_));refine o.aa ?_;refine o.v1 (Y.nd d rfl Tryz.underlying57 Tryz.underlying9 Tryz.underlying5 rfl) ?_;refine o.aa ?_;refine o.v1 (Y.nd aA rfl Tryz.underlying57 Tryz.underlying9 Tryz.underlying5 rfl) ?_;refine o.v1 (Y.lr rfl rfl rfl) ?_;refine o.al ?_;refine k ?_;refine G.ret (q ?_);exact⟨rfl,n⟩
end jg

namespace j7
open E Go.RowKit k2 lF m6 m7 pK n4 eM e7 iO jg
set_option maxRecDepth 100000 in
theorem de:c3 Tryz.prog 57 5 1 1:=⟨Tryz.underlying57,_,_,rfl,rfl,rfl,rfl,rfl⟩
set_option maxRecDepth 100000 in
theorem lf:c3 Tryz.prog 104 57 1 24:=⟨Tryz.underlying104,_,_,rfl,rfl,rfl,rfl,rfl⟩
theorem Aj{b:List UInt8}(h:4≤b.length):((b[0].toNat*2^24|||b[1].toNat*2^16)|||b[2].toNat*2^8)|||b[3].toNat=e9 b:=by
 match b,h with
 |a::b::c::d::t,_=>
  have j:=a.toNat_lt;have V:=b.toNat_lt;have k:=c.toNat_lt;have n:=d.toNat_lt
  have aN:a.toNat*2^24|||b.toNat*2^16=(a.toNat*256+b.toNat)*2^16:=by
   rw[show a.toNat*2^24=(a.toNat*2^8)*2^16 by omega,←Nat.shiftLeft_eq _ 16,←Nat.shiftLeft_eq b.toNat 16,←Nat.shiftLeft_or_distrib,s8,Nat.shiftLeft_eq]
  have i:(a.toNat*256+b.toNat)*2^16|||c.toNat*2^8=((a.toNat*256+b.toNat)*256+c.toNat)*2^8:=by
   rw[show(a.toNat*256+b.toNat)*2^16=((a.toNat*256+b.toNat)*2^8)*2^8 by omega,←Nat.shiftLeft_eq _ 8,←Nat.shiftLeft_eq c.toNat 8,←Nat.shiftLeft_or_distrib,s8,Nat.shiftLeft_eq]
  simp only[List.getElem_cons_zero,List.getElem_cons_succ];rw[aN,i,s8];simp[e9,k8]
structure j5 (b:List UInt8) (l:List Rec) (at_:Nat):Prop where
 lT:at_=(cC l).length
 eq:b=cC l++b.drop at_
 pp:dS b=l++jW l.length (b.drop at_)
 e:gq b=0
theorem j5.le{b:List UInt8}{l:List Rec}{a:Nat}(h:j5 b l a):a≤b.length:=by
 have d:=congrArg List.length h.eq;rw[List.length_append,←h.lT]at d;omega
theorem j5.start{b:List UInt8}(h:b.take 8=gy):j5 b [] 8:=
 ⟨rfl,by show b=(gy++[])++b.drop 8;rw[List.append_nil,←h,List.take_append_drop],by unfold dS;rw[if_pos h];rfl,by unfold gq;rw[if_pos h]⟩
theorem j5.step{b:List UInt8}{l:List Rec}{a:Nat}{r:Rec}(h:j5 b l a)(d:eO l.length (b.drop a)=some r):j5 b (l++[r]) (a+(13+r.length)):=by
 have V:=xE d;refine⟨by rw[sb,List.length_append,th,←h.lT],?_,?_,h.e⟩
 ·rw[sb,List.append_assoc,←List.drop_drop,←V];exact h.eq
 ·rw[h.pp,xP d,List.drop_drop,List.append_assoc];simp
theorem j5.stop{b:List UInt8}{l:List Rec}{a:Nat}(h:j5 b l a)(d:eO l.length (b.drop a)=none):l=dS b∧a=mP b:=by
 have V:l=dS b:=by rw[h.pp,td d,List.append_nil]
 refine⟨V,?_⟩;have i:b.take 8=gy:=by have:=h.e;unfold gq at this;split at this;assumption;cases this
 unfold mP;rw[if_pos i,←V];exact h.lT
theorem E6{n:Nat}{b:List UInt8}(h:b.length≤12):eO n b=none:=by unfold eO;rw[if_pos (.inl h)]
theorem xD{n:Nat}{b:List UInt8}(h:1048576<e9 b∨b.length≤12+e9 b):eO n b=none:=by unfold eO;rw[if_pos (by omega)]
theorem E5{n:Nat}{b:List UInt8}(h:b.getD (12+e9 b) 0≠67):eO n b=none:=by
 unfold eO;split
 ·rfl
 ·rw[if_neg (fun V=>h V.1)]
theorem E4{n:Nat}{b:List UInt8}(h:(b.drop 4).take 8≠jG n ((b.drop 12).take (e9 b))):eO n b=none:=by
 unfold eO;split
 ·rfl
 ·rw[if_neg (fun V=>h V.2)]
theorem E7{n:Nat}{b:List UInt8}(j:¬b.length≤12)(k:¬1048576<e9 b)(V:¬b.length≤12+e9 b)(d:b.getD (12+e9 b) 0=67)(i:(b.drop 4).take 8=jG n ((b.drop 12).take (e9 b))):eO n b=some ((b.drop 12).take (e9 b)):=by
 unfold eO;rw[if_neg (by omega),if_pos ⟨d,i⟩]
theorem yT(b:List UInt8)(i n:Nat):(b.take (i+n)).drop i=(b.drop i).take n:=by rw[List.drop_take];congr 1;omega
theorem tV{x:UInt8}{n:Nat}(h:(x.toNat:Int)≠(n:Int))(aC:n<256):x≠UInt8.ofNat n:=fun e=>h (by rw[e,UInt8.toNat_ofNat'];omega)
theorem Hm{x:UInt8}{n:Nat}(h:(x.toNat:Int)=(n:Int))(aC:n<256):x=UInt8.ofNat n:=UInt8.toNat.inj (by rw[UInt8.toNat_ofNat'];omega)
theorem ic{b:List UInt8}{i:Nat}(h:i<b.length):b.getD i 0=b[i]:=by rw[List.getD_eq_getElem?_getD,List.getElem?_eq_getElem h];rfl
theorem ax.dx{aQ:Nat→Prop}{d k:Nat}(h:ax aQ k)(i:af k d):ax (fun b=>aQ b∨b+1=d) k:=by
 rintro b (e|e) V
 ·exact h b e V
 ·exact i b V e
theorem bk.dx{aQ:Nat→Prop}{n d:Nat}(h:bk aQ n)(i:d≤n):bk (fun b=>aQ b∨b+1=d) n:=by
 rintro b (e|e)
 ·exact h b e
 ·omega
theorem s9{a b:Nat}(d:a<2^62)(V:b<2^62):a|||b<2^62:=Nat.or_lt_two_pow d V
theorem vM(l:List Rec):l.length≤(cC l).length:=by
 rw[sa]
 have:∀l:List Rec,l.length≤(l.map (fun r=>13+r.length)).sum:=fun l=>by
  induction l with
  |nil=>simp
  |cons r l ih=>simp only[List.length_cons,List.map_cons,List.sum_cons];omega
 have:=this l;omega
theorem Gy{α:Type}{F aQ:Nat→Prop}{H:Heap}{fb:α→aO×Rec}{l:List (aO×Rec)}{x:aO×Rec}(h:∀y∈l,Rd F H a6 1 y.1.v y.2)(d:∀b,F b→aQ b)(i:Rd aQ H a6 1 x.1.v x.2):∀y∈l++[x],Rd aQ H a6 1 y.1.v y.2:=fun y hy=>by
 rcases List.mem_append.1 hy with hy|hy
 ·exact(h y hy).imp (fun b _ e=>d b e)
 ·rw[List.mem_singleton.1 hy];exact i
theorem C9(s t:aO)(a p:List UInt8)(w0:World)(J:Heap)
 (i:bM J a6 1 s.v a) (aA:bM J a6 1 t.v p):
 aG Tryz.prog w0 178 #[s.v,t.v] J (fun r x=>r= .bool (decide (a.take p.length=p))∧aq J x):=by
 refine aG.aN [s.v,t.v] Tryz.func178 ?_;intro F q;have j:aq J J:=W.refl _ _;have i:=i.b2;have aA:=aA.b2;refine G.L (fun ad=>?_);refine o.al ?_;refine ad (G.L (fun n=>?_));refine o.aa ?_;refine o.v1 (bf i dj) ?_;refine o.aa ?_;refine o.v1 (bf aA dj) ?_;refine o.v1 dq ?_;refine o.aa ?_;refine o.bp (d:=10) rfl (fun B=>?_) (fun B=>?_)
 ·
  refine o.az 2 ?_;refine o.ar (bf aA dj) ?_;refine o.e (g:=fun v=>v) (Y.slice i (0) (p.length) rfl dj cK rfl (.inl ⟨rfl,rfl⟩) (.inr ⟨_,_,_,rfl,rfl,by first|rfl|omega⟩) (by omega) (by omega)) bo rfl rfl (fun ac k=>?_);rw[List.drop_zero]at k;obtain⟨C,rfl⟩:∃s:aO,ac=s.v:=⟨cm ac,k.bm.symm⟩;refine o.bJ ?_;refine o.call rfl u7 rfl bo rfl rfl (vR C t (a.take p.length) p w0 _ k.any aA.any) (fun H K E=>?_);obtain⟨rfl,A⟩:=E;have j:=j.L A;refine o.aP 2 ?_;refine n ?_;refine G.ret (q ?_);exact⟨rfl,j⟩
 ·
  refine o.aP 8 ?_;refine n ?_;refine G.ret (q ?_);exact⟨by rw[decide_eq_false (fun h=>by have V:=congrArg List.length h;rw[List.length_take]at V;omega)],j⟩
set_option maxHeartbeats 2000000 in
theorem xQ(s:aO)(b:List UInt8)(w0:World)(J:Heap)
 (aA:bM J a6 1 s.v b) (dx:b.length≤1000000000):
 aG Tryz.prog w0 91 #[s.v] J (fun r aN=>∃t:aO,∃l:List (aO×Rec),r= .tuple #[t.v,.int .i64 (mP b:Int),.int .i64 (gq b:Int)]∧(cz l=dS b)∧(Rd (fun b=>J.size≤b) aN hU 1 t.v l)∧(∀x∈l,Rd (fun b=>J.size≤b) aN a6 1 x.1.v x.2)∧aq J aN):=by
 refine aG.aN [s.v] Tryz.func91 ?_;intro cR ae;have k:aq J J:=W.refl _ _;have aA:=aA.b2;have bW:=aA.b5;refine G.L (fun cA=>?_);refine o.aP 3 ?_;refine cA (G.Gm (fun _ aa=>G.t2 (fun bv cB=>G.L (fun cD=>?_))));refine o.aa ?_;refine o.aS (cS _ (gy) de et fB (rfl)) fun cW cE b1=>?_;obtain⟨ap,aX,c1,bA⟩:=b1;have c9:cE.size=J.size+1:=by rw[bA];simp
 have b2:=(ax.new (bW.mono k.size):ax _ (J.size+1));have b3:U 0 J.size (J.size+1):=U.new k.size;have aA:=aA.N aX;have k:=k.L aX;have cX:=aX.size;refine o.aS (Z.uH ap (by decide) rfl Tryz.underlying57 Tryz.underlying5 rfl) fun aD cY b5=>?_;obtain⟨rfl,ap,al⟩:=b5;have al:=al.md;have aA:=aA.ae al (ay.I b2);have k:=k.bx al (ah.I (ao.q b3));have cZ:=al.size;obtain⟨b6,rfl⟩:∃s:aO,aD=s.v:=⟨cm aD,ap.bm.symm⟩;refine aV A9 (C9 s b6 b gy w0 _ aA.any ap.rd.any) (fun c0 aS b7=>?_);obtain⟨rfl,aZ⟩:=b7;have aA:=aA.N aZ;have k:=k.L aZ;have c8:=aZ.size;refine o.v1 (Y.iE rfl rfl) (o.nil (cD ?_));refine aW (fun aT=>?_) (fun aT=>?_)
 ·
  refine G.L (fun b8=>?_);refine o.aP 3 ?_;refine b8 ?_;refine G.ret (cB (aa (ae ?_)));have aI:¬b.take 8=gy:=aT;exact⟨⟨none,0,0⟩,[],by unfold mP gq;rw[if_neg aI,if_neg aI];rfl,by unfold dS;rw[if_neg aI];rfl,Rd.nil _ _ _ _,(fun x h=>by cases h),k⟩
 ·
  have aI:b.take 8=gy:=Decidable.byContradiction (fun h=>aT h);refine G.skip (bv (G.L (fun b9=>?_)));refine o.al ?_;refine b9 (G.L (fun ca=>?_));refine o.al ?_;refine ca (G.t1 (fun cb=>?_));refine G.label ?_;refine cb (G.t1 (fun aC=>G.aD (fun _ an _=>?_)))
  refine G.bc (fun(cQ:(Nat)×(Value)×(Nat)×(List (aO×Rec))×(Nat→Prop))=>match cQ with|(a,A,N,l,aQ)=>[(0,s.v),(5,A),(6,.int .i64 (a:Int))])
   (fun(a,A,N,l,aQ) (H:Heap)=>(j5 b (cz l) a)∧(aU N 57 H hU 1 A l)∧(∀x∈l,Rd aQ H a6 1 x.1.v x.2)∧(bk aQ H.size)∧(ax aQ N)∧(∀c,aQ c→J.size≤c)∧(U 0 aS.size N)∧aq aS H)
   (fun(a,A,N,l,aQ)=>b.length-a) (8,.slice none 0 0,0,[],fun _=>False) ⟨rfl,rfl,rfl,trivial⟩ ?_ ?_
  ·
   exact⟨j5.start aI,aU.nil nq nr,(fun x h=>by cases h),(fun b e=>e.elim),(fun b e=>e.elim),(fun c e=>e.elim),U.refl _ _,W.refl _ _⟩
  rintro⟨a,A,N,l,aQ⟩ bm cc db bB ar;obtain⟨B,i,n,bg,f1,ab,bl,q⟩:=cc;have ai:U 0 J.size N:=U.L (U.refl 0 _) bl k.size;have aA:=aA.N q;have k:=k.L q;have dc:=q.size;have bV:=i.le;have bn:=bl;have du:=B.le;have dB:(b.drop a).length=b.length-a:=List.length_drop;have a8:(cz l).length=l.length:=by simp[cz]
  have dz:=B.lT;have dy:l.length≤(cC (cz l)).length:=by rw[←a8];exact vM _
  refine G.aD (fun bE _ az=>G.L (fun bF=>?_));refine o.az 2 ?_;refine o.aN (g:=fun v=>v) (Y.slice aA (a) (_) rfl dj cK rfl (.inr ⟨_,_,_,rfl,rfl,by first|rfl|omega⟩) (.inl ⟨rfl,rfl⟩) (by omega) (by omega)) fun df K=>?_;rw[List.take_length]at K;refine o.al ?_;refine bF (G.t2 (fun bH bJ=>G.L (fun bK=>?_)));refine o.aa ?_;refine o.v1 (bf K dj) ?_;refine o.v1 eF (o.nil (bK ?_));refine aW (fun cd=>?_) (fun cd=>?_)
  ·
   have L:eO (cz l).length (b.drop a)=none:=E6 (by omega);refine G.exit (bJ (az (ar (an ?_))));refine aC (G.L (fun bL=>?_));refine o.aP 5 ?_;refine bL ?_;refine G.ret (aa (ae ?_));obtain⟨O,P⟩:=B.stop L;obtain⟨so,rfl⟩:∃s:aO,A=s.v:=⟨cm A,i.bm.symm⟩;exact⟨so,l,by rw[B.e,←P];rfl,O,(i.rd.imp (fun c _ e=>by have E:=(ai);unfold U at E;omega)),(fun x h=>(n x h).imp (fun c _ e=>ab c e)),k⟩
  ·
   have dt:12<(b.drop a).length:=by omega
   have cH:=Aj (b:=b.drop a) (by omega);have dw:e9 (b.drop a)<4294967296:=Ai _ (by rw[List.length_take];omega);refine G.skip (bH (G.t1 (fun bN=>?_)));refine ik ?_;refine o.aa ?_;refine o.b1 (Y.bU K (0) rfl dj cK rfl rfl) fun c2 bO=>?_;refine o.v1 (au bO.O ed) ?_;refine o.v1 (Y.p9 rfl ju gk rfl) ?_;refine o.v1 (Y.kP (24) rfl rfl rfl (by first|rfl|omega) (by omega) (by have:=((b.drop a)[0]).toNat_lt;omega)) ?_;refine o.aa ?_;refine o.b1 (Y.bU K (1) rfl dj cK rfl rfl) fun c3 bP=>?_;refine o.v1 (au bP.O ed) ?_;refine o.v1 (Y.p9 rfl ju gk rfl) ?_;refine o.v1 (Y.kP (16) rfl rfl rfl (by first|rfl|omega) (by omega) (by have:=((b.drop a)[1]).toNat_lt;omega)) ?_;refine o.v1 (Y.s_ rfl rfl rfl (by have aH:=(b.drop a)[0].toNat_lt;omega) (by have aH:=(b.drop a)[1].toNat_lt;omega)) ?_;refine o.aa ?_;refine o.b1 (Y.bU K (2) rfl dj cK rfl rfl) fun c5 bQ=>?_;refine o.v1 (au bQ.O ed) ?_;refine o.v1 (Y.p9 rfl ju gk rfl) ?_;refine o.v1 (Y.kP (8) rfl rfl rfl (by first|rfl|omega) (by omega) (by have:=((b.drop a)[2]).toNat_lt;omega)) ?_;refine o.v1 (Y.s_ rfl rfl rfl (by have aH:=(b.drop a)[0].toNat_lt;have cG:=(b.drop a)[1].toNat_lt;exact Nat.le_trans (Nat.le_of_lt (s9 (by omega) (by omega))) (by decide)) (by have aH:=(b.drop a)[2].toNat_lt;omega)) ?_;refine o.aa ?_;refine o.b1 (Y.bU K (3) rfl dj cK rfl rfl) fun c6 bR=>?_;refine o.v1 (au bR.O ed) ?_;refine o.v1 (Y.p9 rfl ju gk rfl) ?_;refine o.v1 (Y.cast (v2:= .int .i64 (e9 (b.drop a):Int)) (Y.s_ rfl rfl rfl (by have aH:=(b.drop a)[0].toNat_lt;have cG:=(b.drop a)[1].toNat_lt;have V:=(b.drop a)[2].toNat_lt;exact Nat.le_trans (Nat.le_of_lt (s9 (s9 (by omega) (by omega)) (by omega))) (by decide)) (by have aH:=(b.drop a)[3].toNat_lt;omega)) (by rw[cH])) ?_;refine o.al ?_;refine bN (G.t2 (fun a0 a_=>G.L (fun ba=>?_)));refine o.aa ?_;refine o.v1 eX ?_;refine o.aa ?_;refine o.bp (d:=45) rfl (fun cf=>?_) (fun cf=>?_)
   ·
    have L:eO (cz l).length (b.drop a)=none:=xD (.inl (by omega));refine o.az 6 ?_;refine o.nil (ba ?_);refine G.h9 rfl ?_;refine G.exit (a_ (az (ar (an ?_))));refine aC (G.L (fun a2=>?_));refine o.aP 5 ?_;refine a2 ?_;refine G.ret (aa (ae ?_));obtain⟨O,P⟩:=B.stop L;obtain⟨so,rfl⟩:∃s:aO,A=s.v:=⟨cm A,i.bm.symm⟩;exact⟨so,l,by rw[B.e,←P];rfl,O,(i.rd.imp (fun c _ e=>by have E:=(ai);unfold U at E;omega)),(fun x h=>(n x h).imp (fun c _ e=>ab c e)),k⟩
   ·
    refine o.bJ ?_;refine o.ar (bf K dj) ?_;refine o.ar fG ?_;refine o.bJ ?_;refine o.ar eF ?_;refine o.dy ?_;refine o.nil (ba ?_);refine aW (fun cg=>?_) (fun cg=>?_)
    ·
     have L:eO (cz l).length (b.drop a)=none:=xD (.inr (by omega));refine G.exit (a_ (az (ar (an ?_))));refine aC (G.L (fun a3=>?_));refine o.aP 5 ?_;refine a3 ?_;refine G.ret (aa (ae ?_));obtain⟨O,P⟩:=B.stop L;obtain⟨so,rfl⟩:∃s:aO,A=s.v:=⟨cm A,i.bm.symm⟩;exact⟨so,l,by rw[B.e,←P];rfl,O,(i.rd.imp (fun c _ e=>by have E:=(ai);unfold U at E;omega)),(fun x h=>(n x h).imp (fun c _ e=>ab c e)),k⟩
    ·
     have dA:(((b.drop a).drop 12).take (e9 (b.drop a))).length=e9 (b.drop a):=by rw[List.length_take,List.length_drop];omega
     refine G.skip (a0 (G.L (fun a4=>?_)));refine o.az 2 ?_;refine o.v1 bD ?_;refine o.aN (g:=fun v=>v) (Y.slice K (12) (12+e9 (b.drop a)) rfl dj cK rfl (.inr ⟨_,_,_,rfl,rfl,by first|rfl|omega⟩) (.inr ⟨_,_,_,rfl,rfl,by first|rfl|omega⟩) (by omega) (by omega)) fun bp S=>?_;rw[yT]at S;obtain⟨cj,rfl⟩:∃s:aO,bp=s.v:=⟨cm bp,S.bm.symm⟩;refine o.al ?_;refine a4 (G.t2 (fun a5 bb=>G.t1 (fun bc=>?_)));refine dg (fun C=>aq bm C) [] ?_;have j:=aq.refl bm;refine T.aa 0 rfl j ?_;refine T.aa 1 rfl j ?_;refine T.t1 2 rfl (fun C F=>bD) j ?_;refine T.e (g:=fun ad=> .pointer (some ad)) 3 (by kernel_rfl) rfl (by kernel_rfl) (by kernel_rfl) (by kernel_rfl) (Y.bU K (12+e9 (b.drop a)) rfl dj cK rfl rfl) cM rfl rfl j (fun c7 bt=>?_);refine T.t1 4 rfl (fun C F=>au (bt.O.N F) ed) j ?_;refine T.t1 5 rfl (fun C F=>da) j ?_;refine T.aa 6 rfl j ?_;refine T.bp (d:=62) rfl (fun aP=>?_) (fun aP=>?_)
     ·
      have L:eO (cz l).length (b.drop a)=none:=E5 (by rw[ic (by omega)];exact tV aP (by decide));refine T.g1 7 rfl rfl rfl rfl j ?_;refine T.g1 8 rfl rfl rfl rfl j ?_;refine T.g1 9 rfl rfl rfl rfl j ?_;refine T.g1 10 rfl rfl rfl rfl j ?_;refine T.g1 11 rfl rfl rfl rfl j ?_;refine T.g1 12 rfl rfl rfl rfl j ?_;refine T.g1 13 rfl rfl rfl rfl j ?_;refine T.g1 14 rfl rfl rfl rfl j ?_;refine T.t1 15 rfl (fun C F=>eS) j ?_;refine cI ?_;have cL:=j;refine bc ?_;refine G.h9 rfl ?_;refine G.exit (bb (az (ar (an ?_))));refine aC (G.L (fun bu=>?_));refine o.aP 5 ?_;refine bu ?_;refine G.ret (aa (ae ?_));obtain⟨O,P⟩:=B.stop L;obtain⟨so,rfl⟩:∃s:aO,A=s.v:=⟨cm A,i.bm.symm⟩;exact⟨so,l,by rw[B.e,←P];rfl,O,(i.rd.imp (fun c _ e=>by have E:=(ai);unfold U at E;omega)),(fun x h=>(n x h).imp (fun c _ e=>ab c e)),k⟩
     ·
      have cJ:(b.drop a).getD (12+e9 (b.drop a)) 0=67:=by rw[ic (by omega)];exact Hm (Decidable.byContradiction aP) (by decide)
      refine T.b0 7 rfl (fun C F=>fl) bo j ?_;refine T.e (g:=fun v=>v) 8 (by kernel_rfl) rfl (by kernel_rfl) (by kernel_rfl) (by kernel_rfl) (Y.slice K (4) (12) rfl dj cK rfl (.inr ⟨_,_,_,rfl,rfl,by first|rfl|omega⟩) (.inr ⟨_,_,_,rfl,rfl,by first|rfl|omega⟩) (by omega) (by omega)) bo rfl rfl j (fun bq aJ=>?_);rw[show(12:Nat)=4+8 from rfl,yT]at aJ;obtain⟨ck,rfl⟩:∃s:aO,bq=s.v:=⟨cm bq,aJ.bm.symm⟩;refine T.b0 9 rfl (fun C F=>fl) bo j ?_;refine T.b0 10 rfl (fun C F=>Y.cast (v2:= .int .i64 (l.length:Int)) (bf (i.rd.N F) hR) (rfl)) bo j ?_;refine T.b0 11 rfl (fun C F=>fl) bo j ?_;refine T.aX 12 ?_;refine dM.call rfl rfl u9 rfl bo rfl rfl (p5 l.length cj (((b.drop a).drop 12).take (e9 (b.drop a))) w0 _ S.any (by omega)) (fun dh cx cl=>?_);obtain⟨cn,rfl,a1,Q⟩:=cl;have i:=i.N Q;have n:=fun x M=>(n x M).N Q;have S:=S.N Q;have aJ:=aJ.N Q;have k:=k.L Q;have q:=q.L Q;have ce:=Q.size;have a1:=a1.b2;have bw:=j.L Q;refine T.cD bw ?_;have bx:=aq.refl cx;refine T.aX 13 ?_;refine dM.call rfl rfl u7 rfl bo rfl rfl (vR ck cn _ _ w0 _ aJ.any a1.any) (fun di cy cp=>?_);obtain⟨rfl,ac⟩:=cp;have i:=i.N ac;have n:=fun x M=>(n x M).N ac;have S:=S.N ac;have k:=k.L ac;have q:=q.L ac;have dk:=ac.size;have bz:=bx.L ac;refine T.cD bz ?_;have aw:=aq.refl cy;refine T.b0 14 rfl (fun C F=>Y.iE rfl rfl) bo aw ?_;refine T.t1 15 rfl (fun C F=>er) aw ?_;refine cI ?_;have cL:=aw;refine bc ?_;refine aW (fun a9=>?_) (fun a9=>?_)
      ·
       have L:eO (cz l).length (b.drop a)=none:=by rw[a8];exact E4 a9
       refine G.exit (bb (az (ar (an ?_))));refine aC (G.L (fun bU=>?_));refine o.aP 5 ?_;refine bU ?_;refine G.ret (aa (ae ?_));obtain⟨O,P⟩:=B.stop L;obtain⟨so,rfl⟩:∃s:aO,A=s.v:=⟨cm A,i.bm.symm⟩;exact⟨so,l,by rw[B.e,←P];rfl,O,(i.rd.imp (fun c _ e=>by have E:=(ai);unfold U at E;omega)),(fun x h=>(n x h).imp (fun c _ e=>ab c e)),k⟩
      ·
       have cO:eO (cz l).length (b.drop a)=some (((b.drop a).drop 12).take (e9 (b.drop a))):=by rw[a8];exact E7 (by omega) (by omega) (by omega) cJ (Decidable.byContradiction (fun h=>a9 h))
       refine G.skip (a5 (G.L (fun cr=>?_)));refine o.az 2 ?_;refine aV ni (mm _ (((b.drop a).drop 12).take (e9 (b.drop a))) w0 _ S.any (by omega)) (fun dR cq bX=>?_);obtain⟨a7,aK,rfl,R,bd,aM⟩:=bX;have br:af N aK:=af.app (af.z) i.le bd;have ct:U 0 J.size aK:=U.L (U.refl 0 _) bd k.size;have i:=i.N aM;have n:=fun x M=>(n x M).N aM;have q:=q.L aM;have ci:=aM.size;have bT:=R.le;refine o.aS (cS _ ([(a7,((b.drop a).drop 12).take (e9 (b.drop a)))]) lf nq nr (rfl)) fun dm bs bY=>?_;obtain⟨cP,am,cV,be⟩:=bY;have c_:bs.size=cq.size+1:=by rw[be];simp
       have i:=i.N am;have n:=fun x M=>(n x M).N am;have R:=R.N am;have q:=q.L am;have dp:=am.size;refine o.aS (eg i cP.rd lf (by simp only[List.length_singleton];omega) (by simp only[List.length_singleton];omega)) fun bZ dq b0=>?_;obtain⟨aL,i,aB,X⟩:=b0;have aB:U N bs.size aL:=aB;have X:=X.md;have cu:=ax.app (f1) (bg.mono (by omega)) aB;have cv:af aK aL:=af.app (br.symm) R.le aB;have bi:U 0 aS.size aL:=U.L (bn) aB q.size;have n:=fun x M=>(n x M).ae X (ay.I f1);have R:=R.ae X (ag.I br.symm);have q:=q.bx X (ah.I (ao.q bn));have dr:=X.size;have bV:=i.le;refine o.al ?_;refine cr (G.region ?_);refine o.az 2 ?_;refine o.v1 bD ?_;refine o.v1 bD ?_;refine o.v1 (Y.cast (v2:= .int .i64 ((a+(13+(((b.drop a).drop 12).take (e9 (b.drop a))).length):Nat):Int)) bD (fh (by omega))) ?_;refine o.al ?_;refine bE ?_;refine aR.sub (bB (a+(13+(((b.drop a).drop 12).take (e9 (b.drop a))).length),bZ,aL,l++[(a7,((b.drop a).drop 12).take (e9 (b.drop a)))],fun c=>aQ c∨c+1=aK) _ ?_ ?_) ⟨rfl,rfl,(aF (by omega)),trivial⟩
       ·exact⟨by unfold cz;rw[List.map_append];exact B.step cO,i,Gy (α:=Unit) (fb:=fun _=>(a7,[])) n (fun c e=> .inl e) (R.rd.imp (fun c _ e=> .inr e)),bk.dx (bg.mono (by omega)) R.le,ax.dx (cu) (cv.symm),fun c e=>by rcases e with e|e;exact ab c e;exact(by have E:=(ct);unfold U at E;omega),bi,q⟩
       ·show b.length-(a+(13+_))<b.length-a;omega
end j7

namespace hI
open E Go.RowKit eM e7 fx fS gm gN gX hf ho kq k0
def hl(n:Nat)(x:fP):Prop:=x.now.length≤n∧x.stays.length≤n∧x.w.length≤n∧(∀y∈x.w,y.d.length≤n)∧∀j,(lj (x.w.take j) x.stays).length≤n
theorem hl.mono{n m:Nat}{x:fP}(h:hl n x)(hm:n≤m):hl m x:=⟨Nat.le_trans h.1 hm,Nat.le_trans h.2.1 hm,Nat.le_trans h.2.2.1 hm,fun y hy=>Nat.le_trans (h.2.2.2.1 y hy) hm,fun j=>Nat.le_trans (h.2.2.2.2 j) hm⟩
theorem hl.nil(n:Nat):hl n ⟨[],[],[]⟩:=⟨Nat.zero_le _,Nat.zero_le _,Nat.zero_le _,nofun,fun j=>by simp[lj]⟩
theorem hl.flat{n:Nat}{l:List UInt8}(h:l.length≤n):hl n ⟨l,l,[]⟩:=⟨h,h,Nat.zero_le _,nofun,fun j=>by simpa[lj]using h⟩
def n8(fT:List aJ)(l:dc):Prop:=∀q,(aM l q).isSome=true→q∈fT
structure bA (n:Nat) (D:aE):Prop where
 al:e6 D.now
 kb:e6 D.stays
 dG:D.log.length≤n
 op:D.ops≤n
 ff:D.fs.length≤n
 f:∀i,hl n (bY D.fs i)
 un:∃fT:List aJ,fT.length≤n∧n8 fT D.now∧n8 fT D.stays∧∀c∈D.log,∀i,c.f=some i→c.n∈fT
 kG:∀c∈D.log,∀i,c.f=some i→ck c.n=c.dir
theorem bA.mono{n m:Nat}{D:aE}(h:bA n D)(hm:n≤m):bA m D:=⟨h.al,h.kb,Nat.le_trans h.dG hm,Nat.le_trans h.op hm,Nat.le_trans h.ff hm,fun i=>(h.f i).mono hm,by obtain⟨fT,d,V⟩:=h.un;exact⟨fT,Nat.le_trans d hm,V⟩,h.kG⟩
theorem zb{fs:List fP}{n:Nat}(h:∀i,(bY fs i).now.length≤n):∀l:dc,ij fs l≤l.length*n
 |[]=>by simp[ij]
 |x::l=>by
  have d:=zb h l;have V:=h x.2;unfold ij at d⊢;rw[List.map_cons,List.sum_cons,List.length_cons,Nat.add_mul];omega
theorem wJ{fT:List aJ}{l:dc}(d:e6 l)(h:n8 fT l):l.length≤fT.length:=by
 have:=lh d.nodup (fun k i=>h k (gQ.2 i));rwa[List.length_map]at this
theorem bA.bT{n:Nat}{D:aE}(h:bA n D)(aC:n≤1073741824):gw 274877906944 D:=by
 obtain⟨fT,r,V,d,x⟩:=h.un;have aN:=wJ h.al V;have k:=wJ h.kb d;have o:=zb (fun i=>(h.f i).1) D.now;have q:D.now.length*n≤1073741824*1073741824:=Nat.mul_le_mul (by omega) aC;exact⟨h.al,h.kb,by unfold aE.used;omega,by have:=h.dG;omega,by have:=h.op;omega,fun i=>by have:=(h.f i).1;omega,fun i=>by have:=(h.f i).2.1;omega,fun i=>by have:=(h.f i).2.2.1;omega,fun i y hy=>by have:=(h.f i).2.2.2.1 y hy;omega,by omega,by omega,by have:=h.ff;omega,fun i j=>by have:=(h.f i).2.2.2.2 j;omega,h.kG⟩
theorem bA.empty(cap most:Nat):bA 0 (aE.empty cap most):=
 ⟨List.Pairwise.nil,List.Pairwise.nil,Nat.le_refl _,Nat.le_refl _,Nat.le_refl _,fun i=>by show hl 0 (List.getD [] i _);simpa using hl.nil 0,⟨[],Nat.le_refl _,nofun,nofun,nofun⟩,nofun⟩
theorem bA.begin{n:Nat}{D:aE}(h:bA n D):bA (n+1) D.begin.2:=by
 obtain⟨aN,o,i,j,k,d,q⟩:=uK D;have h:=h.mono (Nat.le_succ n);exact⟨by rw[j];exact h.al,by rw[k];exact h.kb,by rw[d];exact h.dG,by have:=bA.op ‹bA n D›;omega,by rw[i];exact h.ff,by rw[i];exact h.f,by rw[j,k,d];exact h.un,by rw[d];exact h.kG⟩
theorem Dr{fT:List aJ}{l:dc}{c:dA}(h:n8 fT l)(av:∀i,c.f=some i→c.n∈fT):n8 fT (c.ap l):=fun q d=>by
 rw[qF]at d;unfold dA.at at d
 cases j:c.f with
 |none=>
  rw[j]at d;simp only at d;split at d
  ·cases d
  ·exact h q d
 |some i=>
  rw[j]at d;simp only at d;split at d
  ·rename_i e;rw[e];exact av i j
  ·split at d
   ·cases d
   ·exact h q d
theorem bA.put{n:Nat}{D:aE}(h:bA n D)(i:Nat){x:fP}(k:hl n x):bA n (D.fq i x):=
 ⟨h.al,h.kb,h.dG,h.op,by rw[si];exact h.ff,fun j=>by
  by_cases d:i<D.fs.length
  ·by_cases e:j=i
   ·subst e;rw[oN d];exact k
   ·show hl n ((D.fs.set i x).getD j _)
    rw[List.getD_eq_getElem?_getD,List.getElem?_set_ne (Ne.symm e),←List.getD_eq_getElem?_getD];exact h.f j
  ·show hl n ((D.fs.set i x).getD j _)
   rw[List.set_eq_of_length_le (by omega)];exact h.f j,h.un,h.kG⟩
theorem bA.change{n:Nat}{D:aE}(h:bA n D)(c:dA)(ak:∀i,c.f=some i→ck c.n=c.dir):bA (n+1) (D.change c):=by
 obtain⟨fT,A,V,r,x⟩:=h.un;refine⟨z8 h.al c,h.kb,by show(D.log++[c]).length≤_;have:=h.dG;simp;omega,Nat.le_succ_of_le h.op,Nat.le_succ_of_le h.ff,fun i=>(h.f i).mono (Nat.le_succ _),⟨c.n::fT,by simp;omega,Dr (fun q o=>List.mem_cons_of_mem _ (V q o)) (fun _ _=>List.mem_cons_self),fun q o=>List.mem_cons_of_mem _ (r q o),fun d j i k=>?_⟩,fun d j i k=>?_⟩
 ·rcases List.mem_append.1 j with j|j
  ·exact List.mem_cons_of_mem _ (x d j i k)
  ·rw[List.mem_singleton.1 j];exact List.mem_cons_self
 ·rcases List.mem_append.1 j with j|j
  ·exact h.kG d j i k
  ·rw[List.mem_singleton.1 j]at k⊢;exact ak i k
theorem bA.zM{n:Nat}{D:aE}(h:bA n D):bA (n+1) ({D with fs:=D.fs++[⟨[],[],[]⟩]}:aE):=
 ⟨h.al,h.kb,Nat.le_succ_of_le h.dG,Nat.le_succ_of_le h.op,by have:=h.ff;simp;omega,fun i=>by
  show hl (n+1) ((D.fs++[(⟨[],[],[]⟩:fP)]).getD i ⟨[],[],[]⟩);rw[List.getD_eq_getElem?_getD,List.getElem?_append];split
  ·rw[←List.getD_eq_getElem?_getD];exact(h.f i).mono (Nat.le_succ _)
  ·by_cases e:i-D.fs.length=0
   ·rw[e];exact hl.nil _
   ·rw[List.getElem?_eq_none (by simp;omega)];exact hl.nil _,(h.mono (Nat.le_succ _)).un,h.kG⟩
theorem bA.make{n:Nat}{D:aE}(h:bA n D)(p:aJ):bA (n+2) (D.make p).1:=by
 unfold aE.make;split
 ·exact h.mono (by omega)
 ·refine h.zM.change _ (fun i _=>?_)
  simp[dA.dir]
theorem hl.laid{n:Nat}{x:fP}(h:hl n x)(w:dQ):hl (n+w.d.length+1) ⟨w.on x.now w.d.length,x.stays,x.w++[w]⟩:=by
 obtain⟨q,V,r,i,d⟩:=h;have A:=xB w x.now w.d.length;refine⟨by show(w.on x.now w.d.length).length≤_;omega,by show x.stays.length≤_;omega,by show(x.w++[w]).length≤_;simp;omega,fun y hy=>?_,fun j=>?_⟩
 ·rcases List.mem_append.1 hy with hy|hy
  ·have:=i y hy;omega
  ·rw[List.mem_singleton.1 hy];omega
 ·show(lj ((x.w++[w]).take j) x.stays).length≤_
  rw[List.take_append];by_cases B:j≤x.w.length
  ·rw[show j-x.w.length=0 by omega,List.take_zero,List.append_nil];have:=d j;omega
  ·obtain⟨k,o⟩:∃k,j-x.w.length=k+1:=⟨j-x.w.length-1,by omega⟩
   rw[o]
   have e:lj (x.w.take j++[w].take (k+1)) x.stays=w.on (lj (x.w.take j) x.stays) w.d.length:=by
    unfold lj;rw[List.foldl_append,List.take_succ_cons,List.take_nil];rfl
   rw[e];have:=xB w (lj (x.w.take j) x.stays) w.d.length;have:=d j;omega
theorem bA.write{n:Nat}{D:aE}(h:bA n D)(p:aJ)(w:dQ):bA (n+w.d.length+3) (D.write p w):=by
 unfold aE.write;have d:=h.make p;exact(d.mono (by omega)).put _ (((d.f _).laid w).mono (by omega))
theorem bA.lay{n:Nat}{D:aE}(h:bA n D)(p:aJ)(w:dQ):bA (n+w.d.length+4) (D.lay p w).2:=by
 unfold aE.lay;have d:=h.begin;simp only;split
 ·exact d.mono (by omega)
 ·simp only;split
  ·exact(d.write p w).mono (by omega)
  ·exact d.mono (by omega)
theorem bA.sync{n:Nat}{D:aE}(h:bA n D)(p:aJ):bA (n+1) (D.sync p).2:=by
 unfold aE.sync;have d:=h.begin;simp only;split
 ·exact d
 ·simp only;split
  ·exact d.put _ (hl.flat (d.f _).1)
  ·exact d
theorem bA.rename{n:Nat}{D:aE}(h:bA n D)(a b:aJ):bA (n+2) (D.rename a b).2:=by
 unfold aE.rename;have d:=h.begin;simp only;split
 ·exact d.mono (by omega)
 ·simp only;split
  ·rename_i V
   refine d.change _ (fun i _=>?_)
   have j:cl a=true∧ck a=ck b:=by
    have:=V.1;unfold aE.jX at this;split at this
    ·cases this
    ·rename_i k;split at this
     ·cases this
     ·rename_i o;exact⟨by cases aC:cl a with
       |true=>rfl
       |false=>exact absurd (.inl aC) k,by simpa using o⟩
   unfold dA.dir;rw[if_neg (xp j.1)];exact j.2.symm
  ·exact d.mono (by omega)
theorem bA.h5{n:Nat}{D:aE}(h:bA n D)(p:aJ):bA (n+1) (D.h5 p).2:=by
 unfold aE.h5;have d:=h.begin;simp only;split
 ·exact d
 ·simp only;split
  ·obtain⟨fT,aN,j,k,o⟩:=d.un
   refine⟨d.al,Ab d.kb _,Nat.le_trans (List.length_filter_le _ _) d.dG,d.op,d.ff,d.f,⟨fT,aN,j,fun q i=>?_,fun c av=>o c (List.mem_filter.1 av).1⟩,fun c av=>d.kG c (List.mem_filter.1 av).1⟩;have i:(aM (merge D.begin.2.now D.begin.2.stays p) q).isSome=true:=i;rw[w7 d.al]at i;split at i
   ·exact j q i
   ·exact k q i
  ·exact d
end hI

namespace hJ
open E Go.RowKit eM e7 fx fS gm gN gX hf ho kq k0 hI
theorem EE{b_:World}(h:b_.ShapedOpen Tryz.prog):∃m,dP m b_.heap∧bk (fun b=>b=0) b_.heap.size:=by
 obtain⟨m,hm⟩:=cell_of_shapedOpen_int (g:=0) (t:=3) (zero:= #[.int .i64 0]) h (by decide) (by kernel_rfl) rfl (by kernel_rfl) (by kernel_rfl) Tryz.underlying3;have av:E.cell b_.heap ⟨0,0,none⟩=some (.int .i64 m):=by rw[←(At.cell (w0:=b_) ⟨rfl,rfl,rfl,rfl,Nat.le_refl _⟩ _)];exact hm
 refine⟨m,⟨⟨rfl,fun j c d=>?_⟩,rfl⟩,fun b aA=>?_⟩
 ·cases j with
  |zero=>cases d;exact av
  |succ j=>cases d
 ·have:=World.block_lt_of_cell? b_ _ hm;simp only at aA;omega
section
variable {P : Program} {w0 : World} {n : Nat} {l : bO} {H : Heap} {I : Oper}
end
theorem ay.of{k:Nat}{K:List Nat}(d:ag k K):ay (fun b=>b+1=k) K:=fun j i=>ax.of (d j i)
def f_(a:Int)(n:Nat):Nat:=(a%(n:Int)).toNat
theorem Hy{a:Int}{n:Nat}(h:0<n):f_ a n<n:=by
 unfold f_;have:=Int.emod_lt_of_pos a (show(0:Int)<n by omega);have:=Int.emod_nonneg a (show(n:Int)≠0 by omega);omega
theorem Hz{a:Int}{n:Nat}(h:0<n)(V:a.tmod n<0):((f_ a n:Nat):Int)=a.tmod n+n:=by
 unfold f_;have d:=Int.emod_nonneg a (show(n:Int)≠0 by omega);rw[Int.toNat_of_nonneg d];rw[Int.tmod_eq_emod]at V⊢;split at V
 ·omega
 ·rename_i i;rw[if_neg i];simp
theorem HA{a:Int}{n:Nat}(h:0<n)(V:¬a.tmod n<0):((f_ a n:Nat):Int)=a.tmod n:=by
 unfold f_;have i:=Int.emod_nonneg a (show(n:Int)≠0 by omega);have j:=Int.emod_lt_of_pos a (show(0:Int)<n by omega);rw[Int.toNat_of_nonneg i];rw[Int.tmod_eq_emod]at V⊢;split at V
 ·rename_i d;rw[if_pos d];simp
 ·rename_i d
  simp only[Int.natAbs_natCast]at V;omega
end hJ

namespace j8
open E Go.RowKit eM e7 fx fS gm gN gX hf ho hI hJ iO jg j7
set_option maxRecDepth 100000 in
theorem de:c3 Tryz.prog 57 5 1 1:=⟨Tryz.underlying57,_,_,rfl,rfl,rfl,rfl,rfl⟩
section
variable {P : Program} {w0 : World} {n : Nat} {l : bO} {H H1 : Heap} {I : Oper}
theorem Y.wb{x:Operand}{s:TypeId}{k off d:Nat}{ad:Addr}{cs:List Value}{fs:Array Field}{fd:Field}(h:b8 H1 ad cs)(o:I.op= .fieldAddr s x k)(hu:∀w,(underlying s).run P w= .ok (.struct fs) w)(j:fs[k]?=some fd)(q:fd.offset=off)
 (r:∀w,(sizeOf fd.type).run P w= .ok d w) (B:d≠0) (A:aH l x=some (.pointer (some ad))):Y P w0 n l H I (.pointer (some (ad.add off))):=by
 intro ac w i C;simp[execOp,o,i.eval A,Instr.fieldAt,Instr.sureAddr,fieldPlace,hu,j,q,r,B]
end
def cu(p:aJ):aJ:=p++[46,110,101,119]
abbrev hS:=aE→Nat×aE
def cR:List hS→aE→Nat×aE
 |[],D=>(0,D)
 |f::fs,D=>if(f D).1=0 then cR fs (f D).2 else f D
def pt(Fs:List hS)(i:Nat):hS:=Fs.getD i (fun D=>(0,D))
theorem tm:∀(a b:List hS) (D:aE),cR (a++b) D=if(cR a D).1=0 then cR b (cR a D).2 else cR a D
 |[],b,D=>by simp[cR]
 |f::a,b,D=>by
  rw[List.cons_append,cR,cR];by_cases h:(f D).1=0
  ·rw[if_pos h,if_pos h,tm a b]
  ·rw[if_neg h,if_neg h,if_neg h]
theorem F6(f:hS)(D:aE):cR [f] D=f D:=by
 unfold cR cR;split
 ·rename_i h;exact Prod.ext h.symm rfl
 ·rfl
theorem F8{Fs:List hS}{i:Nat}{D:aE}(h:i<Fs.length)(d:(cR (Fs.take i) D).1=0):cR (Fs.take (i+1)) D=pt Fs i (cR (Fs.take i) D).2:=by
 rw[List.take_succ_eq_append_getElem h,tm,if_pos d,F6];unfold pt;rw[List.getD_eq_getElem?_getD,List.getElem?_eq_getElem h];rfl
theorem F7{Fs:List hS}{i:Nat}{D:aE}(h:(cR (Fs.take i) D).1≠0):cR Fs D=cR (Fs.take i) D:=by
 conv=>lhs;rw[←List.take_append_drop i Fs]
 rw[tm,if_neg h]
theorem oz{k:Nat}:∀{fs:List hS} {bW:Nat} {D:aE},(∀f∈fs,∀bW D,bA bW D→bA (bW+k) (f D).2)→bA bW D→bA (bW+k*fs.length) (cR fs D).2
 |[],bW,D,_,h=>by simpa[cR]using h
 |f::fs,bW,D,i,h=>by
  have d:=i f List.mem_cons_self bW D h;unfold cR;split
  ·have:=oz (fs:=fs) (fun g j=>i g (List.mem_cons_of_mem _ j)) d
   rw[List.length_cons];exact this.mono (by rw[Nat.mul_add];omega)
  ·rw[List.length_cons];exact d.mono (by rw[Nat.mul_add];omega)
theorem uS{k:Nat}{fs:List hS}{bW:Nat}{D:aE}(i:Nat)(d:∀f∈fs,∀bW D,bA bW D→bA (bW+k) (f D).2)(h:bA bW D):bA (bW+k*fs.length) (cR (fs.take i) D).2:=by
 have:=oz (fs:=fs.take i) (fun f hm=>d f (List.mem_of_mem_take hm)) h;exact this.mono (Nat.add_le_add_left (Nat.mul_le_mul_left _ (by rw[List.length_take];omega)) _)
def iS(p:aJ)(l:List Rec):List hS:=[fun D=>D.lay (cu p) ⟨false,cC l⟩,fun D=>D.sync (cu p),fun D=>D.rename (cu p) p,fun D=>D.h5 (ck p)]
def gO(p:aJ)(n:Nat)(r:Rec):List hS:=[fun D=>D.lay p ⟨true,iU n r⟩,fun D=>D.sync p,fun D=>D.lay p ⟨true,[67]⟩,fun D=>D.sync p]
theorem wu(p:aJ)(l:List Rec):∀f∈iS p l,∀bW D,bA bW D→bA (bW+((cC l).length+20)) (f D).2:=by
 intro f d bW D h;simp only[iS,List.mem_cons,List.not_mem_nil,or_false]at d;rcases d with rfl|rfl|rfl|rfl
 ·exact(h.lay (cu p) ⟨false,cC l⟩).mono (by simp only;omega)
 ·exact(h.sync _).mono (by omega)
 ·exact(h.rename _ _).mono (by omega)
 ·exact(h.h5 _).mono (by omega)
theorem rL(p:aJ)(n:Nat)(r:Rec):∀f∈gO p n r,∀bW D,bA bW D→bA (bW+(r.length+20)) (f D).2:=by
 intro f d bW D h;simp only[gO,List.mem_cons,List.not_mem_nil,or_false]at d;rcases d with rfl|rfl|rfl|rfl
 ·exact(h.lay p ⟨true,iU n r⟩).mono (by simp only[oY];omega)
 ·exact(h.sync _).mono (by omega)
 ·exact(h.lay p ⟨true,[67]⟩).mono (by simp only[List.length_singleton];omega)
 ·exact(h.sync _).mono (by omega)
def eD(D:aE)(p:aJ)(l:List Rec):Nat×aE:=cR (iS p l) D
theorem pX{bW:Nat}{D:aE}(h:bA bW D)(p:aJ)(l:List Rec):bA (bW+4*((cC l).length+20)) (eD D p l).2:=(oz (wu p l) h).mono (by simp[iS];omega)
theorem Cp(p:aJ):(ck p).length≤p.length:=by
 unfold ck mB;split
 ·exact List.length_take_le' _ _
 ·exact Nat.zero_le _
theorem o9(p:aJ):(cu p).length=p.length+4:=by simp[cu]
abbrev jx:=Nat×List Value
abbrev sf(x:jx):List Value:=[.func (.func x.1) #[] x.2.toArray]
theorem vT(x:jx):(sf x).length=1:=rfl
theorem vU(x:jx):∀u∈sf x,u.oneCell'=true:=by intro u hu;simp only[List.mem_singleton]at hu;subst hu;rfl
def ru(w0:World)(b:Nat)(f:hS)(v:Value)(K:List Nat)(H:Heap)(D:aE):Prop:=
 gx Tryz.prog w0 v [] H (fun r d=>∃(bl:List Nat) (g2:ct),r= .int .i64 ((f D).1:Int)∧bg bl g2 d b (f D).2∧aT K H.size bl∧W (aB K) H d)
theorem we(K:List Nat)(g:ct)(b:Nat)(D:aE)(v:Value)(l:List jx)(Fs:List hS)(F:Nat→Prop)(w0:World)(J:Heap)
 (d:bg K g J b D) (B:Rd F J sf 1 v l) (bp:bk F J.size) (aZ:ay F K) (bs:l.length=Fs.length) (a7:∀(i:Nat) (h:i<l.length) (ga:List Nat) (a1:ct) (ab:Heap),bg ga a1 ab b (cR (Fs.take i) D).2→aT K J.size ga→W (aB K) J ab→ru w0 b (pt Fs i) (.func (.func l[i].1) #[] l[i].2.toArray) ga ab (cR (Fs.take i) D).2):
 aG Tryz.prog w0 108 #[v] J (fun r Q=>∃bl:List Nat,∃g2:ct,r= .int .i64 ((cR Fs D).1:Int)∧(bg bl g2 Q b (cR Fs D).2)∧(aT K J.size bl)∧W (aB K) J Q):=by
 refine aG.aN [v] Tryz.func108 ?_;intro ba Z;have j:W (aB K) J J:=W.refl _ _;have R:=aT.refl K J.size;have ac:=d.aD;have bt:=B.len;refine G.L (fun aN=>?_);refine o.al ?_;refine aN (G.seq (fun bl aO aP=>G.L (fun aQ=>?_)));refine o.aa ?_;refine o.v1 (bf B y6) ?_;refine o.aa (o.nil (aQ ?_));refine G.aD (fun _ aS aV=>?_)
 refine G.bc (fun(a8:(Nat)×(List Nat)×(ct))=>match a8 with|(i,n,x)=>[(6,v),(7,.int .i64 (l.length:Int)),(8,.int .i64 (i:Int))])
  (fun(i,n,x) (H:Heap)=>(bg n x H b (cR (Fs.take i) D).2)∧(i≤l.length)∧((cR (Fs.take i) D).1=0)∧(aT K J.size n)∧W (aB K) J H)
  (fun(i,n,x)=>l.length-i) (0,K,g) ⟨rfl,rfl,rfl,trivial⟩ ?_ ?_
 ·
  exact⟨d,(by omega),rfl,aT.refl _ _,W.refl _ _⟩
 rintro⟨i,n,x⟩ bc aa a_ ae U;obtain⟨d,bq,N,S,q⟩:=aa;have C:aT K J.size n:=aT.L (R) S j.size;have B:=B.ae q (aZ);have j:=j.aL q (ah.ca (R) (by intro k A;simp[A]));have bd:=q.size;have ac:=d.aD;have X:=S;refine G.L (fun af=>?_);refine o.v1 bH (o.nil (af ?_));refine G.t2 (fun ag ai=>?_);refine aW (fun aX=>?_) (fun aX=>?_)
 ·
  have O:i<l.length:=by omega
  have L:=F8 (Fs:=Fs) (D:=D) (i:=i) (by omega) N;refine G.skip (ag (G.t2 (fun al an=>G.aD (fun ar _ az=>G.L (fun aK=>?_)))));refine o.b1 (Y.bU B (i) rfl y6 Gk rfl rfl) fun bb aL=>?_;refine o.v1 (au aL.O zC) ?_;refine o.al ?_;refine aK (G.L (fun aw=>?_));refine o.aa ?_;refine o.mr rfl rfl rfl cM rfl rfl (a7 i O n x _ d (C) j) (fun bm bn aC=>?_);obtain⟨E,aD,rfl,d,T,M⟩:=aC;have aH:aT K J.size E:=aT.L (C) T j.size;have aI:aT K J.size E:=aT.L (X) T q.size;have j:=j.aL M (ah.ca (C) (by intro k A;simp[A]));have q:=q.aL M (ah.ca (X) (by intro k A;simp[A]));have bo:=M.size;have ac:=d.aD;refine o.al ?_;refine aw (G.L (fun am=>?_));refine o.aa ?_;refine o.v1 da (o.nil (am ?_));refine aW (fun aJ=>?_) (fun aJ=>?_)
  ·
   have a6:(cR (Fs.take (i+1)) D).1≠0:=by rw[L];omega
   have P:=F7 a6;rw[L]at P;refine G.seq (fun E aM _=>G.region ?_);refine o.aP 2 ?_;refine aM _ _ ?_;refine G.ret (az (an (U (aV (aP .ret nofun _ _ (Z ?_))))));exact⟨_,_,by rw[P],by rw[P];exact d,aH,j⟩
  ·
   refine G.skip (ar (al (G.region ?_)));refine o.v1 bD ?_;refine o.aa (o.nil ?_);refine aR.sub (ae (i+1,E,aD) _ ?_ ?_) ⟨rfl,(aF (by omega)),(aF (by omega)),trivial⟩
   ·exact⟨by rw[L];exact d,(by omega),by rw[L];omega,aI,q⟩
   ·first|omega|(simp only;omega)|(simp;omega)
 ·
  refine G.exit (ai (U (aS ?_)));refine aO _ _ (G.L (fun ap=>?_));refine o.al ?_;refine ap ?_;refine G.ret (Z ?_);have O:i=Fs.length:=by omega
  rw[O,List.take_length]at d N;exact⟨_,_,by rw[N];rfl,d,C,j⟩
structure ma (K:List Nat) (H:Heap) (bb:Int) (b c aZ:Nat) (p:aJ) (n:Nat) (br:Bool):Prop where
 aI:dP bb H
 ku:bk (fun b=>b=0) H.size
 c6:ay (fun b=>b=0) K
 cZ:Var 103 H c [ptr aZ]
 dG:Var 206 H aZ [ptr b,aK p,.int .i64 (n:Int),.bool br]
 dW:ag (c+1) K
 dl:ag (aZ+1) K
theorem ma.up{K bl:List Nat}{H d:Heap}{bb:Int}{b c aZ n:Nat}{p:aJ}{br:Bool}(h:ma K H bb b c aZ p n br)(s:W (aB K) H d)(x:aT K H.size bl):ma bl d bb b c aZ p n br:=
 ⟨h.aI.ae s h.c6,fun b aA=>by have:=h.ku b aA;have:=s.size;omega,ay.ee h.c6 h.ku x,h.cZ.ae s h.dW,h.dG.ae s h.dl,ag.ee h.dW h.cZ.lt x,ag.ee h.dl h.dG.lt x⟩
structure mc {α:Type} (K:List Nat) (F:Nat→Prop) (H:Heap) (f:α→List Value) (v:Value) (l:List α):Prop where
 rd:Rd F H f 1 v l
 b5:bk F H.size
 gB:ay F K
theorem mc.up{α:Type}{K bl:List Nat}{F:Nat→Prop}{H d:Heap}{f:α→List Value}{v:Value}{l:List α}(h:mc K F H f v l)(s:W (aB K) H d)(x:aT K H.size bl):mc bl F d f v l:=
 ⟨h.rd.ae s h.gB,fun b aA=>by have:=h.b5 b aA;have:=s.size;omega,ay.ee h.gB h.b5 x⟩
structure k4 (K:List Nat) (H:Heap) (e:TypeId) (c:Nat) (cs:List Value):Prop where
 v:Var e H c cs
 d:ag (c+1) K
theorem k4.up{K bl:List Nat}{H d:Heap}{e:TypeId}{c:Nat}{cs:List Value}(h:k4 K H e c cs)(s:W (aB K) H d)(x:aT K H.size bl):k4 bl d e c cs:=⟨h.v.ae s h.d,ag.ee h.d h.v.lt x⟩
set_option maxHeartbeats 2000000 in
theorem uF(bb:Int)(K:List Nat)(g:ct)(b:Nat)(D:aE)(c aZ:Nat)(p:aJ)(n:Nat)(br:Bool)(w0:World)(J:Heap)
 (i:bg K g J b D) (aI:dP bb J) (M:bk (fun b=>b=0) J.size) (c6:ay (fun b=>b=0) K) (av:Var 103 J c [ptr aZ]) (d:Var 206 J aZ [ptr b,aK p,.int .i64 (n:Int),.bool br]) (dW:ag (c+1) K) (dl:ag (aZ+1) K) (Q:p.length≤4294967280) (N:gw 274877906944 D):
 aG Tryz.prog w0 106 #[ptr c] J (fun r q=>∃bl:List Nat,∃g2:ct,r= .int .i64 ((D.sync p).1:Int)∧(bg bl g2 q b (D.sync p).2)∧(aT K J.size bl)∧W (aB K) J q):=by
 refine aG.aN [ptr c] Tryz.func106 ?_;intro S R;have j:W (aB K) J J:=W.refl _ _;have x:=aT.refl K J.size;have ad:=i.aD;have U:=av.lt;have ac:=d.lt;refine G.L (fun C=>?_);refine o.al ?_;refine C (G.seq (fun bl E _=>?_));refine G.jq 8 rfl (by kernel_rfl) (fun T O=>?_);refine o.v1 (au av.O hg) ?_;refine o.bG ?_;refine o.v1 (Y.an d.O rfl gj rfl l3) ?_;refine o.v1 (au d.O lJ) ?_;refine o.v1 (au av.O hg) ?_;refine o.bG ?_;refine o.v1 (Y.an d.O rfl gj rfl bV) ?_;refine o.v1 (au (d.O.drop 1) bR) ?_;refine o.nil (O _ ?_);refine aV uW (yP bb K g b D p w0 _ i aI (M.mono (by omega)) (c6) Q N) (fun aw am F=>?_);obtain⟨H,X,rfl,i,A,B⟩:=F;have L:aT K J.size H:=aT.L (x) A j.size;have j:=j.aL B (ah.ca (x) (by intro k P;simp[P]));refine o.al ?_;refine E _ _ ?_;refine G.ret (R ?_);exact⟨_,_,rfl,i,L,j⟩
set_option maxHeartbeats 2000000 in
theorem zN(bb:Int)(K:List Nat)(g:ct)(b:Nat)(D:aE)(c aZ:Nat)(p:aJ)(n:Nat)(br:Bool)(du:Nat)(s:aO)(rc:List UInt8)(F:Nat→Prop)(w0:World)(J:Heap)
 (x:bg K g J b D) (aI:dP bb J) (aC:bk (fun b=>b=0) J.size) (c6:ay (fun b=>b=0) K) (av:Var 103 J c [ptr aZ]) (B:Var 206 J aZ [ptr b,aK p,.int .i64 (n:Int),.bool br]) (dW:ag (c+1) K) (dl:ag (aZ+1) K) (S:Var 57 J du [s.v]) (d3:ag (du+1) K) (aH:Rd F J a6 1 s.v rc) (aX:bk F J.size) (a1:ay F K) (aM:rc.length≤4294967000) (aF:p.length≤4294967280) (aD:gw 274877906944 D):
 aG Tryz.prog w0 109 #[ptr c,ptr du] J (fun r N=>∃bl:List Nat,∃g2:ct,r= .int .i64 ((D.lay p ⟨true,iU n rc⟩).1:Int)∧(bg bl g2 N b (D.lay p ⟨true,iU n rc⟩).2)∧(aT K J.size bl)∧W (aB K) J N):=by
 refine aG.aN [ptr c,ptr du] Tryz.func109 ?_;intro aN aL;have E:W (aB K) J J:=W.refl _ _;have O:=aT.refl K J.size;have ap:=x.aD;have aW:=av.lt;have aw:=B.lt;have am:=S.lt;refine G.L (fun an=>?_);refine o.al ?_;refine an (G.seq (fun bl ar _=>?_));refine dg (fun j=>W (aB K) J j) [] ?_;have d:W (aB K) J J:=W.refl _ _;have az:=aT.refl K J.size;refine T.t1 0 rfl (fun j i=>Y.fM (av.ae i (dW)).O rfl hg rfl) d ?_;refine T.bG 1 rfl d ?_;refine T.t1 2 rfl (fun j i=>Y.fieldAddr (B.ae i (dl)).O rfl gj rfl rfl l3 (by decide) rfl) d ?_;refine T.t1 3 rfl (fun j i=>Y.fM (B.ae i (dl)).O rfl lJ rfl) d ?_;refine T.t1 4 rfl (fun j i=>Y.fM (av.ae i (dW)).O rfl hg rfl) d ?_;refine T.bG 5 rfl d ?_;refine T.t1 6 rfl (fun j i=>Y.fieldAddr (B.ae i (dl)).O rfl gj rfl rfl bV (by decide) rfl) d ?_;refine T.t1 7 rfl (fun j i=>au ((B.ae i (dl)).O.drop 1) bR) d ?_;refine T.t1 8 rfl (fun j i=>Y.fM (av.ae i (dW)).O rfl hg rfl) d ?_;refine T.bG 9 rfl d ?_;refine T.t1 10 rfl (fun j i=>Y.fieldAddr (B.ae i (dl)).O rfl gj rfl rfl b6 (by decide) rfl) d ?_;refine T.t1 11 rfl (fun j i=>au ((B.ae i (dl)).O.drop 2) cE) d ?_;refine T.t1 12 rfl (fun j i=>Y.fM (S.ae i (d3)).O rfl eI rfl) d ?_;refine T.aX 13 ?_;refine b7 uZ (zg n s rc w0 _ aH.any aM) (fun aP C X=>?_);obtain⟨Z,q,rfl,L,P,ac⟩:=X;have aa:ag q K:=ag.lM (ag.jd) x.aD P;have ab:U 0 J.size q:=U.L (U.refl 0 _) P d.size;have x:=x.N ac;have aI:=aI.N ac;have E:=E.a8 ac;have d:=d.a8 ac;have aQ:=ac.size;have aV:=L.le;refine⟨.inr d,T.narrow (SH2:=fun j=>W (aB (K++[q])) C j) (fun j i=>d.aL i (ah.app (ah.ca (az) (by intro k A;simp[A])) (ah.I (ao.q ab)))) ?_⟩;have d:W (aB (K++[q])) C C:=W.refl _ _;have Q:=aT.refl K C.size;have af:=U.refl q C.size;refine T.aX 14 ?_;refine b7 uY (uA bb K g b D p Z (iU n rc) _ w0 _ x aI (aC.mono (by omega)) (c6) L.rd (bk.of L.le) (ay.of (aa)) aF aD (by rw[oY];omega)) (fun aR M ae=>?_);obtain⟨H,aS,rfl,x,ad,R⟩:=ae;have ai:aT K J.size H:=aT.L (O) ad E.size;have al:aT K C.size H:=aT.L (Q) ad d.size;have E:=E.aL R (ah.ca (O) (by intro k A;simp[A]));have d:=d.aL R (ah.ca (Q) (by intro k A;simp[A]));refine⟨.inr d,T.narrow (SH2:=fun j=>W (aB (H++[q])) M j) (fun j i=>d.aL i (ah.app (ah.ca (al) (by intro k A;simp[A])) (ah.I (ao.r af)))) ?_⟩;have d:W (aB (H++[q])) M M:=W.refl _ _;refine T.t1 15 rfl (fun j i=>e5) d ?_;refine cI ?_;refine ar _ _ ?_;refine G.ret (aL ?_);exact⟨_,_,rfl,x,ai,E⟩
set_option maxHeartbeats 2000000 in
theorem zP(bb:Int)(K:List Nat)(g:ct)(b:Nat)(D:aE)(c aZ:Nat)(p:aJ)(n:Nat)(br:Bool)(w0:World)(J:Heap)
 (x:bg K g J b D) (aI:dP bb J) (ai:bk (fun b=>b=0) J.size) (c6:ay (fun b=>b=0) K) (av:Var 103 J c [ptr aZ]) (C:Var 206 J aZ [ptr b,aK p,.int .i64 (n:Int),.bool br]) (dW:ag (c+1) K) (dl:ag (aZ+1) K) (an:p.length≤4294967280) (al:gw 274877906944 D):
 aG Tryz.prog w0 112 #[ptr c] J (fun r H=>∃bl:List Nat,∃g2:ct,r= .int .i64 ((D.lay p ⟨true,[67]⟩).1:Int)∧(bg bl g2 H b (D.lay p ⟨true,[67]⟩).2)∧(aT K J.size bl)∧W (aB K) J H):=by
 refine aG.aN [ptr c] Tryz.func112 ?_;intro az ar;have B:W (aB K) J J:=W.refl _ _;have L:=aT.refl K J.size;have aL:=x.aD;have aM:=av.lt;have aH:=C.lt;refine G.L (fun aa=>?_);refine o.al ?_;refine aa (G.seq (fun bl ab _=>?_));refine dg (fun j=>W (aB K) J j) [] ?_;have d:W (aB K) J J:=W.refl _ _;have ae:=aT.refl K J.size;refine T.t1 0 rfl (fun j i=>Y.fM (av.ae i (dW)).O rfl hg rfl) d ?_;refine T.bG 1 rfl d ?_;refine T.t1 2 rfl (fun j i=>Y.fieldAddr (C.ae i (dl)).O rfl gj rfl rfl l3 (by decide) rfl) d ?_;refine T.t1 3 rfl (fun j i=>Y.fM (C.ae i (dl)).O rfl lJ rfl) d ?_;refine T.t1 4 rfl (fun j i=>Y.fM (av.ae i (dW)).O rfl hg rfl) d ?_;refine T.bG 5 rfl d ?_;refine T.t1 6 rfl (fun j i=>Y.fieldAddr (C.ae i (dl)).O rfl gj rfl rfl bV (by decide) rfl) d ?_;refine T.t1 7 rfl (fun j i=>au ((C.ae i (dl)).O.drop 1) bR) d ?_;refine T.aX 8 ?_;refine ey rfl (cS _ ([(67:UInt8)]) de et fB (rfl)) (fun N q af=>?_);obtain⟨F,ac,aP,aw⟩:=af;have aN:q.size=J.size+1:=by rw[aw];simp
 have P:ag (J.size+1) K:=ag.gG x.aD;have Q:U 0 J.size (J.size+1):=U.new d.size;have x:=x.N ac;have aI:=aI.N ac;have B:=B.a8 ac;have d:=d.a8 ac;have aC:=ac.size;obtain⟨R,rfl⟩:∃s:aO,N=s.v:=⟨cm N,F.bm.symm⟩;refine⟨.inr d,T.narrow (SH2:=fun j=>W (aB (K++[(J.size+1)])) q j) (fun j i=>d.aL i (ah.app (ah.ca (ae) (by intro k A;simp[A])) (ah.I (ao.q Q)))) ?_⟩;have d:W (aB (K++[(J.size+1)])) q q:=W.refl _ _;have O:=aT.refl K q.size;have S:=U.refl (J.size+1) q.size;refine T.aX 9 ?_;refine b7 uY (uA bb K g b D p R [67] _ w0 _ x aI (ai.mono (by omega)) (c6) F.rd (bk.of F.le) (ay.of (P)) an al (by decide)) (fun aD am X=>?_);obtain⟨E,aF,rfl,x,ad,M⟩:=X;have Z:aT K J.size E:=aT.L (L) ad B.size;have ap:aT K q.size E:=aT.L (O) ad d.size;have B:=B.aL M (ah.ca (L) (by intro k A;simp[A]));have d:=d.aL M (ah.ca (O) (by intro k A;simp[A]));refine⟨.inr d,T.narrow (SH2:=fun j=>W (aB (E++[(J.size+1)])) am j) (fun j i=>d.aL i (ah.app (ah.ca (ap) (by intro k A;simp[A])) (ah.I (ao.r S)))) ?_⟩;have d:W (aB (E++[(J.size+1)])) am am:=W.refl _ _;refine T.t1 10 rfl (fun j i=>e5) d ?_;refine cI ?_;refine ab _ _ ?_;refine G.ret (ar ?_);exact⟨_,_,rfl,x,Z,B⟩
set_option maxHeartbeats 2000000 in
theorem Co(bb:Int)(K:List Nat)(g:ct)(b:Nat)(D:aE)(c aZ:Nat)(p:aJ)(n:Nat)(br:Bool)(cB:Nat)(du:Nat)(s:aO)(l:List (aO×Rec))(F:Nat→Prop)(w0:World)(J:Heap)
 (A:bg K g J b D) (aI:dP bb J) (aC:bk (fun b=>b=0) J.size) (c6:ay (fun b=>b=0) K) (av:Var 103 J c [ptr aZ]) (M:Var 206 J aZ [ptr b,aK p,.int .i64 (n:Int),.bool br]) (dW:ag (c+1) K) (dl:ag (aZ+1) K) (X:Var 9 J cB [aK (cu p)]) (d7:ag (cB+1) K) (S:Var 104 J du [s.v]) (d3:ag (du+1) K) (aF:Rd F J hU 1 s.v l) (a7:bk F J.size) (a_:ay F K) (aM:∀x∈l,Rd F J a6 1 x.1.v x.2) (a8:bk F J.size) (ba:ay F K) (aL:∀x∈l,x.2.length≤1048576) (bd:(eV 0 (cz l)).length≤274877900000) (bf:p.length≤4294960000) (aD:gw 274877906944 D):
 aG Tryz.prog w0 169 #[ptr c,ptr cB,ptr du] J (fun r N=>∃bl:List Nat,∃g2:ct,r= .int .i64 ((D.lay (cu p) ⟨false,cC (cz l)⟩).1:Int)∧(bg bl g2 N b (D.lay (cu p) ⟨false,cC (cz l)⟩).2)∧(aT K J.size bl)∧W (aB K) J N):=by
 refine aG.aN [ptr c,ptr cB,ptr du] Tryz.func169 ?_;intro aN aH;have E:W (aB K) J J:=W.refl _ _;have O:=aT.refl K J.size;have aX:=A.aD;have a1:=av.lt;have aw:=M.lt;have am:=X.lt;have aW:=S.lt;refine G.L (fun az=>?_);refine o.al ?_;refine az (G.seq (fun bl Z _=>?_));refine dg (fun j=>W (aB K) J j) [] ?_;have d:W (aB K) J J:=W.refl _ _;have aa:=aT.refl K J.size;refine T.t1 0 rfl (fun j i=>Y.fM (av.ae i (dW)).O rfl hg rfl) d ?_;refine T.bG 1 rfl d ?_;refine T.t1 2 rfl (fun j i=>Y.fieldAddr (M.ae i (dl)).O rfl gj rfl rfl l3 (by decide) rfl) d ?_;refine T.t1 3 rfl (fun j i=>Y.fM (M.ae i (dl)).O rfl lJ rfl) d ?_;refine T.t1 4 rfl (fun j i=>Y.fM (X.ae i (d7)).O rfl bR rfl) d ?_;refine T.t1 5 rfl (fun j i=>Y.fM (S.ae i (d3)).O rfl rG rfl) d ?_;refine T.aX 6 ?_;refine b7 A3 (CH s l w0 _ aF.any (fun x h=>(aM x h).any) aL (by omega)) (fun aP C ab=>?_);obtain⟨ae,q,rfl,H,P,ac⟩:=ab;have af:ag q K:=ag.lM (ag.jd) A.aD P;have al:U 0 J.size q:=U.L (U.refl 0 _) P d.size;have A:=A.N ac;have aI:=aI.N ac;have E:=E.a8 ac;have d:=d.a8 ac;have aQ:=ac.size;have aV:=H.le;refine⟨.inr d,T.narrow (SH2:=fun j=>W (aB (K++[q])) C j) (fun j i=>d.aL i (ah.app (ah.ca (aa) (by intro k B;simp[B])) (ah.I (ao.q al)))) ?_⟩;have d:W (aB (K++[q])) C C:=W.refl _ _;have Q:=aT.refl K C.size;have an:=U.refl q C.size;refine T.aX 7 ?_;refine b7 A2 (rm bb K g b D (cu p) ae (cC (cz l)) _ w0 _ A aI (aC.mono (by omega)) (c6) H.rd (bk.of H.le) (ay.of (af)) (by rw[o9];omega) aD (by unfold cC;rw[List.length_append];have bc:gy.length=8:=rfl;omega)) (fun aR L ai=>?_);obtain⟨ap,aS,rfl,A,ad,R⟩:=ai;have ar:aT K J.size ap:=aT.L (O) ad E.size;have au:aT K C.size ap:=aT.L (Q) ad d.size;have E:=E.aL R (ah.ca (O) (by intro k B;simp[B]));have d:=d.aL R (ah.ca (Q) (by intro k B;simp[B]));refine⟨.inr d,T.narrow (SH2:=fun j=>W (aB (ap++[q])) L j) (fun j i=>d.aL i (ah.app (ah.ca (au) (by intro k B;simp[B])) (ah.I (ao.r an)))) ?_⟩;have d:W (aB (ap++[q])) L L:=W.refl _ _;refine T.t1 8 rfl (fun j i=>e5) d ?_;refine cI ?_;refine Z _ _ ?_;refine G.ret (aH ?_);exact⟨_,_,rfl,A,ar,E⟩
set_option maxHeartbeats 2000000 in
theorem Cn(bb:Int)(K:List Nat)(g:ct)(b:Nat)(D:aE)(c aZ:Nat)(p:aJ)(n:Nat)(br:Bool)(cB:Nat)(w0:World)(J:Heap)
 (d:bg K g J b D) (aI:dP bb J) (M:bk (fun b=>b=0) J.size) (c6:ay (fun b=>b=0) K) (av:Var 103 J c [ptr aZ]) (j:Var 206 J aZ [ptr b,aK p,.int .i64 (n:Int),.bool br]) (dW:ag (c+1) K) (dl:ag (aZ+1) K) (A:Var 9 J cB [aK (cu p)]) (d7:ag (cB+1) K) (Z:p.length≤4294960000) (N:gw 274877906944 D):
 aG Tryz.prog w0 172 #[ptr c,ptr cB] J (fun r q=>∃bl:List Nat,∃g2:ct,r= .int .i64 ((D.sync (cu p)).1:Int)∧(bg bl g2 q b (D.sync (cu p)).2)∧(aT K J.size bl)∧W (aB K) J q):=by
 refine aG.aN [ptr c,ptr cB] Tryz.func172 ?_;intro S Q;have i:W (aB K) J J:=W.refl _ _;have x:=aT.refl K J.size;have ad:=d.aD;have X:=av.lt;have U:=j.lt;have ac:=A.lt;refine G.L (fun E=>?_);refine o.al ?_;refine E (G.seq (fun bl F _=>?_));refine G.jq 5 rfl (by kernel_rfl) (fun T O=>?_);refine o.v1 (au av.O hg) ?_;refine o.bG ?_;refine o.v1 (Y.an j.O rfl gj rfl l3) ?_;refine o.v1 (au j.O lJ) ?_;refine o.v1 (au A.O bR) ?_;refine o.nil (O _ ?_);refine aV uW (yP bb K g b D (cu p) w0 _ d aI (M.mono (by omega)) (c6) (by rw[o9];omega) N) ?_;rintro aa R ⟨B,g8,rfl,d,C,H⟩;have L:aT K J.size B:=aT.L (x) C i.size;have i:=i.aL H (ah.ca (x) (by intro k P;simp[P]));refine o.al ?_;refine F _ _ ?_;refine G.ret (Q ?_);exact⟨_,_,rfl,d,L,i⟩
set_option maxHeartbeats 2000000 in
theorem Cl(bb:Int)(K:List Nat)(g:ct)(b:Nat)(D:aE)(c aZ:Nat)(p:aJ)(n:Nat)(br:Bool)(cB:Nat)(w0:World)(J:Heap)
 (i:bg K g J b D) (aI:dP bb J) (M:bk (fun b=>b=0) J.size) (c6:ay (fun b=>b=0) K) (av:Var 103 J c [ptr aZ]) (d:Var 206 J aZ [ptr b,aK p,.int .i64 (n:Int),.bool br]) (dW:ag (c+1) K) (dl:ag (aZ+1) K) (A:Var 9 J cB [aK (cu p)]) (d7:ag (cB+1) K) (Z:p.length≤4294960000) (N:gw 274877906944 D):
 aG Tryz.prog w0 173 #[ptr c,ptr cB] J (fun r q=>∃bl:List Nat,∃g2:ct,r= .int .i64 ((D.rename (cu p) p).1:Int)∧(bg bl g2 q b (D.rename (cu p) p).2)∧(aT K J.size bl)∧W (aB K) J q):=by
 refine aG.aN [ptr c,ptr cB] Tryz.func173 ?_;intro R Q;have j:W (aB K) J J:=W.refl _ _;have x:=aT.refl K J.size;have T:=i.aD;have U:=av.lt;have ac:=d.lt;have ad:=A.lt;refine G.L (fun E=>?_);refine o.al ?_;refine E (G.seq (fun bl F _=>?_));refine G.jq 9 rfl (by kernel_rfl) (fun S O=>?_);refine o.v1 (au av.O hg) ?_;refine o.bG ?_;refine o.v1 (Y.an d.O rfl gj rfl l3) ?_;refine o.v1 (au d.O lJ) ?_;refine o.v1 (au A.O bR) ?_;refine o.v1 (au av.O hg) ?_;refine o.bG ?_;refine o.v1 (Y.an d.O rfl gj rfl bV) ?_;refine o.v1 (au (d.O.drop 1) bR) ?_;refine o.nil (O _ ?_);refine aV A6 (FQ bb K g b D (cu p) p w0 _ i aI (M.mono (by omega)) (c6) (by rw[o9];omega) (by omega) N) (fun am X H=>?_);obtain⟨L,ap,rfl,i,B,C⟩:=H;have aw:aT K J.size L:=aT.L (x) B j.size;have j:=j.aL C (ah.ca (x) (by intro k P;simp[P]));refine o.al ?_;refine F _ _ ?_;refine G.ret (Q ?_);exact⟨_,_,rfl,i,aw,j⟩
set_option maxHeartbeats 2000000 in
theorem Cm(bb:Int)(K:List Nat)(g:ct)(b:Nat)(D:aE)(c aZ:Nat)(p:aJ)(n:Nat)(br:Bool)(w0:World)(J:Heap)
 (x:bg K g J b D) (aI:dP bb J) (N:bk (fun b=>b=0) J.size) (c6:ay (fun b=>b=0) K) (av:Var 103 J c [ptr aZ]) (C:Var 206 J aZ [ptr b,aK p,.int .i64 (n:Int),.bool br]) (dW:ag (c+1) K) (dl:ag (aZ+1) K) (ar:p.length≤4294960000) (U:gw 274877906944 D):
 aG Tryz.prog w0 175 #[ptr c] J (fun r H=>∃bl:List Nat,∃g2:ct,r= .int .i64 ((D.h5 (ck p)).1:Int)∧(bg bl g2 H b (D.h5 (ck p)).2)∧(aT K J.size bl)∧W (aB K) J H):=by
 refine aG.aN [ptr c] Tryz.func175 ?_;intro Z X;have A:W (aB K) J J:=W.refl _ _;have L:=aT.refl K J.size;have ab:=x.aD;have ae:=av.lt;have aa:=C.lt;refine G.L (fun O=>?_);refine o.al ?_;refine O (G.seq (fun bl ap _=>?_));refine dg (fun j=>W (aB K) J j) [] ?_;have d:W (aB K) J J:=W.refl _ _;have P:=aT.refl K J.size;refine T.t1 0 rfl (fun j i=>Y.fM (av.ae i (dW)).O rfl hg rfl) d ?_;refine T.bG 1 rfl d ?_;refine T.t1 2 rfl (fun j i=>Y.fieldAddr (C.ae i (dl)).O rfl gj rfl rfl l3 (by decide) rfl) d ?_;refine T.t1 3 rfl (fun j i=>Y.fM (C.ae i (dl)).O rfl lJ rfl) d ?_;refine T.t1 4 rfl (fun j i=>Y.fM (av.ae i (dW)).O rfl hg rfl) d ?_;refine T.bG 5 rfl d ?_;refine T.t1 6 rfl (fun j i=>Y.fieldAddr (C.ae i (dl)).O rfl gj rfl rfl bV (by decide) rfl) d ?_;refine T.t1 7 rfl (fun j i=>au ((C.ae i (dl)).O.drop 1) bR) d ?_;refine T.aX 8 ?_;refine b7 nh (nj bb p w0 _ aI (N.mono (by omega)) (by omega)) (fun af B Q=>?_);obtain⟨rfl,ac⟩:=Q;have x:=x.N ac;have aI:=aI.N ac;have A:=A.a8 ac;have d:=d.a8 ac;have ai:=ac.size;refine⟨.inr d,T.narrow (SH2:=fun j=>W (aB K) B j) (fun j i=>d.aL i (ah.ca (P) (by intro k q;simp[q]))) ?_⟩;have d:W (aB K) B B:=W.refl _ _;have am:=aT.refl K B.size;refine T.aX 9 ?_;refine b7 A8 (G3 bb K g b D (ck p) w0 _ x aI (N.mono (by omega)) (c6) (by have:=Cp p;omega) U) (fun al F R=>?_);obtain⟨E,an,rfl,x,ad,M⟩:=R;have S:aT K J.size E:=aT.L (L) ad A.size;have aw:aT K B.size E:=aT.L (am) ad d.size;have A:=A.aL M (ah.ca (L) (by intro k q;simp[q]));have d:=d.aL M (ah.ca (am) (by intro k q;simp[q]));refine⟨.inr d,T.narrow (SH2:=fun j=>W (aB E) F j) (fun j i=>d.aL i (ah.ca (aw) (by intro k q;simp[q]))) ?_⟩;have d:W (aB E) F F:=W.refl _ _;refine T.t1 10 rfl (fun j i=>e5) d ?_;refine cI ?_;refine ap _ _ ?_;refine G.ret (X ?_);exact⟨_,_,rfl,x,S,A⟩
end j8

namespace kr
open E Go.RowKit eM e7 fx fS gm gN gX hf ho hI hJ iO jg j7 j8
set_option maxRecDepth 100000 in
theorem sv:c3 Tryz.prog 291 230 1 8:=⟨Tryz.underlying291,_,_,rfl,rfl,rfl,rfl,rfl⟩
section
variable {w0 : World} {K : List Nat} {H : Heap} {bb : Int} {b c aZ n du cB bW : Nat} {p : aJ} {br : Bool} {s : aO} {F : Nat → Prop} {D : aE}
theorem B9{l:List (aO×Rec)}(d:ma K H bb b c aZ p n br)(j:k4 K H 9 cB [aK (cu p)])(q:k4 K H 104 du [s.v])(k:mc K F H hU s.v l)(L:∀x∈l,Rd F H a6 1 x.1.v x.2)
 (J:∀x∈l,x.2.length≤1048576) (E:(eV 0 (cz l)).length≤274877900000) (B:p.length≤4294960000) (C:bA bW D) (N:bW+4*((cC (cz l)).length+20)≤536870912):
 ∀(i:Nat) (h:i<([(169,[ptr c,ptr cB,ptr du]),(172,[ptr c,ptr cB]),(173,[ptr c,ptr cB]),(175,[ptr c])]:List jx).length) (ga:List Nat) (o:ct) (ab:Heap),bg ga o ab b (cR ((iS p (cz l)).take i) D).2→aT K H.size ga→W (aB K) H ab→
  ru w0 b (pt (iS p (cz l)) i) (.func (.func ([(169,[ptr c,ptr cB,ptr du]),(172,[ptr c,ptr cB]),(173,[ptr c,ptr cB]),(175,[ptr c])]:List jx)[i].1) #[] ([(169,[ptr c,ptr cB,ptr du]),(172,[ptr c,ptr cB]),(173,[ptr c,ptr cB]),(175,[ptr c])]:List jx)[i].2.toArray) ga ab (cR ((iS p (cz l)).take i) D).2:=by
 intro i G ga o ab A cV hm;have r:gw 274877906944 (cR ((iS p (cz l)).take i) D).2:=(uS i (wu p (cz l)) C).bT (by have:(iS p (cz l)).length=4:=rfl;rw[this];omega);have d:=d.up hm cV;have j:=j.up hm cV;have q:=q.up hm cV;have M:∀x∈l,Rd F ab a6 1 x.1.v x.2:=fun x h=>(L x h).ae hm k.gB;have k:=k.up hm cV
 match i,G with
 |0,_=>exact gx.of (caps:=[ptr c,ptr cB,ptr du]) (args:=[]) A1 (Co bb ga o b _ c aZ p n br cB du s l F w0 _ A d.aI d.ku d.c6 d.cZ d.dG d.dW d.dl j.v j.d q.v q.d k.rd k.b5 k.gB M k.b5 k.gB J E B r)
 |1,_=>exact gx.of (caps:=[ptr c,ptr cB]) (args:=[]) A4 (Cn bb ga o b _ c aZ p n br cB w0 _ A d.aI d.ku d.c6 d.cZ d.dG d.dW d.dl j.v j.d B r)
 |2,_=>exact gx.of (caps:=[ptr c,ptr cB]) (args:=[]) A5 (Cl bb ga o b _ c aZ p n br cB w0 _ A d.aI d.ku d.c6 d.cZ d.dG d.dW d.dl j.v j.d B r)
 |3,_=>exact gx.of (caps:=[ptr c]) (args:=[]) A7 (Cm bb ga o b _ c aZ p n br w0 _ A d.aI d.ku d.c6 d.cZ d.dG d.dW d.dl B r)
theorem zT{rc:Rec}(d:ma K H bb b c aZ p n br)(o:k4 K H 57 du [s.v])(k:mc K F H a6 s.v rc)(E:rc.length≤1048576)(C:p.length≤4294960000)(x:bA bW D)(B:bW+4*(rc.length+20)≤536870912):
 ∀(i:Nat) (h:i<([(109,[ptr c,ptr du]),(106,[ptr c]),(112,[ptr c]),(106,[ptr c])]:List jx).length) (ga:List Nat) (j:ct) (ab:Heap),bg ga j ab b (cR ((gO p n rc).take i) D).2→aT K H.size ga→W (aB K) H ab→
  ru w0 b (pt (gO p n rc) i) (.func (.func ([(109,[ptr c,ptr du]),(106,[ptr c]),(112,[ptr c]),(106,[ptr c])]:List jx)[i].1) #[] ([(109,[ptr c,ptr du]),(106,[ptr c]),(112,[ptr c]),(106,[ptr c])]:List jx)[i].2.toArray) ga ab (cR ((gO p n rc).take i) D).2:=by
 intro i A ga j ab r cV hm;have q:gw 274877906944 (cR ((gO p n rc).take i) D).2:=(uS i (rL p n rc) x).bT (by have:(gO p n rc).length=4:=rfl;rw[this];omega);have d:=d.up hm cV;have o:=o.up hm cV;have k:=k.up hm cV
 match i,A with
 |0,_=>exact gx.of (caps:=[ptr c,ptr du]) (args:=[]) AF (zN bb ga j b _ c aZ p n br du s rc F w0 _ r d.aI d.ku d.c6 d.cZ d.dG d.dW d.dl o.v o.d k.rd k.b5 k.gB (by omega) (by omega) q)
 |1,_=>exact gx.of (caps:=[ptr c]) (args:=[]) uV (uF bb ga j b _ c aZ p n br w0 _ r d.aI d.ku d.c6 d.cZ d.dG d.dW d.dl (by omega) q)
 |2,_=>exact gx.of (caps:=[ptr c]) (args:=[]) AH (zP bb ga j b _ c aZ p n br w0 _ r d.aI d.ku d.c6 d.cZ d.dG d.dW d.dl (by omega) q)
 |3,_=>exact gx.of (caps:=[ptr c]) (args:=[]) uV (uF bb ga j b _ c aZ p n br w0 _ r d.aI d.ku d.c6 d.cZ d.dG d.dW d.dl (by omega) q)
end
theorem mw(b:List UInt8):(eV 0 (dS b)).length≤b.length∧(cC (dS b)).length≤b.length+8:=by
 by_cases h:gq b=0
 ·obtain⟨t,e,_⟩:=Fj h
  have V:=congrArg List.length e;rw[List.length_append]at V;unfold cC at V⊢;rw[List.length_append]at V⊢;omega
 ·have:dS b=[]:=by unfold gq at h;unfold dS;split at h;exact absurd rfl h;rename_i d;rw[if_neg d]
  rw[this];simp[eV,cC,gy]
theorem r9(l:List Rec)(n:Nat):(eV 0 (l.take n)).length≤(eV 0 l).length:=by
 conv=>rhs;rw[←List.take_append_drop n l,oK]
 rw[List.length_append];omega
def gh(D:aE)(p:aJ)(n:Nat):Nat×aE:=if D.eQ p≠0 then(D.eQ p,D)else if gq (D.ch p)≠0 then(gq (D.ch p),D)else eD D p ((dS (D.ch p)).take n)
def nK(D:aE)(p:aJ)(n:Nat):Nat:=((dS (D.ch p)).take n).length
def mF(e m n:Nat):Nat:=if e=0 then m else n
def nH(e:Nat)(br:Bool):Bool:=if e=0 then false else br
def hZ(D:aE)(p:aJ)(n:Nat)(br:Bool):Nat×Nat×aE:=if br=true then((gh D p n).1,nK D p n,(gh D p n).2)else(0,n,D)
def ej(D:aE)(p:aJ)(n:Nat)(br:Bool)(r:Rec):Nat×Nat×Bool×aE:=
 if(hZ D p n br).1≠0 then((hZ D p n br).1,n,br,(hZ D p n br).2.2)
 else
  let q:=cR (gO p (hZ D p n br).2.1 r) (hZ D p n br).2.2
  (q.1,if q.1=0 then(hZ D p n br).2.1+1 else(hZ D p n br).2.1,if q.1=0 then false else true,q.2)
theorem uQ{bW:Nat}{D:aE}(h:bA bW D)(p:aJ)(n:Nat):bA (bW+4*(bW+28)) (gh D p n).2:=by
 unfold gh;split
 ·exact h.mono (by omega)
 ·split
  ·exact h.mono (by omega)
  ·refine(pX h p _).mono ?_
   have d:=(mw (D.ch p)).1;have V:=r9 (dS (D.ch p)) n
   have i:(D.ch p).length≤bW:=by
    unfold aE.ch aE.c_;split
    ·split
     ·exact(h.f _).1
     ·exact Nat.zero_le _
    ·exact Nat.zero_le _
   have j:gy.length=8:=rfl;unfold cC;rw[List.length_append];omega
theorem nU{bW:Nat}{D:aE}(h:bA bW D)(p:aJ):(D.ch p).length≤bW:=by
 unfold aE.ch aE.c_;split
 ·split
  ·exact(h.f _).1
  ·exact Nat.zero_le _
 ·exact Nat.zero_le _
theorem Au{bW:Nat}{D:aE}(h:bA bW D)(p:aJ)(n:Nat)(br:Bool)(r:Rec):bA (bW+4*(bW+28)+4*(r.length+20)) (ej D p n br r).2.2.2:=by
 have d:bA (bW+4*(bW+28)) (hZ D p n br).2.2:=by
  unfold hZ;split
  ·exact uQ h p n
  ·exact h.mono (by omega)
 unfold ej;split
 ·exact d.mono (by omega)
 ·exact(oz (rL p _ r) d).mono (by simp[gO];omega)
theorem r1(bb:Int)(K:List Nat)(g:ct)(b:Nat)(D:aE)(aZ:Nat)(p:aJ)(n:Nat)(br:Bool)(s:aO)(l:List (aO×Rec))(F:Nat→Prop)(bW:Nat)(w0:World)(J:Heap)
 (j:bg K g J b D) (aI:dP bb J) (a8:bk (fun b=>b=0) J.size) (c6:ay (fun b=>b=0) K) (d:Var 206 J aZ [ptr b,aK p,.int .i64 (n:Int),.bool br]) (dl:ag (aZ+1) K) (c7:ax (fun b=>b=0) (aZ+1)) (B:Rd F J hU 1 s.v l) (a7:bk F J.size) (a_:ay F K) (N:∀x∈l,Rd F J a6 1 x.1.v x.2) (b2:bk F J.size) (c3:ay F K) (bd:∀x∈l,x.2.length≤1048576) (cp:(eV 0 (cz l)).length≤274877900000) (cl:ax F (aZ+1)) (c5:ax F (aZ+1)) (cr:p.length≤4294960000) (cm:bA bW D) (cn:bW+4*((cC (cz l)).length+20)≤536870912) (c_:l.length≤1073741824):
 aG Tryz.prog w0 90 #[ptr aZ,s.v] J (fun r M=>∃bl:List Nat,∃g2:ct,r= .int .i64 ((eD D p (cz l)).1:Int)∧(bg bl g2 M b (eD D p (cz l)).2)∧(aT K J.size bl)∧(Var 206 M aZ [ptr b,aK p,.int .i64 (mF (eD D p (cz l)).1 l.length n:Int),.bool (nH (eD D p (cz l)).1 br)])∧(ag (aZ+1) bl)∧W (aB (K++[(aZ+1)])) J M):=by
 refine aG.aN [ptr aZ,s.v] Tryz.func90 ?_;intro cy bc;have q:W (aB (K++[(aZ+1)])) J J:=W.refl _ _;have aM:=aT.refl K J.size;have bY:=j.aD;have aL:=U.refl (aZ+1) J.size;have cD:=d.lt;refine G.L (fun a5=>?_);refine o.aS (Z.nc rfl rfl (rfl)) ?_;rintro v2 M ⟨rfl,A,aa,c1,bm⟩;have cA:M.size=J.size+1:=by rw[bm];simp
 have a0:ag (J.size+1) K:=ag.gG j.aD;have cg:af (aZ+1) (J.size+1):=af.new d.lt;have j:=j.N aa;have aI:=aI.N aa;have d:=d.N aa;have B:=B.N aa;have N:=fun x P=>(N x P).N aa;have q:=q.a8 aa;have c2:=aa.size;have A:Var 103 M J.size ([ptr aZ]):=A;refine o.aS (Z.nc rfl rfl ((B).pb)) ?_;rintro v3 ar ⟨rfl,E,ap,cE,bn⟩;have a9:ar.size=M.size+1:=by rw[bn];simp
 have a2:ag (M.size+1) K:=ag.gG j.aD;have bX:af (aZ+1) (M.size+1):=af.new d.lt;have j:=j.N ap;have aI:=aI.N ap;have d:=d.N ap;have B:=B.N ap;have N:=fun x P=>(N x P).N ap;have A:=A.N ap;have q:=q.a8 ap;have cG:=ap.size;have E:Var 104 ar M.size ([s.v]):=E;refine o.al ?_;refine a5 (G.seq (fun bl bZ _=>G.L (fun b0=>?_)));refine o.v1 (au E.O rG) ?_;refine o.v1 (bf B hR) ?_;refine o.aa (o.nil (b0 ?_));refine G.aD (fun _ b1 _=>?_)
 refine G.bc (fun(i:(Nat))=>[(2,.pointer (some ⟨J.size,0,none⟩)),(3,.pointer (some ⟨M.size,0,none⟩)),(9,s.v),(10,.int .i64 (l.length:Int)),(11,.int .i64 (i:Int))])
  (fun(i:(Nat)) (H:Heap)=>(i≤l.length)∧aq ar H)
  (fun(i:(Nat))=>l.length-i) 0 ⟨rfl,rfl,rfl,rfl,rfl,trivial⟩ ?_ ?_
 ·
  exact⟨(by omega),W.refl _ _⟩
 intro i C bT cx be b5;obtain⟨c9,Q⟩:=bT;have j:=j.N Q;have aI:=aI.N Q;have d:=d.N Q;have B:=B.N Q;have N:=fun x P=>(N x P).N Q;have A:=A.N Q;have E:=E.N Q;have q:=q.a8 Q;have cH:=Q.size;refine G.L (fun b3=>?_);refine o.v1 bH (o.nil (b3 ?_));refine G.t2 (fun b7 bi=>?_);refine aW (fun b8=>?_) (fun b8=>?_)
 ·
  have ba:i<l.length:=by omega
  have cv:=N l[i] (List.getElem_mem ba);have da:=bd l[i] (List.getElem_mem ba);refine G.skip (b7 (G.t1 (fun b9=>G.aD (fun ca _ _=>G.L (fun bq=>?_)))));refine o.b1 (Y.bU B (i) rfl hR c8 rfl rfl) fun cY bs=>?_;refine o.v1 (au bs.O eI) ?_;refine o.al ?_;refine bq (G.L (fun bt=>?_));refine o.aa ?_;refine o.v1 (bf cv dj) ?_;refine o.v1 ((eX).fC (by omega)) (o.nil (bt ?_));refine dK ?_;refine G.skip (ca (b9 (G.region ?_)));refine o.v1 bD ?_;refine o.aa (o.nil ?_);refine aR.sub (be (i+1) _ ?_ ?_) ⟨rfl,rfl,rfl,(aF (by omega)),(aF (by omega)),trivial⟩
  ·exact⟨(by omega),Q⟩
  ·first|omega|(simp only;omega)|(simp;omega)
 ·
  refine G.exit (bi (b5 (b1 ?_)));refine bZ _ _ (G.L (fun bu=>?_));refine o.v1 (au A.O hg) ?_;refine o.bG ?_;refine o.v1 (Y.an d.O rfl gj rfl bV) ?_;refine o.v1 (au (d.O.drop 1) bR) ?_;refine o.v1 (Y.cast (v2:=aK (cu p)) (Y.q5 rfl rfl rfl (by simp only[List.length_cons,List.length_nil];omega)) (rfl)) ?_;refine o.aS (dk HQ) ?_;rintro db aC ⟨rfl,ab,am,cJ,cc⟩;have cZ:aC.size=C.size+1:=by rw[cc];simp
  have aP:ag (C.size+1) K:=ag.gG j.aD;have bw:=(ax.new (a8.mono q.size):ax _ (C.size+1));have bx:af (aZ+1) (C.size+1):=af.new d.lt;have bz:=(ax.new (a7.mono q.size):ax _ (C.size+1));have bB:=(ax.new (b2.mono q.size):ax _ (C.size+1));have bE:af (J.size+1) (C.size+1):=af.new A.lt;have bF:af (M.size+1) (C.size+1):=af.new E.lt;have bJ:U 0 J.size (C.size+1):=U.new q.size;have j:=j.N am;have aI:=aI.N am;have d:=d.N am;have B:=B.N am;have N:=fun x P=>(N x P).N am;have A:=A.N am;have E:=E.N am;have q:=q.a8 am;have cK:=am.size;have ab:Var 9 aC C.size ([aK []]):=ab;refine o.s1 (dL ab 0 ([aK (cu p)]) (rfl) bV (by simp) (rfl)) fun aQ bK=>?_;obtain⟨ab,O⟩:=bK;have O:=O.bB;have j:=j.ae O (dr.cons aP dr.nil);have aI:=aI.ae O (ay.I bw);have d:=d.ae O (ag.I bx);have B:=B.ae O (ay.I bz);have N:=fun x P=>(N x P).ae O (ay.I bB);have A:=A.ae O (ag.I bE);have E:=E.ae O (ag.I bF);have q:=q.aL O (ah.I (ao.q bJ));have cL:=O.size;refine o.nil (bu (G.L (fun bL=>?_)));refine o.v1 (Y.makeFunc rfl rfl) ?_;refine o.v1 (Y.makeFunc rfl rfl) ?_;refine o.v1 (Y.makeFunc rfl rfl) ?_;refine o.v1 (Y.makeFunc rfl rfl) ?_;refine o.aS (cS _ (([(169,[ptr J.size,ptr C.size,ptr M.size]),(172,[ptr J.size,ptr C.size]),(173,[ptr J.size,ptr C.size]),(175,[ptr J.size])]:List jx)) sv vT vU (rfl)) fun cd cf cj=>?_;obtain⟨aS,R,c0,bM⟩:=cj;have a3:cf.size=aQ.size+1:=by rw[bM];simp
  have bN:ag (aQ.size+1) K:=ag.gG j.aD;have j:=j.N R;have aI:=aI.N R;have d:=d.N R;have B:=B.N R;have N:=fun x P=>(N x P).N R;have A:=A.N R;have E:=E.N R;have ab:=ab.N R;have q:=q.a8 R;have cO:=R.size;refine aV uX (we K g b D cd [(169,[ptr J.size,ptr C.size,ptr M.size]),(172,[ptr J.size,ptr C.size]),(173,[ptr J.size,ptr C.size]),(175,[ptr J.size])] (iS p (cz l)) _ w0 _ j aS.rd (bk.of aS.le) (ay.of (bN)) rfl (B9 (ma.mk aI (a8.mono (by omega)) (c6) A d (a0) (dl)) (k4.mk ab (aP)) (k4.mk E (a2)) (mc.mk B (a7.mono (by omega)) (a_)) N bd cp cr cm cn)) (fun cP al bv=>?_);have bO:=d.lt;obtain⟨a4,cQ,rfl,j,aN,aw⟩:=bv;have an:ag (aZ+1) a4:=ag.ee (dl) bO aN;have aX:aT K J.size a4:=aT.L (aM) aN q.size;have d:=d.ae aw (dl);have B:=B.ae aw (a_);have A:=A.ae aw (a0);have E:=E.ae aw (a2);have q:=q.aL aw (ah.ca (aM) (by intro k cq;simp[cq]));have cV:=aw.size;have bY:=j.aD;refine o.al ?_;refine bL (G.t1 (fun a1=>G.L (fun bP=>?_)));refine o.aa ?_;refine o.v1 cb (o.nil (bP ?_));refine aW (fun ck=>?_) (fun ck=>?_)
  ·
   refine dg (fun X=>W (aB [(aZ+1)]) al X) [] ?_;have L:W (aB [(aZ+1)]) al al:=W.refl _ _;have aD:=U.refl (aZ+1) al.size;refine T.t1 0 rfl (fun X S=>Y.fM (A.ae S (ag.I cg.symm)).O rfl hg rfl) L ?_;refine T.t1 1 rfl (fun X S=>Y.fM (A.ae S (ag.I cg.symm)).O rfl hg rfl) L ?_;refine T.t1 2 rfl (fun X S=>Y.fM (E.ae S (ag.I bX.symm)).O rfl rG rfl) L ?_;refine T.t1 3 rfl (fun X S=>bf (B.ae S (ay.I cl)) hR) L ?_;refine T.bG 4 rfl L ?_;refine T.t1 5 rfl (fun X S=>Y.wb d.O rfl gj rfl rfl b6 (by decide) rfl) L ?_;refine T.aX 6 ?_;refine gW rfl (dL d 2 ([ptr b,aK p,.int .i64 (l.length:Int),.bool br]) (rfl) b6 (by simp) (rfl)) (fun az bo=>?_);obtain⟨d,ac⟩:=bo;have ac:=ac.bB;have j:=j.ae ac (dr.cons an dr.nil);have q:=q.aL ac (ah.I (ao.r aL));have L:=L.aL ac (ah.I (ao.r aD));have cW:=ac.size;refine T.bZ L (ah.I (ao.r aD)) ?_;have L:W (aB [(aZ+1)]) az az:=W.refl _ _;have aH:=U.refl (aZ+1) az.size;refine T.bG 7 rfl L ?_;refine T.t1 8 rfl (fun X S=>Y.wb d.O rfl gj rfl rfl dz (by decide) rfl) L ?_;refine T.aX 9 ?_;refine gW rfl (dL d 3 ([ptr b,aK p,.int .i64 (l.length:Int),.bool false]) (rfl) dz (by simp) (rfl)) (fun cB bp=>?_);obtain⟨d,ae⟩:=bp;have ae:=ae.bB;have j:=j.ae ae (dr.cons an dr.nil);have q:=q.aL ae (ah.I (ao.r aL));have L:=L.aL ae (ah.I (ao.r aH));have cX:=ae.size;refine T.bZ L (ah.I (ao.r aH)) ?_;refine cI ?_;refine a1 (G.L (fun bQ=>?_));refine o.aP 2 ?_;refine bQ ?_;refine G.ret (bc ?_);have ai:(cR (iS p (cz l)) D).1=0:=by omega
   exact⟨_,_,rfl,j,aX,by unfold mF nH eD;rw[if_pos ai,if_pos ai];exact d,an,q⟩
  ·
   refine G.skip (a1 (G.L (fun bU=>?_)));refine o.aP 2 ?_;refine bU ?_;refine G.ret (bc ?_);have ai:(cR (iS p (cz l)) D).1≠0:=by omega
   exact⟨_,_,rfl,j,aX,by unfold mF nH eD;rw[if_neg ai,if_neg ai];exact d,an,q⟩
end kr
end Go.Proofs.YtfjmpninmdjcaaaGreatDoor
