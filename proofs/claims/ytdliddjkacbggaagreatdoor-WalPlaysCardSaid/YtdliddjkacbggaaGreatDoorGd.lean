/-
  Contracts of functions of the program, and plain laws: put together of several texts.
-/
import Derived.Test.YtdliddjkacbggaaGreatDoorGc
import Derived.Test.YtdliddjkacbggaaGreatDoorGa
set_option linter.unusedVariables false
set_option linter.unusedSimpArgs false
set_option linter.unusedSectionVars false
set_option linter.defProp false
set_option maxHeartbeats 8000000
set_option maxRecDepth 20000
namespace Go.Proofs.YtdliddjkacbggaaGreatDoor

namespace WalE
open E Go.RowKit SimA SimB SimC SimD SimE SimF SimG SimH SimI SimQ SimR WalA WalB WalC WalD
set_option maxRecDepth 100000 in
theorem inf146:Inf Tryz.prog 146 79 1 8:=⟨Tryz.underlying146,_,_,rfl,rfl,rfl,rfl,rfl⟩
section
variable {w0 : World} {K : List Nat} {H : Heap} {mx_ : Int} {b c lb n c3 c7 N : Nat} {p : Pth} {br : Bool} {s : SV} {F : Nat → Prop} {D : Dk}
theorem ck_steps{l:List (SV×Rec)}(hS:LgS K H mx_ b c lb p n br)(h7:VaS K H 9 c7 [Str (newP p)])(h3:VaS K H 22 c3 [s.v])(hr:RwS K F H fP s.v l)(hx:∀x∈l,Rd F H fB 1 x.1.v x.2)
 (hrl:∀x∈l,x.2.length≤1048576) (hel:(encN 0 (recs l)).length≤274877900000) (hl:p.length≤4294960000) (hB:Bs N D) (hN:N+4*((encW (recs l)).length+20)≤536870912):
 ∀(i:Nat) (h:i<([(44,[ptr c,ptr c7,ptr c3]),(47,[ptr c,ptr c7]),(48,[ptr c,ptr c7]),(50,[ptr c])]:List FnV).length) (K':List Nat) (g':Gh) (H':Heap),PDk K' g' H' b (runD ((frS p (recs l)).take i) D).2→NxK K H.size K'→Mo (Ms K) H H'→
  CloD w0 b (stp (frS p (recs l)) i) (.func (.func ([(44,[ptr c,ptr c7,ptr c3]),(47,[ptr c,ptr c7]),(48,[ptr c,ptr c7]),(50,[ptr c])]:List FnV)[i].1) #[] ([(44,[ptr c,ptr c7,ptr c3]),(47,[ptr c,ptr c7]),(48,[ptr c,ptr c7]),(50,[ptr c])]:List FnV)[i].2.toArray) K' H' (runD ((frS p (recs l)).take i) D).2:=by
 intro i hi K' g' H' hf hK hm;have hB2:Bd 274877906944 (runD ((frS p (recs l)).take i) D).2:=(bs_runT i (frS_bs p (recs l)) hB).bd (by have:(frS p (recs l)).length=4:=rfl;rw[this];omega);have hS:=hS.up hm hK;have h7:=h7.up hm hK;have h3:=h3.up hm hK;have hx2:∀x∈l,Rd F H' fB 1 x.1.v x.2:=fun x h=>(hx x h).upL hm hr.df;have hr:=hr.up hm hK
 match i,hi with
 |0,_=>exact Clo.of (caps:=[ptr c,ptr c7,ptr c3]) (args:=[]) c'44 (cwrite_ct mx_ K' g' b _ c lb p n br c7 c3 s l F w0 _ hf hS.mx hS.bmx hS.dmx hS.cv hS.lg hS.dc hS.dl h7.v h7.d h3.v h3.d hr.rd hr.bf hr.df hx2 hr.bf hr.df hrl hel hl hB2)
 |1,_=>exact Clo.of (caps:=[ptr c,ptr c7]) (args:=[]) c'47 (csync_ct mx_ K' g' b _ c lb p n br c7 w0 _ hf hS.mx hS.bmx hS.dmx hS.cv hS.lg hS.dc hS.dl h7.v h7.d hl hB2)
 |2,_=>exact Clo.of (caps:=[ptr c,ptr c7]) (args:=[]) c'48 (cren_ct mx_ K' g' b _ c lb p n br c7 w0 _ hf hS.mx hS.bmx hS.dmx hS.cv hS.lg hS.dc hS.dl h7.v h7.d hl hB2)
 |3,_=>exact Clo.of (caps:=[ptr c]) (args:=[]) c'50 (csd_ct mx_ K' g' b _ c lb p n br w0 _ hf hS.mx hS.bmx hS.dmx hS.cv hS.lg hS.dc hS.dl hl hB2)
theorem ap_steps{rc:Rec}(hS:LgS K H mx_ b c lb p n br)(h3:VaS K H 34 c3 [s.v])(hr:RwS K F H fB s.v rc)(hrl:rc.length≤1048576)(hl:p.length≤4294960000)(hB:Bs N D)(hN:N+4*(rc.length+20)≤536870912):
 ∀(i:Nat) (h:i<([(32,[ptr c,ptr c3]),(29,[ptr c]),(35,[ptr c]),(29,[ptr c])]:List FnV).length) (K':List Nat) (g':Gh) (H':Heap),PDk K' g' H' b (runD ((apS p n rc).take i) D).2→NxK K H.size K'→Mo (Ms K) H H'→
  CloD w0 b (stp (apS p n rc) i) (.func (.func ([(32,[ptr c,ptr c3]),(29,[ptr c]),(35,[ptr c]),(29,[ptr c])]:List FnV)[i].1) #[] ([(32,[ptr c,ptr c3]),(29,[ptr c]),(35,[ptr c]),(29,[ptr c])]:List FnV)[i].2.toArray) K' H' (runD ((apS p n rc).take i) D).2:=by
 intro i hi K' g' H' hf hK hm;have hB2:Bd 274877906944 (runD ((apS p n rc).take i) D).2:=(bs_runT i (apS_bs p n rc) hB).bd (by have:(apS p n rc).length=4:=rfl;rw[this];omega);have hS:=hS.up hm hK;have h3:=h3.up hm hK;have hr:=hr.up hm hK
 match i,hi with
 |0,_=>exact Clo.of (caps:=[ptr c,ptr c3]) (args:=[]) c'32 (alay_ct mx_ K' g' b _ c lb p n br c3 s rc F w0 _ hf hS.mx hS.bmx hS.dmx hS.cv hS.lg hS.dc hS.dl h3.v h3.d hr.rd hr.bf hr.df (by omega) (by omega) hB2)
 |1,_=>exact Clo.of (caps:=[ptr c]) (args:=[]) c'29 (async_ct mx_ K' g' b _ c lb p n br w0 _ hf hS.mx hS.bmx hS.dmx hS.cv hS.lg hS.dc hS.dl (by omega) hB2)
 |2,_=>exact Clo.of (caps:=[ptr c]) (args:=[]) c'35 (amark_ct mx_ K' g' b _ c lb p n br w0 _ hf hS.mx hS.bmx hS.dmx hS.cv hS.lg hS.dc hS.dl (by omega) hB2)
 |3,_=>exact Clo.of (caps:=[ptr c]) (args:=[]) c'29 (async_ct mx_ K' g' b _ c lb p n br w0 _ hf hS.mx hS.bmx hS.dmx hS.cv hS.lg hS.dc hS.dl (by omega) hB2)
end
theorem encN_parL_le(b:List UInt8):(encN 0 (parL b)).length≤b.length∧(encW (parL b)).length≤b.length+8:=by
 by_cases h:parE b=0
 ·obtain⟨t,e,_⟩:=parL_pre h
  have h2:=congrArg List.length e;rw[List.length_append]at h2;unfold encW at h2⊢;rw[List.length_append]at h2⊢;omega
 ·have:parL b=[]:=by unfold parE at h;unfold parL;split at h;exact absurd rfl h;rename_i h8;rw[if_neg h8]
  rw[this];simp[encN,encW,W8]
theorem encN_sub(l:List Rec)(n:Nat):(encN 0 (l.take n)).length≤(encN 0 l).length:=by
 conv=>rhs;rw[←List.take_append_drop n l,encN_app]
 rw[List.length_append];omega
def mendD(D:Dk)(p:Pth)(n:Nat):Nat×Dk:=if D.readE p≠0 then(D.readE p,D)else if parE (D.readL p)≠0 then(parE (D.readL p),D)else freshD D p ((parL (D.readL p)).take n)
def mendN(D:Dk)(p:Pth)(n:Nat):Nat:=((parL (D.readL p)).take n).length
def lgN(e m n:Nat):Nat:=if e=0 then m else n
def lgB(e:Nat)(br:Bool):Bool:=if e=0 then false else br
def preD(D:Dk)(p:Pth)(n:Nat)(br:Bool):Nat×Nat×Dk:=if br=true then((mendD D p n).1,mendN D p n,(mendD D p n).2)else(0,n,D)
def appD(D:Dk)(p:Pth)(n:Nat)(br:Bool)(r:Rec):Nat×Nat×Bool×Dk:=
 if(preD D p n br).1≠0 then((preD D p n br).1,n,br,(preD D p n br).2.2)
 else
  let q:=runD (apS p (preD D p n br).2.1 r) (preD D p n br).2.2
  (q.1,if q.1=0 then(preD D p n br).2.1+1 else(preD D p n br).2.1,if q.1=0 then false else true,q.2)
theorem bs_mend{N:Nat}{D:Dk}(h:Bs N D)(p:Pth)(n:Nat):Bs (N+4*(N+28)) (mendD D p n).2:=by
 unfold mendD;split
 ·exact h.mono (by omega)
 ·split
  ·exact h.mono (by omega)
  ·refine(bs_fresh h p _).mono ?_
   have h1:=(encN_parL_le (D.readL p)).1;have h2:=encN_sub (parL (D.readL p)) n
   have h3:(D.readL p).length≤N:=by
    unfold Dk.readL Dk.wasL;split
    ·split
     ·exact(h.f _).1
     ·exact Nat.zero_le _
    ·exact Nat.zero_le _
   have h8:W8.length=8:=rfl;unfold encW;rw[List.length_append];omega
theorem readL_bd{N:Nat}{D:Dk}(h:Bs N D)(p:Pth):(D.readL p).length≤N:=by
 unfold Dk.readL Dk.wasL;split
 ·split
  ·exact(h.f _).1
  ·exact Nat.zero_le _
 ·exact Nat.zero_le _
theorem bs_app{N:Nat}{D:Dk}(h:Bs N D)(p:Pth)(n:Nat)(br:Bool)(r:Rec):Bs (N+4*(N+28)+4*(r.length+20)) (appD D p n br r).2.2.2:=by
 have h1:Bs (N+4*(N+28)) (preD D p n br).2.2:=by
  unfold preD;split
  ·exact bs_mend h p n
  ·exact h.mono (by omega)
 unfold appD;split
 ·exact h1.mono (by omega)
 ·exact(bs_run (apS_bs p _ r) h1).mono (by simp[apS];omega)
theorem ckpt_ct(mx_:Int)(K:List Nat)(g:Gh)(b:Nat)(D:Dk)(lb:Nat)(p:Pth)(n:Nat)(br:Bool)(s:SV)(l:List (SV×Rec))(F:Nat→Prop)(N:Nat)(w0:World)(H0:Heap)
 (hf:PDk K g H0 b D) (mx:MX mx_ H0) (bf_mx:BF (fun b=>b=0) H0.size) (dmx:DFL (fun b=>b=0) K) (hlg:Var 76 H0 lb [ptr b,Str p,.int .i64 (n:Int),.bool br]) (dl:DL (lb+1) K) (dmv:DF (fun b=>b=0) (lb+1)) (hr:Rd F H0 fP 1 s.v l) (bf_hr:BF F H0.size) (dfr:DFL F K) (hx:∀x∈l,Rd F H0 fB 1 x.1.v x.2) (bf_hx:BF F H0.size) (dfx:DFL F K) (hrl:∀x∈l,x.2.length≤1048576) (hel:(encN 0 (recs l)).length≤274877900000) (dlr:DF F (lb+1)) (dlx:DF F (lb+1)) (hl:p.length≤4294960000) (hB:Bs N D) (hN:N+4*((encW (recs l)).length+20)≤536870912) (hml:l.length≤1073741824):
 Ct Tryz.prog w0 16 #[ptr lb,s.v] H0 (fun r H2=>∃K2:List Nat,∃g2:Gh,r= .int .i64 ((freshD D p (recs l)).1:Int)∧(PDk K2 g2 H2 b (freshD D p (recs l)).2)∧(NxK K H0.size K2)∧(Var 76 H2 lb [ptr b,Str p,.int .i64 (lgN (freshD D p (recs l)).1 l.length n:Int),.bool (lgB (freshD D p (recs l)).1 br)])∧(DL (lb+1) K2)∧Mo (Ms (K++[(lb+1)])) H0 H2):=by
 refine Ct.enter (args:=[ptr lb,s.v]) Tryz.func16 rfl rfl rfl ?_;intro Q0 hret;have hm0:Mo (Ms (K++[(lb+1)])) H0 H0:=Mo.refl _ _;have ai:=NxK.refl K H0.size;have ar:=hf.bk;have af:=Nx.refl (lb+1) H0.size;have aF:=hlg.lt;refine CW.sr (fun a5=>?_);refine LR.z1 (Z.boxv1 rfl rfl (rfl)) ?_;rintro v2 H2 ⟨rfl,hc2,au,bx,a6⟩;have a7:H2.size=H0.size+1:=by rw[a6];simp
 have a0:DL (H0.size+1) K:=DL.newK hf.bk;have a1:Dj (lb+1) (H0.size+1):=Dj.new hlg.lt;replace hf:=hf.nw au;replace mx:=mx.nw au;replace hlg:=hlg.nw au;replace hr:=hr.nw au;replace hx:=fun x hx_=>(hx x hx_).nw au;replace hm0:=hm0.trN au;have bz:=au.size;replace hc2:Var 30 H2 H0.size ([ptr lb]):=hc2;refine LR.z1 (Z.boxv1 rfl rfl ((hr).oneCell)) ?_;rintro v3 H3 ⟨rfl,hc3,ap,bA,a8⟩;have a9:H3.size=H2.size+1:=by rw[a8];simp
 have a2:DL (H2.size+1) K:=DL.newK hf.bk;have a_:Dj (lb+1) (H2.size+1):=Dj.new hlg.lt;replace hf:=hf.nw ap;replace mx:=mx.nw ap;replace hlg:=hlg.nw ap;replace hr:=hr.nw ap;replace hx:=fun x hx_=>(hx x hx_).nw ap;replace hc2:=hc2.nw ap;replace hm0:=hm0.trN ap;have bB:=ap.size;replace hc3:Var 22 H3 H2.size ([s.v]):=hc3;refine LR.an ?_;refine a5 _ _ (CW.seq (fun K2 ba _=>CW.sr (fun bb=>?_)));refine LR.v1 (Y.load1 hc3.pt rfl a'22 rfl) ?_;refine LR.v1 (Y.len hr rfl u'22 rfl) ?_;refine LR.m1 (LR.nil (bb _ _ ?_));refine CW.block (fun _ _ bc _=>?_)
 refine CW.loop (fun(i:(Nat))=>[(2,.pointer (some ⟨H0.size,0,none⟩)),(3,.pointer (some ⟨H2.size,0,none⟩)),(9,s.v),(10,.int .i64 (l.length:Int)),(11,.int .i64 (i:Int))])
  (fun(i:(Nat)) (H:Heap)=>(i≤l.length)∧Nw H3 H)
  (fun(i:(Nat))=>l.length-i) 0 ⟨rfl,rfl,rfl,rfl,rfl,trivial⟩ ?_ ?_
 ·
  exact⟨(by omega),Mo.refl _ _⟩
 intro i aj bd K5 be bf;obtain⟨hi,ag⟩:=bd;replace hf:=hf.nw ag;replace mx:=mx.nw ag;replace hlg:=hlg.nw ag;replace hr:=hr.nw ag;replace hx:=fun x hx_=>(hx x hx_).nw ag;replace hc2:=hc2.nw ag;replace hc3:=hc3.nw ag;replace hm0:=hm0.trN ag;have bC:=ag.size;refine CW.sr (fun bg=>?_);refine LR.v1 (Y.lss rfl rfl rfl) (LR.nil (bg _ _ ?_));refine CW.s2 (fun bh bi=>?_);refine CW.condp rfl (fun bj=>?_) (fun bj=>?_)
 ·
  have hil:i<l.length:=by omega
  have hxi:=hx l[i] (List.getElem_mem hil);have hri:=hrl l[i] (List.getElem_mem hil);refine CW.skip (bh _ _ (CW.s1 (fun bl=>CW.block (fun _ bm _ _=>CW.sr (fun aH=>?_)))));refine LR.e1 (g:=fun ad=> .pointer (some ad)) (Y.iF hr (i) rfl u'22 s'34 rfl rfl) fun bn aI=>?_;refine LR.v1 (Y.load1 aI.pt rfl a'34 rfl) ?_;refine LR.an ?_;refine aH _ _ (CW.sr (fun aJ=>?_));refine LR.m1 ?_;refine LR.v1 (Y.len hxi rfl u'34 rfl) ?_;refine LR.v1 ((Y.gtr rfl rfl rfl).isF (by omega)) (LR.nil (aJ _ _ ?_));refine CW.cond_f rfl ?_;refine CW.skip (bm _ _ (bl _ _ (CW.region ?_)));refine LR.v1 (Y.addi rfl rfl rfl (by omega)) ?_;refine LR.m1 (LR.nil ?_);refine QN.sub (be (i+1) _ ?_ ?_) ⟨rfl,rfl,rfl,(iv (by omega)),(iv (by omega)),trivial⟩
  ·exact⟨(by omega),ag⟩
  ·first|omega|(simp only;omega)|(simp;omega)
 ·
  refine CW.exit (bi (.exit 0) nofun _ _ (bf (.exit 0) nofun _ _ (bc _ _ ?_)));refine ba _ _ (CW.sr (fun aK=>?_));refine LR.v1 (Y.load1 hc2.pt rfl a'30 rfl) ?_;refine LR.n1 ?_;refine LR.v1 (Y.FA hlg.pt rfl u'76 rfl s'9) ?_;refine LR.v1 (Y.load1 (hlg.pt.drop 1) rfl a'9 rfl) ?_;refine LR.v1 (Y.cast (v2:=Str (newP p)) (Y.sadd rfl rfl rfl (by simp only[List.length_cons,List.length_nil];omega)) (rfl)) ?_;refine LR.z1 (Z.allocv rfl z'9) ?_;rintro v7 H7 ⟨rfl,hc7,am,bD,bo⟩;have bp:H7.size=aj.size+1:=by rw[bo];simp
  have av:DL (aj.size+1) K:=DL.newK hf.bk;have aL:=(DF.new (bf_mx.mono hm0.size):DF _ (aj.size+1));have aM:Dj (lb+1) (aj.size+1):=Dj.new hlg.lt;have aN:=(DF.new (bf_hr.mono hm0.size):DF _ (aj.size+1));have aO:=(DF.new (bf_hx.mono hm0.size):DF _ (aj.size+1));have aP:Dj (H0.size+1) (aj.size+1):=Dj.new hc2.lt;have aQ:Dj (H2.size+1) (aj.size+1):=Dj.new hc3.lt;have aR:Nx 0 H0.size (aj.size+1):=Nx.new hm0.size;replace hf:=hf.nw am;replace mx:=mx.nw am;replace hlg:=hlg.nw am;replace hr:=hr.nw am;replace hx:=fun x hx_=>(hx x hx_).nw am;replace hc2:=hc2.nw am;replace hc3:=hc3.nw am;replace hm0:=hm0.trN am;have bE:=am.size;replace hc7:Var 9 H7 aj.size ([Str []]):=hc7;refine LR.s1 (S.var1 hc7 0 ([Str (newP p)]) rfl rfl rfl (rfl) s'9 (by simp) (rfl)) fun aw aS=>?_;obtain⟨hc7,aa⟩:=aS;replace aa:=aa.md1;replace hf:=hf.upL aa (DKL.cons av DKL.nil);replace mx:=mx.upL aa (DFL.o aL);replace hlg:=hlg.upL aa (DL.o aM);replace hr:=hr.upL aa (DFL.o aN);replace hx:=fun x hx_=>(hx x hx_).upL aa (DFL.o aO);replace hc2:=hc2.upL aa (DL.o aP);replace hc3:=hc3.upL aa (DL.o aQ);replace hm0:=hm0.trL aa (MIL.o (MI.q aR));have bF:=aa.size;refine LR.nil (aK _ _ (CW.sr (fun aT=>?_)));refine LR.v1 (Y.makeFunc rfl rfl) ?_;refine LR.v1 (Y.makeFunc rfl rfl) ?_;refine LR.v1 (Y.makeFunc rfl rfl) ?_;refine LR.v1 (Y.makeFunc rfl rfl) ?_;refine LR.z1 (Z.litw _ (([(44,[ptr H0.size,ptr aj.size,ptr H2.size]),(47,[ptr H0.size,ptr aj.size]),(48,[ptr H0.size,ptr aj.size]),(50,[ptr H0.size])]:List FnV)) rfl inf146 rfl rfl rfl (by decide) (by decide) fFn_len fFn_one (rfl)) fun bq bs bt=>?_;obtain⟨ax,ah,bu,aU⟩:=bt;have a3:bs.size=aw.size+1:=by rw[aU];simp
  have aV:DL (aw.size+1) K:=DL.newK hf.bk;replace hf:=hf.nw ah;replace mx:=mx.nw ah;replace hlg:=hlg.nw ah;replace hr:=hr.nw ah;replace hx:=fun x hx_=>(hx x hx_).nw ah;replace hc2:=hc2.nw ah;replace hc3:=hc3.nw ah;replace hc7:=hc7.nw ah;replace hm0:=hm0.trN ah;have bG:=ah.size;refine LR.call rfl c'31 rfl (Wd.u rfl) rfl rfl (first_ct K g b D bq [(44,[ptr H0.size,ptr aj.size,ptr H2.size]),(47,[ptr H0.size,ptr aj.size]),(48,[ptr H0.size,ptr aj.size]),(50,[ptr H0.size])] (frS p (recs l)) _ w0 _ hf ax.rd (BF.of ax.le) (DFL.of (aV)) rfl (ck_steps (LgS.mk mx (bf_mx.mono (by omega)) (dmx) hc2 hlg (a0) (dl)) (VaS.mk hc7 (av)) (VaS.mk hc3 (a2)) (RwS.mk hr (bf_hr.mono (by omega)) (dfr)) hx hrl hel hl hB hN)) (fun bH aG bv=>?_);have aW:=hlg.lt;obtain⟨a4,bI,rfl,hf,aq,al⟩:=bv;have ao:DL (lb+1) a4:=DL.appK (dl) aW aq;have ay:NxK K H0.size a4:=NxK.tr (ai) aq hm0.size;replace hlg:=hlg.upL al (dl);replace hr:=hr.upL al (dfr);replace hc2:=hc2.upL al (a0);replace hc3:=hc3.upL al (a2);replace hm0:=hm0.trL al (MIL.ofK (ai) (by intro k hk;simp[hk]));have bJ:=al.size;have ar:=hf.bk;refine LR.an ?_;refine aT _ _ (CW.s1 (fun az=>CW.sr (fun aX=>?_)));refine LR.m1 ?_;refine LR.v1 (Y.eql rfl rfl rfl) (LR.nil (aX _ _ ?_));refine CW.condp rfl (fun bw=>?_) (fun bw=>?_)
  ·
   refine CW.region_any (fun Hq=>Mo (Ms [(lb+1)]) aG Hq) [] rfl ?_;have ab:Mo (Ms [(lb+1)]) aG aG:=Mo.refl _ _;have aA:=Nx.refl (lb+1) aG.size;refine LH.t1 0 rfl (fun Hq hq=>Y.load1 (hc2.upL hq (DL.o a1.symm)).pt rfl a'30 rfl) ab ?_;refine LH.t1 1 rfl (fun Hq hq=>Y.load1 (hc2.upL hq (DL.o a1.symm)).pt rfl a'30 rfl) ab ?_;refine LH.t1 2 rfl (fun Hq hq=>Y.load1 (hc3.upL hq (DL.o a_.symm)).pt rfl a'22 rfl) ab ?_;refine LH.t1 3 rfl (fun Hq hq=>Y.len (hr.upL hq (DFL.o dlr)) rfl u'22 rfl) ab ?_;refine LH.n1 4 rfl ab ?_;refine LH.t1 5 rfl (fun Hq hq=>Y.fieldAddrX hlg.pt rfl u'76 rfl rfl s'3 (by decide) rfl) ab ?_;refine LH.o1 6 ?_;refine LO.s rfl (S.var1 hlg 2 ([ptr b,Str p,.int .i64 (l.length:Int),.bool br]) rfl rfl rfl (rfl) s'3 (by simp) (rfl)) (Wd.u rfl) rfl (fun ak aB=>?_);obtain⟨hlg,ac⟩:=aB;replace ac:=ac.md1;replace hf:=hf.upL ac (DKL.cons ao DKL.nil);replace hm0:=hm0.trL ac (MIL.o (MI.r af));replace ab:=ab.trL ac (MIL.o (MI.r aA));have bK:=ac.size;refine⟨.inr ab,LH.narrow (SH2:=fun Hq=>Mo (Ms [(lb+1)]) ak Hq) (fun Hq hq=>ab.trL hq (MIL.o (MI.r aA))) ?_⟩;have ab:Mo (Ms [(lb+1)]) ak ak:=Mo.refl _ _;have aC:=Nx.refl (lb+1) ak.size;refine LH.n1 7 rfl ab ?_;refine LH.t1 8 rfl (fun Hq hq=>Y.fieldAddrX hlg.pt rfl u'76 rfl rfl s'4 (by decide) rfl) ab ?_;refine LH.o1 9 ?_;refine LO.s rfl (S.var1 hlg 3 ([ptr b,Str p,.int .i64 (l.length:Int),.bool false]) rfl rfl rfl (rfl) s'4 (by simp) (rfl)) (Wd.u rfl) rfl (fun aD aE=>?_);obtain⟨hlg,ae⟩:=aE;replace ae:=ae.md1;replace hf:=hf.upL ae (DKL.cons ao DKL.nil);replace hm0:=hm0.trL ae (MIL.o (MI.r af));replace ab:=ab.trL ae (MIL.o (MI.r aC));have bL:=ae.size;refine⟨.inr ab,LH.narrow (SH2:=fun Hq=>Mo (Ms [(lb+1)]) aD Hq) (fun Hq hq=>ab.trL hq (MIL.o (MI.r aC))) ?_⟩;refine LH.done (by kernel_rfl) ?_;refine az _ _ (CW.sr (fun aY=>?_));refine LR.m1 ?_;refine LR.an ?_;refine aY _ _ ?_;refine CW.ret (hret .ret (.inr rfl) _ _ _ (res1 rfl rfl) ?_);have he0:(runD (frS p (recs l)) D).1=0:=by omega
   exact⟨_,_,rfl,hf,ay,by unfold lgN lgB freshD;rw[if_pos he0,if_pos he0];exact hlg,ao,hm0⟩
  ·
   refine CW.skip (az _ _ (CW.sr (fun aZ=>?_)));refine LR.m1 ?_;refine LR.an ?_;refine aZ _ _ ?_;refine CW.ret (hret .ret (.inr rfl) _ _ _ (res1 rfl rfl) ?_);have he0:(runD (frS p (recs l)) D).1≠0:=by omega
   exact⟨_,_,rfl,hf,ay,by unfold lgN lgB freshD;rw[if_neg he0,if_neg he0];exact hlg,ao,hm0⟩
end WalE

namespace WalF
open E Go.RowKit SimA SimB SimC SimD SimE SimF SimG SimH SimI SimQ SimR WalA WalB WalC WalD WalE
set_option maxRecDepth 100000 in
theorem inf146:Inf Tryz.prog 146 79 1 8:=⟨Tryz.underlying146,_,_,rfl,rfl,rfl,rfl,rfl⟩
theorem mend_1{D:Dk}{p:Pth}{n:Nat}(h:D.readE p≠0):mendD D p n=(D.readE p,D):=by unfold mendD;rw[if_pos h]
theorem mend_2{D:Dk}{p:Pth}{n:Nat}(h:D.readE p=0)(h2:parE (D.readL p)≠0):mendD D p n=(parE (D.readL p),D):=by unfold mendD;rw[if_neg (by omega),if_pos h2]
theorem mend_3{D:Dk}{p:Pth}{n:Nat}(h:D.readE p=0)(h2:parE (D.readL p)=0):mendD D p n=freshD D p ((parL (D.readL p)).take n):=by unfold mendD;rw[if_neg (by omega),if_neg (by omega)]
theorem recs_take(l:List (SV×Rec))(i n:Nat)(h:i=min n l.length):recs (l.take i)=(recs l).take n:=by
 unfold recs;rw[List.map_take,h];rcases Nat.le_total n l.length with h2|h2
 ·rw[Nat.min_eq_left h2]
 ·rw[Nat.min_eq_right h2,List.take_of_length_le (by simp),List.take_of_length_le (by simpa using h2)]
theorem encW_bd(b:List UInt8)(n:Nat):(encW ((parL b).take n)).length≤b.length+8:=by
 have h1:=(encN_parL_le b).1;have h2:=encN_sub (parL b) n;have h8:W8.length=8:=rfl;unfold encW;rw[List.length_append];omega
theorem parL_many(b:List UInt8):(parL b).length≤b.length+8:=Nat.le_trans (encW_many _) (encN_parL_le b).2
theorem lgN_0{m n e:Nat}(h:e=0):lgN e m n=m:=if_pos h
theorem lgB_0{e:Nat}{br:Bool}(h:e=0):lgB e br=false:=if_pos h
theorem lgN_1{m n e:Nat}(h:e≠0):lgN e m n=n:=if_neg h
theorem lgB_1{e:Nat}{br:Bool}(h:e≠0):lgB e br=br:=if_neg h
theorem mend_ct(mx_:Int)(K:List Nat)(g:Gh)(b:Nat)(D:Dk)(lb:Nat)(p:Pth)(n:Nat)(br:Bool)(N:Nat)(w0:World)(H0:Heap)
 (hf:PDk K g H0 b D) (mx:MX mx_ H0) (bf_mx:BF (fun b=>b=0) H0.size) (dmx:DFL (fun b=>b=0) K) (hlg:Var 76 H0 lb [ptr b,Str p,.int .i64 (n:Int),.bool br]) (dl:DL (lb+1) K) (dmv:DF (fun b=>b=0) (lb+1)) (hl:p.length≤4294960000) (hB:Bs N D) (hN:N≤90000000) (hnn:n≤1073741824):
 Ct Tryz.prog w0 28 #[ptr lb] H0 (fun r H2=>∃K2:List Nat,∃g2:Gh,r= .int .i64 ((mendD D p n).1:Int)∧(PDk K2 g2 H2 b (mendD D p n).2)∧(NxK K H0.size K2)∧(Var 76 H2 lb [ptr b,Str p,.int .i64 (lgN (mendD D p n).1 (mendN D p n) n:Int),.bool (lgB (mendD D p n).1 br)])∧(DL (lb+1) K2)∧Mo (Ms (K++[(lb+1)])) H0 H2):=by
 refine Ct.enter (args:=[ptr lb]) Tryz.func28 rfl rfl rfl ?_;intro Q0 hret;have hm0:Mo (Ms (K++[(lb+1)])) H0 H0:=Mo.refl _ _;have aa:=NxK.refl K H0.size;have ab:=hf.bk;have ad:=Nx.refl (lb+1) H0.size;have ae:=hlg.lt;have hrb:=readL_bd hB p;have hcm:=encW_bd (D.readL p);have hpm:=parL_many (D.readL p);refine CW.sr (fun ay=>?_);refine LR.an ?_;refine ay _ _ (CW.seq (fun K2 az _=>?_));refine CW.region_any (fun Hq=>Nw H0 Hq) [] rfl ?_;have hqs:=Nw.refl H0;refine LH.m1 0 rfl hqs ?_;refine LH.n1 1 rfl hqs ?_;refine LH.t1 2 rfl (fun Hq hq=>Y.FA (hlg.pt.nw hq) rfl u'76 rfl s'26) hqs ?_;refine LH.t1 3 rfl (fun Hq hq=>Y.load1 (hlg.pt.nw hq) rfl a'26 rfl) hqs ?_;refine LH.m1 4 rfl hqs ?_;refine LH.n1 5 rfl hqs ?_;refine LH.t1 6 rfl (fun Hq hq=>Y.FA (hlg.pt.nw hq) rfl u'76 rfl s'9) hqs ?_;refine LH.t1 7 rfl (fun Hq hq=>Y.load1 ((hlg.pt.drop 1).nw hq) rfl a'9 rfl) hqs ?_;refine LH.o1 8 ?_;refine LO.call rfl rfl c'23 rfl (Wd.u rfl) rfl rfl (read_ct mx_ K g b D p w0 _ mx (bf_mx.mono (by omega)) hf (by omega) (fun i=>by have:=(hB.f i).1;omega)) (fun aW al aA=>?_);obtain⟨aB,aX,rfl,am,aC,ag⟩:=aA;replace hf:=hf.nw ag;replace mx:=mx.nw ag;replace hlg:=hlg.nw ag;replace hm0:=hm0.trN ag;have aY:=ag.size;have ao:=am.le;have ap:=hqs.tr ag;refine⟨.inr ap,LH.narrow (SH2:=fun Hq=>Nw al Hq) (fun Hq hq=>ap.tr hq) ?_⟩;have ac:=Nw.refl al;refine LH.m1 9 rfl ac ?_;refine LH.t1 10 rfl (fun Hq hq=>Y.extract rfl rfl rfl) ac ?_;refine LH.t1 11 rfl (fun Hq hq=>Y.extract rfl rfl rfl) ac ?_;refine LH.t1 12 rfl (fun Hq hq=>Y.assign rfl rfl) ac ?_;refine LH.t1 13 rfl (fun Hq hq=>Y.assign rfl rfl) ac ?_;refine LH.done (by kernel_rfl) ?_;have hqe:=ac;refine az _ _ (CW.s2 (fun aD aE=>CW.sr (fun aF=>?_)));refine LR.m1 ?_;refine LR.v1 (Y.neq rfl rfl rfl) (LR.nil (aF _ _ ?_));refine CW.condp rfl (fun aG=>?_) (fun aG=>?_)
 ·
  refine CW.sr (fun aH=>?_);refine LR.m1 ?_;refine LR.an ?_;refine aH _ _ ?_;refine CW.ret (aE .ret nofun _ _ (hret .ret (.inr rfl) _ _ _ (res1 rfl rfl) ?_));have hm:=mend_1 (n:=n) (show D.readE p≠0 by omega);have hn0:(mendD D p n).1≠0:=by rw[hm];show D.readE p≠0;omega
  exact⟨_,_,by rw[hm];rfl,by rw[hm];exact hf,aa,by rw[lgN_1 hn0,lgB_1 hn0];exact hlg,dl,hm0⟩
 ·
  refine CW.skip (aD _ _ (CW.sr (fun aI=>?_)));refine LR.m1 ?_;refine LR.call rfl c'27 rfl (Wd.u rfl) rfl rfl (parse_ct aB (D.readL p) w0 _ am.rd.any (by have:=readL_bd hB p;omega)) (fun aZ au aJ=>?_);obtain⟨a0,aj,rfl,hrc24,ah,ak,ai⟩:=aJ;replace hf:=hf.nw ai;replace mx:=mx.nw ai;replace hlg:=hlg.nw ai;replace hm0:=hm0.trN ai;have a2:=ai.size;replace ah:=ah.bnd;have af:=ah.bf;have aK:DFL (fun b=>al.size≤b∧b<au.size) K:=DFL.above (fun b h=>h.1) (by first|exact ab|exact fun k hk=>Nat.le_trans (ab k hk) (by omega)|assumption);have aL:DF (fun b=>al.size≤b∧b<au.size) (lb+1):=DF.above (fun b h=>h.1) (by first|exact hle_hlg|exact ae|omega);replace ak:=fun x hx_=>(ak x hx_).bnd;have aM:DFL (fun b=>al.size≤b∧b<au.size) K:=DFL.above (fun b h=>h.1) (by first|exact ab|exact fun k hk=>Nat.le_trans (ab k hk) (by omega)|assumption);have aN:DF (fun b=>al.size≤b∧b<au.size) (lb+1):=DF.above (fun b h=>h.1) (by first|exact hle_hlg|exact ae|omega);refine LR.m1 ?_;refine LR.v1 (Y.extract rfl rfl rfl) ?_;refine LR.v1 (Y.extract rfl rfl rfl) ?_;refine LR.v1 (Y.extract rfl rfl rfl) ?_;refine LR.a1 ?_;refine LR.a1 ?_;refine LR.an ?_;refine aI _ _ (CW.s2 (fun aO aP=>CW.sr (fun aQ=>?_)));refine LR.m1 ?_;refine LR.v1 (Y.neq rfl rfl rfl) (LR.nil (aQ _ _ ?_));refine CW.condp rfl (fun aR=>?_) (fun aR=>?_)
  ·
   refine CW.sr (fun aS=>?_);refine LR.m1 ?_;refine LR.an ?_;refine aS _ _ ?_;refine CW.ret (aP .ret nofun _ _ (hret .ret (.inr rfl) _ _ _ (res1 rfl rfl) ?_));have hm:=mend_2 (n:=n) (show D.readE p=0 by omega) (show parE (D.readL p)≠0 by omega);have hn0:(mendD D p n).1≠0:=by rw[hm];show parE (D.readL p)≠0;omega
   exact⟨_,_,by rw[hm];rfl,by rw[hm];exact hf,aa,by rw[lgN_1 hn0,lgB_1 hn0];exact hlg,dl,hm0⟩
  ·
   refine CW.skip (aO _ _ (CW.sr (fun av=>?_)));refine LR.m1 ?_;refine LR.m1 ?_;refine LR.m1 ?_;refine LR.n1 ?_;refine LR.v1 (Y.FA hlg.pt rfl u'76 rfl s'3) ?_;refine LR.v1 (Y.load1 (hlg.pt.drop 2) rfl a'3 rfl) ?_;refine LR.m1 ?_;refine LR.v1 (Y.len ah rfl u'22 rfl) ?_;refine LR.v1 (Y.cast (v2:= .int .i64 ((min n aj.length:Nat):Int)) (Y.mini rfl rfl rfl) (ivv (by omega))) ?_;refine LR.e1 (g:=fun v=>v) (Y.slice ah (0) (min n aj.length) rfl u'22 s'34 rfl (.inl ⟨rfl,rfl⟩) (.inr ⟨_,_,_,rfl,rfl,by first|rfl|omega⟩) (by omega) (by omega)) fun ax rd40=>?_;rw[List.drop_zero]at rd40;obtain⟨aT,rfl⟩:∃s:SV,ax=s.v:=⟨toSV ax,rd40.sv.symm⟩;have hrt:=recs_take aj (min n aj.length) n rfl;rw[hrc24]at hrt;have hlt24:=congrArg List.length hrc24;simp only[recs,List.length_map]at hlt24;refine LR.call rfl c'16 rfl (Wd.u rfl) rfl rfl (ckpt_ct mx_ K g b D lb p n br aT (aj.take (min n aj.length)) _ N w0 _ hf mx (bf_mx.mono (by omega)) (dmx) hlg (dl) (dmv) rd40 (af.mono (by omega)) (aK) (fun x h=>ak x (List.mem_of_mem_take h)) (af.mono (by omega)) (aM) (fun x h=>parL_max _ _ (by rw[←hrc24];exact List.mem_map_of_mem (List.mem_of_mem_take h))) (by rw[hrt];have h1:=encN_sub (parL (D.readL p)) n;have h2:=(encN_parL_le (D.readL p)).1;omega) (aL) (aN) hl hB (by rw[hrt];have:=hcm n;omega) (by rw[List.length_take];omega)) (fun a3 a4 aU=>?_);obtain⟨aV,a5,rfl,hf,aq,hlg,dl241,ar⟩:=aU;have aw:NxK K H0.size aV:=NxK.tr (aa) aq hm0.size;replace hm0:=hm0.trL ar (MIL.app (MIL.ofK (aa) (by intro k hk;simp[hk])) (MIL.o (MI.r ad)));have a6:=ar.size;have ab:=hf.bk;refine LR.an ?_;refine av _ _ ?_;refine CW.ret (hret .ret (.inr rfl) _ _ _ (res1 rfl rfl) ?_);have hm:=mend_3 (n:=n) (show D.readE p=0 by omega) (show parE (D.readL p)=0 by omega);rw[hrt]at hf hlg;exact⟨_,_,by rw[hm,hrt],by rw[hm];exact hf,aw,by rw[hm];unfold mendN;rw[show((parL (D.readL p)).take n).length=(aj.take (min n aj.length)).length from by rw[←hrt];exact List.length_map _];exact hlg,dl241,hm0⟩
theorem pre_0{D:Dk}{p:Pth}{n:Nat}{br:Bool}(h:br=false):preD D p n br=(0,n,D):=by unfold preD;rw[h];simp
theorem pre_1{D:Dk}{p:Pth}{n:Nat}{br:Bool}(h:br=true):preD D p n br=((mendD D p n).1,mendN D p n,(mendD D p n).2):=by unfold preD;rw[if_pos h]
theorem app_bad{D:Dk}{p:Pth}{n:Nat}{br:Bool}{r:Rec}(h:br=true)(h2:(mendD D p n).1≠0):appD D p n br r=((mendD D p n).1,n,br,(mendD D p n).2):=by unfold appD;rw[pre_1 h,if_pos h2]
theorem app_go{D D1:Dk}{p:Pth}{n n1:Nat}{br:Bool}{r:Rec}(h:preD D p n br=(0,n1,D1)):appD D p n br r=((runD (apS p n1 r) D1).1,if(runD (apS p n1 r) D1).1=0 then n1+1 else n1,if(runD (apS p n1 r) D1).1=0 then false else true,(runD (apS p n1 r) D1).2):=by
 unfold appD;rw[h];simp
def openD(D:Dk)(p:Pth):Nat×List Rec×Dk:=
 if nameB p=false∨nameB (newP p)=false then(7,[],D)
 else if D.readE p=2 then((freshD D p []).1,[],(freshD D p []).2)
 else if D.readE p≠0 then(D.readE p,[],D)
 else if parE (D.readL p)≠0 then(parE (D.readL p),[],D)
 else if parS (D.readL p)<(D.readL p).length then((freshD D p (parL (D.readL p))).1,if(freshD D p (parL (D.readL p))).1=0 then parL (D.readL p)else[],(freshD D p (parL (D.readL p))).2)
 else(0,parL (D.readL p),D)
theorem bs_open{N:Nat}{D:Dk}(h:Bs N D)(p:Pth):Bs (N+4*(N+28)) (openD D p).2.2:=by
 have h1:=(encN_parL_le (D.readL p)).2;have h2:=readL_bd h p;unfold openD;split
 ·exact h.mono (by omega)
 split
 ·exact(bs_fresh h p []).mono (by simp[encW,W8,encN];omega)
 split
 ·exact h.mono (by omega)
 split
 ·exact h.mono (by omega)
 split
 ·exact(bs_fresh h p _).mono (by omega)
 ·exact h.mono (by omega)
theorem wapp_ct(mx_:Int)(K:List Nat)(g:Gh)(b:Nat)(D:Dk)(lb:Nat)(p:Pth)(n:Nat)(br:Bool)(s:SV)(rc:Rec)(F:Nat→Prop)(N:Nat)(w0:World)(H0:Heap)
 (hf:PDk K g H0 b D) (mx:MX mx_ H0) (bf_mx:BF (fun b=>b=0) H0.size) (dmx:DFL (fun b=>b=0) K) (hlg:Var 76 H0 lb [ptr b,Str p,.int .i64 (n:Int),.bool br]) (dl:DL (lb+1) K) (dmv:DF (fun b=>b=0) (lb+1)) (hr:Rd F H0 fB 1 s.v rc) (bf_hr:BF F H0.size) (dfr:DFL F K) (dlr:DF F (lb+1)) (hrl:rc.length≤1048576) (hl:p.length≤4294960000) (hB:Bs N D) (hN:N≤80000000) (hnn:n≤1000000000):
 Ct Tryz.prog w0 10 #[ptr lb,s.v] H0 (fun r H2=>∃K2:List Nat,∃g2:Gh,r= .int .i64 ((appD D p n br rc).1:Int)∧(PDk K2 g2 H2 b (appD D p n br rc).2.2.2)∧(NxK K H0.size K2)∧(Var 76 H2 lb [ptr b,Str p,.int .i64 ((appD D p n br rc).2.1:Int),.bool (appD D p n br rc).2.2.1])∧(DL (lb+1) K2)∧Mo (Ms (K++[(lb+1)])) H0 H2):=by
 refine Ct.enter (args:=[ptr lb,s.v]) Tryz.func10 rfl rfl rfl ?_;intro Q0 hret;have hm0:Mo (Ms (K++[(lb+1)])) H0 H0:=Mo.refl _ _;have ac:=NxK.refl K H0.size;have aj:=hf.bk;have ab:=Nx.refl (lb+1) H0.size;have aG:=hlg.lt;have hrb:=readL_bd hB p;have hcm:=encW_bd (D.readL p);have hpm:=parL_many (D.readL p);refine CW.seq (fun K1 a5 _=>CW.region ?_);refine LR.z1 (Z.boxv1 rfl rfl (rfl)) ?_;rintro v2 H2 ⟨rfl,hc2,ay,bu,a6⟩;have a7:H2.size=H0.size+1:=by rw[a6];simp
 have aY:DL (H0.size+1) K:=DL.newK hf.bk;have a8:Dj (lb+1) (H0.size+1):=Dj.new hlg.lt;replace hf:=hf.nw ay;replace mx:=mx.nw ay;replace hlg:=hlg.nw ay;replace hr:=hr.nw ay;replace hm0:=hm0.trN ay;have bv:=ay.size;replace hc2:Var 30 H2 H0.size ([ptr lb]):=hc2;refine LR.z1 (Z.boxv1 rfl rfl ((hr).oneCell)) ?_;rintro v3 H3 ⟨rfl,hc3,av,bw,a9⟩;have a_:H3.size=H2.size+1:=by rw[a9];simp
 have aZ:DL (H2.size+1) K:=DL.newK hf.bk;have ba:Dj (lb+1) (H2.size+1):=Dj.new hlg.lt;replace hf:=hf.nw av;replace mx:=mx.nw av;replace hlg:=hlg.nw av;replace hr:=hr.nw av;replace hc2:=hc2.nw av;replace hm0:=hm0.trN av;have bx:=av.size;replace hc3:Var 34 H3 H2.size ([s.v]):=hc3;refine LR.an ?_;refine a5 _ _ (CW.seq (fun K2 bb _=>CW.sr (fun bc=>?_)));refine LR.v1 (Y.load1 hc3.pt rfl a'34 rfl) ?_;refine LR.v1 (Y.len hr rfl u'34 rfl) ?_;refine LR.v1 ((Y.gtr rfl rfl rfl).isF (by omega)) (LR.nil (bc _ _ ?_));refine CW.cond_f rfl ?_;refine CW.skip (bb _ _ ?_)
 refine CW.cut (fun(s_:(List Nat)×(Gh)×(Dk)×(Nat))=>match s_ with|(K1,g1,D1,n1)=>[(2,.pointer (some ⟨H0.size,0,none⟩)),(3,.pointer (some ⟨H2.size,0,none⟩))])
  (fun(K1,g1,D1,n1) (H:Heap)=>(PDk K1 g1 H b D1)∧(Var 76 H lb [ptr b,Str p,.int .i64 (n1:Int),.bool false])∧(preD D p n br=(0,n1,D1))∧(Bs (N+4*(N+28)) D1)∧(n1≤1100000000)∧(NxK K H3.size K1)∧(DL (lb+1) K1)∧Mo (Ms (K++[(lb+1)])) H3 H) (fun _ a0 bd=>?_) ?_
 ·
  have am:Mo (Ms (K++[(lb+1)])) H3 H3:=Mo.refl _ _;have ad:=NxK.refl K H3.size;have ah:=Nx.refl (lb+1) H3.size;refine CW.sr (fun be=>?_);refine LR.v1 (Y.load1 hc2.pt rfl a'30 rfl) ?_;refine LR.n1 ?_;refine LR.v1 (Y.FA hlg.pt rfl u'76 rfl s'4) ?_;refine LR.v1 (Y.load1 (hlg.pt.drop 3) rfl a'4 rfl) (LR.nil (be _ _ ?_));refine CW.cond rfl (fun az=>?_) (fun az=>?_)
  ·
   refine CW.sr (fun bf=>?_);refine LR.v1 (Y.load1 hc2.pt rfl a'30 rfl) ?_;refine LR.call rfl c'28 rfl (Wd.u rfl) rfl rfl (mend_ct mx_ K g b D lb p n br N w0 _ hf mx (bf_mx.mono (by omega)) (dmx) hlg (dl) (dmv) hl hB (by omega) (by omega)) (fun bz bA bg=>?_);obtain⟨aH,bh,rfl,hf,ar,hlg,dl216,aw⟩:=bg;have aI:NxK K H0.size aH:=NxK.tr (ac) ar hm0.size;have aJ:NxK K H3.size aH:=NxK.tr (ad) ar am.size;replace hm0:=hm0.trL aw (MIL.app (MIL.ofK (ac) (by intro k hk;simp[hk])) (MIL.o (MI.r ab)));replace am:=am.trL aw (MIL.app (MIL.ofK (ad) (by intro k hk;simp[hk])) (MIL.o (MI.r ah)));have bB:=aw.size;have aj:=hf.bk;refine LR.an ?_;refine bf _ _ (CW.sr (fun bi=>?_));refine LR.m1 ?_;refine LR.v1 (Y.neq rfl rfl rfl) (LR.nil (bi _ _ ?_));refine CW.condp rfl (fun bj=>?_) (fun bj=>?_)
   ·
    refine CW.sr (fun bl=>?_);refine LR.m1 ?_;refine LR.an ?_;refine bl _ _ ?_;refine CW.ret (bd .ret nofun _ _ (hret .ret (.inr rfl) _ _ _ (res1 rfl rfl) ?_));have hz:(mendD D p n).1≠0:=by omega
    have hgo:=app_bad (r:=rc) az hz;exact⟨_,_,by rw[hgo],by rw[hgo];exact hf,aI,by rw[hgo];rw[lgN_1 hz,lgB_1 hz]at hlg;exact hlg,dl216,hm0⟩
   ·
    refine CW.skip ?_;have hm0_:(mendD D p n).1=0:=by omega
    refine QN.sub (a0 (aH,bh,(mendD D p n).2,mendN D p n) _ ?_) ⟨rfl,rfl,trivial⟩;exact⟨hf,by rw[lgN_0 hm0_,lgB_0 hm0_]at hlg;exact hlg,by rw[pre_1 az,hm0_],bs_mend hB p n,by unfold mendN;rw[List.length_take];omega,aJ,dl216,am⟩
  ·
   refine CW.skip ?_;refine QN.sub (a0 (K,g,D,n) _ ?_) ⟨rfl,rfl,trivial⟩;exact⟨hf,by rw[show br=false by simpa using az]at hlg;exact hlg,pre_0 (by simpa using az),hB.mono (by omega),(by omega),ad,dl,am⟩
 ·
  rintro⟨K1,g1,D1,n1⟩ ak ao;obtain⟨hf,hlg,hpre,hB1,hn1,ae,al,aa⟩:=ao;have aK:=DFL.appK (dmx) (bf_mx.mono hm0.size) ae;have aL:=DFL.appK (dfr) (bf_hr.mono hm0.size) ae;have aA:DL (H0.size+1) K1:=DL.appK (aY) hc2.lt ae;have aM:DL (H2.size+1) K1:=DL.appK (aZ) hc3.lt ae;have aB:NxK K H0.size K1:=NxK.tr (ac) ae hm0.size;replace mx:=mx.upL aa (DFL.app dmx (DFL.o dmv));replace hr:=hr.upL aa (DFL.app dfr (DFL.o dlr));replace hc2:=hc2.upL aa (DL.app aY (DL.o a8.symm));replace hc3:=hc3.upL aa (DL.app aZ (DL.o ba.symm));replace hm0:=hm0.trL aa (MIL.app (MIL.ofK (ac) (by intro k hk;simp[hk])) (MIL.o (MI.r ab)));have bC:=aa.size;have aj:=hf.bk;have ax:=al;refine CW.sr (fun bm=>?_);refine LR.v1 (Y.makeFunc rfl rfl) ?_;refine LR.an ?_;refine bm _ _ (CW.sr (fun aN=>?_));refine LR.v1 (Y.makeFunc rfl rfl) ?_;refine LR.m1 ?_;refine LR.v1 (Y.makeFunc rfl rfl) ?_;refine LR.m1 ?_;refine LR.z1 (Z.litw _ (([(32,[ptr H0.size,ptr H2.size]),(29,[ptr H0.size]),(35,[ptr H0.size]),(29,[ptr H0.size])]:List FnV)) rfl inf146 rfl rfl rfl (by decide) (by decide) fFn_len fFn_one (rfl)) fun bn bo bp=>?_;obtain⟨aC,ai,bq,aO⟩:=bp;have a1:bo.size=ak.size+1:=by rw[aO];simp
  have aP:DL (ak.size+1) K1:=DL.newK hf.bk;replace hf:=hf.nw ai;replace mx:=mx.nw ai;replace hr:=hr.nw ai;replace hc2:=hc2.nw ai;replace hc3:=hc3.nw ai;replace hlg:=hlg.nw ai;replace hm0:=hm0.trN ai;have bD:=ai.size;refine LR.call rfl c'31 rfl (Wd.u rfl) rfl rfl (first_ct K1 g1 b D1 bn [(32,[ptr H0.size,ptr H2.size]),(29,[ptr H0.size]),(35,[ptr H0.size]),(29,[ptr H0.size])] (apS p n1 rc) _ w0 _ hf aC.rd (BF.of aC.le) (DFL.of (aP)) rfl (ap_steps (LgS.mk mx (bf_mx.mono (by omega)) (aK) hc2 hlg (aA) (ax)) (VaS.mk hc3 (aM)) (RwS.mk hr (bf_hr.mono (by omega)) (aL)) hrl hl hB1 (by omega))) (fun bE bF bs=>?_);have aQ:=hlg.lt;obtain⟨a2,bG,rfl,hf,au,ap⟩:=bs;have aq:DL (lb+1) a2:=DL.appK (ax) aQ au;have aD:NxK K H0.size a2:=NxK.tr (aB) au hm0.size;replace hc2:=hc2.upL ap (aA);replace hlg:=hlg.upL ap (ax);replace hm0:=hm0.trL ap (MIL.ofK (aB) (by intro k hk;simp[hk]));have bH:=ap.size;have aj:=hf.bk;have hgo:=app_go (r:=rc) hpre;refine LR.an ?_;refine aN _ _ (CW.s2 (fun aR aS=>CW.sr (fun aT=>?_)));refine LR.m1 ?_;refine LR.v1 (Y.neq rfl rfl rfl) (LR.nil (aT _ _ ?_));refine CW.condp rfl (fun bt=>?_) (fun bt=>?_)
  ·
   refine CW.sr (fun aU=>?_);refine LR.v1 (Y.load1 hc2.pt rfl a'30 rfl) ?_;refine LR.n1 ?_;refine LR.v1 (Y.FA hlg.pt rfl u'76 rfl s'4) ?_;refine LR.s1 (S.var1 hlg 3 ([ptr b,Str p,.int .i64 (n1:Int),.bool true]) rfl rfl rfl (rfl) s'4 (by simp) (rfl)) fun a3 aE=>?_;obtain⟨hlg,af⟩:=aE;replace af:=af.md1;replace hf:=hf.upL af (DKL.cons aq DKL.nil);replace hm0:=hm0.trL af (MIL.o (MI.r ab));have bI:=af.size;refine LR.nil (aU _ _ (CW.sr (fun aV=>?_)));refine LR.m1 ?_;refine LR.an ?_;refine aV _ _ ?_;refine CW.ret (aS .ret nofun _ _ (hret .ret (.inr rfl) _ _ _ (res1 rfl rfl) ?_));have hz:(runD (apS p n1 rc) D1).1≠0:=by omega
   rw[if_neg hz,if_neg hz]at hgo;exact⟨_,_,by rw[hgo],by rw[hgo];exact hf,aD,by rw[hgo];exact hlg,aq,hm0⟩
  ·
   refine CW.skip (aR _ _ (CW.sr (fun aW=>?_)));refine LR.v1 (Y.load1 hc2.pt rfl a'30 rfl) ?_;refine LR.n1 ?_;refine LR.v1 (Y.FA hlg.pt rfl u'76 rfl s'3) ?_;refine LR.v1 (Y.load1 (hlg.pt.drop 2) rfl a'3 rfl) ?_;refine LR.v1 (Y.cast (v2:= .int .i64 ((n1+1:Nat):Int)) (Y.addi rfl rfl rfl (by omega)) (ivv (by omega))) ?_;refine LR.n1 ?_;refine LR.v1 (Y.FA hlg.pt rfl u'76 rfl s'3) ?_;refine LR.s1 (S.var1 hlg 2 ([ptr b,Str p,.int .i64 ((n1+1:Nat):Int),.bool false]) rfl rfl rfl (rfl) s'3 (by simp) (rfl)) fun a4 aF=>?_;obtain⟨hlg,ag⟩:=aF;replace ag:=ag.md1;replace hf:=hf.upL ag (DKL.cons aq DKL.nil);replace hm0:=hm0.trL ag (MIL.o (MI.r ab));have bJ:=ag.size;refine LR.nil (aW _ _ (CW.seq (fun aH aX _=>CW.region ?_)));refine LR.an ?_;refine aX _ _ ?_;refine CW.ret (hret .ret (.inr rfl) _ _ _ (res1 rfl rfl) ?_);have hz:(runD (apS p n1 rc) D1).1=0:=by omega
   rw[if_pos hz,if_pos hz]at hgo;exact⟨_,_,by rw[hgo,hz];rfl,by rw[hgo];exact hf,aD,by rw[hgo];exact hlg,aq,hm0⟩
end WalF

namespace WalG
open E Go.RowKit SimA SimB SimC SimD SimE SimF SimG SimH SimI SimQ SimR WalA WalB WalC WalD WalE WalF
structure LgP (k:Nat) (H:Heap) (v:Value) (b:Nat) (p:Pth) (n:Nat) (br:Bool):Prop where
 ex:(k=0∧v= .pointer none)∨∃lb,k=lb+1∧v=ptr lb∧Var 76 H lb [ptr b,Str p,.int .i64 (n:Int),.bool br]
section
variable {k b n : Nat} {H H' : Heap} {v : Value} {p : Pth} {br : Bool} {ks : List Nat}
theorem LgP.le(h:LgP k H v b p n br):k≤H.size:=by
 rcases h.ex with⟨e,_⟩|⟨lb,e,_,h⟩
 ·omega
 ·have:=h.lt;omega
theorem LgP.nw(h:LgP k H v b p n br)(s:Nw H H'):LgP k H' v b p n br:=⟨h.ex.imp id (fun⟨lb,e,e2,h⟩=>⟨lb,e,e2,h.nw s⟩)⟩
theorem LgP.upL(h:LgP k H v b p n br)(s:Mo (Ms ks) H H')(d:DL k ks):LgP k H' v b p n br:=⟨h.ex.imp id (fun⟨lb,e,e2,h⟩=>⟨lb,e,e2,h.upL s (e▸d)⟩)⟩
theorem LgP.var{lb:Nat}(h:LgP (lb+1) H v b p n br):v=ptr lb∧Var 76 H lb [ptr b,Str p,.int .i64 (n:Int),.bool br]:=by
 rcases h.ex with⟨e,_⟩|⟨lb2,e,e2,h⟩
 ·omega
 ·obtain rfl:lb=lb2:=by omega
  exact⟨e2,h⟩
end
section
variable {D : Dk} {p : Pth}
theorem open_a(h:nameB p=false∨nameB (newP p)=false):openD D p=(7,[],D):=by unfold openD;rw[if_pos h]
theorem open_n(n1:nameB p=true)(n2:nameB (newP p)=true):¬(nameB p=false∨nameB (newP p)=false):=by rw[n1,n2];simp
theorem open_b(n1:nameB p=true)(n2:nameB (newP p)=true)(h:D.readE p=2):openD D p=((freshD D p []).1,[],(freshD D p []).2):=by unfold openD;rw[if_neg (open_n n1 n2),if_pos h]
theorem open_c(n1:nameB p=true)(n2:nameB (newP p)=true)(h:D.readE p≠2)(h2:D.readE p≠0):openD D p=(D.readE p,[],D):=by unfold openD;rw[if_neg (open_n n1 n2),if_neg h,if_pos h2]
theorem open_d(n1:nameB p=true)(n2:nameB (newP p)=true)(h:D.readE p=0)(h2:parE (D.readL p)≠0):openD D p=(parE (D.readL p),[],D):=by unfold openD;rw[if_neg (open_n n1 n2),if_neg (by omega),if_neg (by omega),if_pos h2]
theorem open_e(n1:nameB p=true)(n2:nameB (newP p)=true)(h:D.readE p=0)(h2:parE (D.readL p)=0)(h3:parS (D.readL p)<(D.readL p).length):openD D p=((freshD D p (parL (D.readL p))).1,if(freshD D p (parL (D.readL p))).1=0 then parL (D.readL p)else[],(freshD D p (parL (D.readL p))).2):=by
 unfold openD;rw[if_neg (open_n n1 n2),if_neg (by omega),if_neg (by omega),if_neg (by omega),if_pos h3]
theorem open_f(n1:nameB p=true)(n2:nameB (newP p)=true)(h:D.readE p=0)(h2:parE (D.readL p)=0)(h3:¬parS (D.readL p)<(D.readL p).length):openD D p=(0,parL (D.readL p),D):=by
 unfold openD;rw[if_neg (open_n n1 n2),if_neg (by omega),if_neg (by omega),if_neg (by omega),if_neg h3]
end
theorem wopen_ct(mx_:Int)(K:List Nat)(g:Gh)(b:Nat)(D:Dk)(p:Pth)(N:Nat)(w0:World)(H0:Heap)
 (hf:PDk K g H0 b D) (mx:MX mx_ H0) (bf_mx:BF (fun b=>b=0) H0.size) (dmx:DFL (fun b=>b=0) K) (hl:p.length≤4294960000) (hB:Bs N D) (hN:N≤80000000):
 Ct Tryz.prog w0 9 #[ptr b,Str p] H0 (fun r H2=>∃lv:Value,∃kl:Nat,∃t:SV,∃l:List (SV×Rec),∃K2:List Nat,∃g2:Gh,∃G:Nat→Prop,r= .tuple #[lv,t.v,.int .i64 ((openD D p).1:Int)]∧(PDk K2 g2 H2 b (openD D p).2.2)∧(NxK K H0.size K2)∧(LgP kl H2 lv b p l.length false)∧(Nx 0 H0.size kl)∧(DL kl K2)∧(((openD D p).1=0→∃lb,kl=lb+1∧lv=ptr lb)∧((openD D p).1≠0→kl=0∧lv= .pointer none))∧(recs l=(openD D p).2.1)∧(Rd G H2 fP 1 t.v l)∧(∀x∈l,Rd G H2 fB 1 x.1.v x.2)∧(BF G H2.size)∧(∀c,G c→H0.size≤c)∧(DFL G K2)∧(DF G kl)∧Mo (Ms K) H0 H2):=by
 refine Ct.enter (args:=[ptr b,Str p]) Tryz.func9 rfl rfl rfl ?_;intro Q0 hret;have hm0:Mo (Ms K) H0 H0:=Mo.refl _ _;have ab:=NxK.refl K H0.size;have af:=hf.bk;have hrb:=readL_bd hB p;have hcm:=(encN_parL_le (D.readL p)).2;have hpm:=parL_many (D.readL p);refine CW.sr (fun bt=>?_);refine LR.a1 ?_;refine LR.a1 ?_;refine LR.an ?_;refine bt _ _ (CW.seq (fun K2 bu bm=>CW.sr (fun bn=>?_)));refine LR.m1 ?_;refine LR.call rfl c'26 rfl (Wd.u rfl) rfl rfl (name_ct mx_ p w0 _ mx (bf_mx.mono (by omega)) (by omega)) (fun bS bT bv=>?_);obtain⟨rfl,aq⟩:=bv;replace hf:=hf.nw aq;replace mx:=mx.nw aq;replace hm0:=hm0.trN aq;have bU:=aq.size;refine LR.v1 (Y.not rfl rfl) ?_;refine LR.m1 ?_;refine LR.split (d:=15) rfl (fun aM=>?_) (fun aM=>?_)
 ·
  have hop:=open_a (D:=D) (p:=p) (.inl (by simpa using aM));refine LR.g1 ?_;refine LR.g1 ?_;refine LR.g1 ?_;refine LR.g1 ?_;refine LR.pt ?_;refine LR.nil (bn _ _ ?_);refine CW.cond_t rfl ?_;refine CW.sr (fun bw=>?_);refine LR.a1 ?_;refine LR.a1 ?_;refine LR.an ?_;refine bw _ _ ?_;refine CW.ret (bm .ret nofun _ _ (hret .ret (.inr rfl) _ _ _ (res3 rfl rfl rfl rfl) ?_));exact⟨.pointer none,0,⟨none,0,0⟩,[],_,_,(fun _=>False),by rw[hop];rfl,by rw[hop];exact hf,ab,⟨.inl ⟨rfl,rfl⟩⟩,(.inl rfl),DL.zK,⟨fun h=>absurd h (by rw[hop];exact(Nat.succ_ne_zero 6)),fun _=>⟨rfl,rfl⟩⟩,by rw[hop];rfl,Rd.nil _ _ _ _,(fun x h=>by cases h),(fun b h=>h.elim),(fun c h=>h.elim),(fun k hk b h=>h.elim),(fun b h=>h.elim),hm0⟩
 ·
  refine LR.wm ?_;refine LR.w1 (Y.cast (v2:=Str (newP p)) (Y.sadd rfl rfl rfl (by simp only[List.length_cons,List.length_nil];omega)) (rfl)) ?_;refine LR.call rfl c'26 rfl (Wd.g rfl rfl rfl) rfl rfl (name_ct mx_ (newP p) w0 _ mx (bf_mx.mono (by omega)) (by rw[newP_len];omega)) (fun bV ag bx=>?_);obtain⟨rfl,ar⟩:=bx;replace hf:=hf.nw ar;replace mx:=mx.nw ar;replace hm0:=hm0.trN ar;have bW:=ar.size;refine LR.w1 (Y.not rfl rfl) ?_;refine LR.pf ?_;refine LR.nil (bn _ _ ?_);refine CW.cond rfl (fun aN=>?_) (fun aN=>?_)
  ·
   have hop:=open_a (D:=D) (p:=p) (.inr (by simpa using aN));refine CW.sr (fun bz=>?_);refine LR.a1 ?_;refine LR.a1 ?_;refine LR.an ?_;refine bz _ _ ?_;refine CW.ret (bm .ret nofun _ _ (hret .ret (.inr rfl) _ _ _ (res3 rfl rfl rfl rfl) ?_));exact⟨.pointer none,0,⟨none,0,0⟩,[],_,_,(fun _=>False),by rw[hop];rfl,by rw[hop];exact hf,ab,⟨.inl ⟨rfl,rfl⟩⟩,(.inl rfl),DL.zK,⟨fun h=>absurd h (by rw[hop];exact(Nat.succ_ne_zero 6)),fun _=>⟨rfl,rfl⟩⟩,by rw[hop];rfl,Rd.nil _ _ _ _,(fun x h=>by cases h),(fun b h=>h.elim),(fun c h=>h.elim),(fun k hk b h=>h.elim),(fun b h=>h.elim),hm0⟩
  ·
   have hn1:nameB p=true:=by simpa using aM
   have hn2:nameB (newP p)=true:=by simpa using aN
   refine CW.skip (bu _ _ (CW.sr (fun bA=>?_)));refine LR.m1 ?_;refine LR.m1 ?_;refine LR.v1 (Y.build (v:= .agg #[ptr b,Str p,.int .i64 0,.bool false]) rfl rfl (by intro w;kernel_rfl)) ?_;refine LR.z1 (Z.boxv rfl rfl) fun bX bo bB=>?_;obtain⟨rfl,hlg,au,bC,aO⟩:=bB;have bp:bo.size=ag.size+1:=by rw[aO];simp
   have aA:DL (ag.size+1) K:=DL.newK hf.bk;have bq:=(DF.new (bf_mx.mono hm0.size):DF _ (ag.size+1));have av:Nx 0 H0.size (ag.size+1):=Nx.new hm0.size;replace hf:=hf.nw au;replace mx:=mx.nw au;replace hm0:=hm0.trN au;have bY:=au.size;replace hlg:Var 76 bo ag.size ([ptr b,Str p,.int .i64 ((0:Nat):Int),.bool false]):=hlg;refine LR.an ?_;refine bA _ _ (CW.sr (fun bD=>?_));refine LR.m1 ?_;refine LR.m1 ?_;refine LR.call rfl c'23 rfl (Wd.u rfl) rfl rfl (read_ct mx_ K g b D p w0 _ mx (bf_mx.mono (by omega)) hf (by omega) (fun i=>by have:=(hB.f i).1;omega)) (fun bZ aJ bE=>?_);obtain⟨bF,b0,rfl,ak,bG,al⟩:=bE;replace hf:=hf.nw al;replace mx:=mx.nw al;replace hlg:=hlg.nw al;replace hm0:=hm0.trN al;have b1:=al.size;have aB:=ak.le;refine LR.m1 ?_;refine LR.v1 (Y.extract rfl rfl rfl) ?_;refine LR.v1 (Y.extract rfl rfl rfl) ?_;refine LR.a1 ?_;refine LR.an ?_;refine bD _ _ (CW.s2 (fun bH br=>CW.sr (fun bI=>?_)));refine LR.m1 ?_;refine LR.v1 (Y.eql rfl rfl rfl) (LR.nil (bI _ _ ?_));refine CW.condp rfl (fun bJ=>?_) (fun bJ=>?_)
   ·
    have hop:=open_b (D:=D) hn1 hn2 (by omega);refine CW.s2 (fun aP aQ=>CW.sr (fun aR=>?_));refine LR.m1 ?_;refine LR.call rfl c'16 rfl (Wd.u rfl) rfl rfl (ckpt_ct mx_ K g b D ag.size p 0 false ⟨none,0,0⟩ [] (fun _=>False) N w0 _ hf mx (bf_mx.mono (by omega)) (dmx) hlg (aA) (bq) (Rd.nil _ _ _ _) (fun b h=>h.elim) (fun k hk b h=>h.elim) (fun x h=>by cases h) (fun b h=>h.elim) (fun k hk b h=>h.elim) (fun x h=>by cases h) (by simp[recs,encN]) (fun b h _=>h.elim) (fun b h _=>h.elim) hl hB (by simp[recs,encW,W8,encN];omega) (by simp)) (fun b2 b3 bK=>?_);obtain⟨bs,b4,rfl,hf,aC,hlg,dl234,aD⟩:=bK;have aE:NxK K H0.size bs:=NxK.tr (ab) aC hm0.size;replace hm0:=hm0.trL aD (MIL.app (MIL.ofK (ab) (by intro k hk;simp[hk])) (MIL.o (MI.q av)));have b5:=aD.size;have af:=hf.bk;refine LR.an ?_;refine aR _ _ (CW.sr (fun aS=>?_));refine LR.m1 ?_;refine LR.v1 (Y.neq rfl rfl rfl) (LR.nil (aS _ _ ?_));refine CW.condp rfl (fun aT=>?_) (fun aT=>?_)
    ·
     refine CW.sr (fun aU=>?_);refine LR.m1 ?_;refine LR.a1 ?_;refine LR.a1 ?_;refine LR.an ?_;refine aU _ _ ?_;refine CW.ret (aQ .ret nofun _ _ (br .ret nofun _ _ (hret .ret (.inr rfl) _ _ _ (res3 rfl rfl rfl rfl) ?_)));exact⟨.pointer none,0,⟨none,0,0⟩,[],_,_,(fun _=>False),by rw[hop];rfl,by rw[hop];exact hf,aE,⟨.inl ⟨rfl,rfl⟩⟩,(.inl rfl),DL.zK,⟨fun h=>absurd h (by rw[hop];exact(by have h9:=aT;simp only[recs,List.map_nil]at h9;show(freshD D p []).1≠0;omega)),fun _=>⟨rfl,rfl⟩⟩,by rw[hop];rfl,Rd.nil _ _ _ _,(fun x h=>by cases h),(fun b h=>h.elim),(fun c h=>h.elim),(fun k hk b h=>h.elim),(fun b h=>h.elim),hm0⟩
    ·
     refine CW.skip (aP _ _ (CW.sr (fun aV=>?_)));refine LR.m1 ?_;refine LR.a1 ?_;refine LR.a1 ?_;refine LR.an ?_;refine aV _ _ ?_;refine CW.ret (br .ret nofun _ _ (hret .ret (.inr rfl) _ _ _ (res3 rfl rfl rfl rfl) ?_));have h8:(freshD D p []).1=0:=by have h9:=aT;simp only[recs,List.map_nil]at h9;omega
     rw[h8]at hop;exact⟨ptr ag.size,(ag.size+1),⟨none,0,0⟩,[],_,_,(fun _=>False),by rw[hop];rfl,by rw[hop];exact hf,aE,⟨.inr ⟨_,rfl,rfl,by simp only[recs,List.map_nil]at hlg;rw[lgN_0 h8,lgB_0 h8]at hlg;exact hlg⟩⟩,av,dl234,⟨fun _=>⟨_,rfl,rfl⟩,fun h=>absurd (by rw[hop]) h⟩,by rw[hop];rfl,Rd.nil _ _ _ _,(fun x h=>by cases h),(fun b h=>h.elim),(fun c h=>h.elim),(fun k hk b h=>h.elim),(fun b h=>h.elim),hm0⟩
   ·
    refine CW.skip (bH _ _ (CW.s2 (fun aW aX=>CW.sr (fun aY=>?_))));refine LR.m1 ?_;refine LR.v1 (Y.neq rfl rfl rfl) (LR.nil (aY _ _ ?_));refine CW.condp rfl (fun bL=>?_) (fun bL=>?_)
    ·
     refine CW.sr (fun aZ=>?_);refine LR.m1 ?_;refine LR.a1 ?_;refine LR.a1 ?_;refine LR.an ?_;refine aZ _ _ ?_;refine CW.ret (aX .ret nofun _ _ (hret .ret (.inr rfl) _ _ _ (res3 rfl rfl rfl rfl) ?_));have h8:D.readE p≠0:=by omega
     have hop:=open_c (D:=D) hn1 hn2 (by omega) h8;exact⟨.pointer none,0,⟨none,0,0⟩,[],_,_,(fun _=>False),by rw[hop];rfl,by rw[hop];exact hf,ab,⟨.inl ⟨rfl,rfl⟩⟩,(.inl rfl),DL.zK,⟨fun h=>absurd h (by rw[hop];exact h8),fun _=>⟨rfl,rfl⟩⟩,by rw[hop];rfl,Rd.nil _ _ _ _,(fun x h=>by cases h),(fun b h=>h.elim),(fun c h=>h.elim),(fun k hk b h=>h.elim),(fun b h=>h.elim),hm0⟩
    ·
     refine CW.skip (aW _ _ (CW.sr (fun a0=>?_)));refine LR.m1 ?_;refine LR.call rfl c'27 rfl (Wd.u rfl) rfl rfl (parse_ct bF (D.readL p) w0 _ ak.rd.any (by have:=readL_bd hB p;omega)) (fun b6 aK bM=>?_);obtain⟨aL,ap,rfl,hrc44,ac,ae,aj⟩:=bM;replace hf:=hf.nw aj;replace mx:=mx.nw aj;replace hlg:=hlg.nw aj;replace ak:=ak.nw aj;replace hm0:=hm0.trN aj;have b7:=aj.size;replace ac:=ac.bnd;have ad:=ac.bf;have am:DFL (fun b=>aJ.size≤b∧b<aK.size) K:=DFL.above (fun b h=>h.1) (by first|exact af|exact fun k hk=>Nat.le_trans (af k hk) (by omega)|assumption);have ah:DF (fun b=>aJ.size≤b∧b<aK.size) (ag.size+1):=DF.above (fun b h=>h.1) (by first|exact hle_hlg|exact hlt_hlg|omega);replace ae:=fun x hx_=>(ae x hx_).bnd;have aF:DFL (fun b=>aJ.size≤b∧b<aK.size) K:=DFL.above (fun b h=>h.1) (by first|exact af|exact fun k hk=>Nat.le_trans (af k hk) (by omega)|assumption);have ao:DF (fun b=>aJ.size≤b∧b<aK.size) (ag.size+1):=DF.above (fun b h=>h.1) (by first|exact hle_hlg|exact hlt_hlg|omega);refine LR.m1 ?_;refine LR.v1 (Y.extract rfl rfl rfl) ?_;refine LR.v1 (Y.extract rfl rfl rfl) ?_;refine LR.v1 (Y.extract rfl rfl rfl) ?_;have hlt44:=congrArg List.length hrc44;simp only[recs,List.length_map]at hlt44;refine LR.a1 ?_;refine LR.a1 ?_;refine LR.an ?_;refine a0 _ _ (CW.s1 (fun az=>CW.sr (fun aG=>?_)));refine LR.m1 ?_;refine LR.v1 (Y.eql rfl rfl rfl) ?_;refine LR.m1 ?_;refine LR.splitp (d:=50) rfl (fun bN=>?_) (fun bN=>?_)
     ·
      refine LR.wm ?_;refine LR.wm ?_;refine LR.w1 (Y.len ak.rd rfl u'34 rfl) ?_;refine LR.w1 (Y.lss rfl rfl rfl) ?_;refine LR.pt ?_;refine LR.nil (aG _ _ ?_);refine CW.condp rfl (fun bO=>?_) (fun bO=>?_)
      ·
       refine CW.region ?_;refine LR.m1 ?_;refine LR.m1 ?_;refine LR.call rfl c'16 rfl (Wd.u rfl) rfl rfl (ckpt_ct mx_ K g b D ag.size p 0 false aL ap _ N w0 _ hf mx (bf_mx.mono (by omega)) (dmx) hlg (aA) (bq) ac (ad.mono (by omega)) (am) ae (ad.mono (by omega)) (aF) (fun x h=>parL_max _ _ (by rw[←hrc44];exact List.mem_map_of_mem h)) (by rw[hrc44];have h2:=(encN_parL_le (D.readL p)).1;omega) (ah) (ao) hl hB (by rw[hrc44];omega) (by omega)) (fun b8 b9 bP=>?_);obtain⟨bQ,b_,rfl,hf,ax,hlg,dl258,aw⟩:=bP;have a2:=DFL.appK (am) (ad.mono (by omega)) ax;have aH:NxK K H0.size bQ:=NxK.tr (ab) ax hm0.size;replace ac:=ac.upL aw (DFL.app am (DFL.o ah));replace ae:=fun x hx_=>(ae x hx_).upL aw (DFL.app aF (DFL.o ao));replace hm0:=hm0.trL aw (MIL.app (MIL.ofK (ab) (by intro k hk;simp[hk])) (MIL.o (MI.q av)));have ca:=aw.size;have af:=hf.bk;refine LR.an ?_;refine az _ _ (CW.s2 (fun a3 a4=>CW.sr (fun a5=>?_)));refine LR.m1 ?_;refine LR.v1 (Y.neq rfl rfl rfl) (LR.nil (a5 _ _ ?_));refine CW.condp rfl (fun aI=>?_) (fun aI=>?_)
       ·
        refine CW.sr (fun a6=>?_);refine LR.m1 ?_;refine LR.a1 ?_;refine LR.a1 ?_;refine LR.an ?_;refine a6 _ _ ?_;refine CW.ret (a4 .ret nofun _ _ (hret .ret (.inr rfl) _ _ _ (res3 rfl rfl rfl rfl) ?_));have h8:(freshD D p (parL (D.readL p))).1≠0:=by rw[←hrc44];omega
        have hop:=open_e (D:=D) hn1 hn2 (by omega) (by omega) (by omega);rw[if_neg h8]at hop;rw[hrc44]at hf;exact⟨.pointer none,0,⟨none,0,0⟩,[],_,_,(fun _=>False),by rw[hop,hrc44],by rw[hop];exact hf,aH,⟨.inl ⟨rfl,rfl⟩⟩,(.inl rfl),DL.zK,⟨fun h=>absurd h (by rw[hop];exact h8),fun _=>⟨rfl,rfl⟩⟩,by rw[hop];rfl,Rd.nil _ _ _ _,(fun x h=>by cases h),(fun b h=>h.elim),(fun c h=>h.elim),(fun k hk b h=>h.elim),(fun b h=>h.elim),hm0⟩
       ·
        try (have h8:(freshD D p (recs ap)).1=0:=(by omega);rw[lgN_0 h8,lgB_0 h8]at hlg)
        refine CW.skip (a3 _ _ (CW.sr (fun a7=>?_)));refine LR.m1 ?_;refine LR.m1 ?_;refine LR.v1 (Y.len ac rfl u'22 rfl) ?_;refine LR.n1 ?_;refine LR.v1 (Y.FA hlg.pt rfl u'76 rfl s'3) ?_;refine LR.s1 (S.var1 hlg 2 ([ptr b,Str p,.int .i64 ((ap.length:Nat):Int),.bool false]) rfl rfl rfl (rfl) s'3 (by simp) (rfl)) fun ay ai=>?_;obtain⟨hlg,aa⟩:=ai;replace aa:=aa.md1;replace hf:=hf.upL aa (DKL.cons dl258 DKL.nil);replace ac:=ac.upL aa (DFL.o ah);replace ae:=fun x hx_=>(ae x hx_).upL aa (DFL.o ao);replace hm0:=hm0.trL aa (MIL.o (MI.q av));have cb:=aa.size;refine LR.nil (a7 _ _ (CW.sr (fun a8=>?_)));refine LR.m1 ?_;refine LR.m1 ?_;refine LR.a1 ?_;refine LR.a1 ?_;refine LR.an ?_;refine a8 _ _ ?_;refine CW.ret (hret .ret (.inr rfl) _ _ _ (res3 rfl rfl rfl rfl) ?_)
        have hop:(openD D p).1=0∧(openD D p).2.1=parL (D.readL p):=by
         first
         |(have h9:=open_e (D:=D) hn1 hn2 (by omega) (by omega) (by omega);have h8:(freshD D p (parL (D.readL p))).1=0:=(by rw[←hrc44];omega);rw[h8,if_pos rfl]at h9;rw[h9];exact⟨rfl,rfl⟩)
         |(have h9:=open_f (D:=D) hn1 hn2 (by omega) (by omega) (by omega);rw[h9];exact⟨rfl,rfl⟩)
        exact⟨ptr ag.size,(ag.size+1),aL,ap,_,_,_,by rw[hop.1];rfl,(by first|(have h9:=open_e (D:=D) hn1 hn2 (by omega) (by omega) (by omega);rw[h9];rw[hrc44]at hf;exact hf)|(have h9:=open_f (D:=D) hn1 hn2 (by omega) (by omega) (by omega);rw[h9];exact hf)),aH,⟨.inr ⟨_,rfl,rfl,hlg⟩⟩,av,dl258,⟨fun _=>⟨_,rfl,rfl⟩,fun h=>absurd hop.1 h⟩,by rw[hop.2];exact hrc44,ac,(fun x h=>ae x h),(ad.mono (by omega)),(fun c h=>by have h9:=h.1;omega),(a2),(ah),hm0⟩
      ·
       refine CW.skip (az _ _ (CW.s2 (fun a9 a_=>CW.sr (fun ba=>?_))));refine LR.m1 ?_;refine LR.v1 (Y.neq rfl rfl rfl) (LR.nil (ba _ _ ?_));refine CW.condp rfl (fun aI=>?_) (fun aI=>?_)
       ·
        refine CW.sr (fun bb=>?_);refine LR.m1 ?_;refine LR.a1 ?_;refine LR.a1 ?_;refine LR.an ?_;refine bb _ _ ?_;refine CW.ret (a_ .ret nofun _ _ (hret .ret (.inr rfl) _ _ _ (res3 rfl rfl rfl rfl) ?_));have h8:parE (D.readL p)≠0:=by omega
        have hop:=open_d (D:=D) hn1 hn2 (by omega) h8;exact⟨.pointer none,0,⟨none,0,0⟩,[],_,_,(fun _=>False),by rw[hop];rfl,by rw[hop];exact hf,ab,⟨.inl ⟨rfl,rfl⟩⟩,(.inl rfl),DL.zK,⟨fun h=>absurd h (by rw[hop];exact h8),fun _=>⟨rfl,rfl⟩⟩,by rw[hop];rfl,Rd.nil _ _ _ _,(fun x h=>by cases h),(fun b h=>h.elim),(fun c h=>h.elim),(fun k hk b h=>h.elim),(fun b h=>h.elim),hm0⟩
       ·
        try (have h8:(freshD D p (recs ap)).1=0:=(by omega);rw[lgN_0 h8,lgB_0 h8]at hlg)
        refine CW.skip (a9 _ _ (CW.sr (fun bc=>?_)));refine LR.m1 ?_;refine LR.m1 ?_;refine LR.v1 (Y.len ac rfl u'22 rfl) ?_;refine LR.n1 ?_;refine LR.v1 (Y.FA hlg.pt rfl u'76 rfl s'3) ?_;refine LR.s1 (S.var1 hlg 2 ([ptr b,Str p,.int .i64 ((ap.length:Nat):Int),.bool false]) rfl rfl rfl (rfl) s'3 (by simp) (rfl)) fun ay ai=>?_;obtain⟨hlg,aa⟩:=ai;replace aa:=aa.md1;replace hf:=hf.upL aa (DKL.cons aA DKL.nil);replace ac:=ac.upL aa (DFL.o ah);replace ae:=fun x hx_=>(ae x hx_).upL aa (DFL.o ao);replace hm0:=hm0.trL aa (MIL.o (MI.q av));have cc:=aa.size;refine LR.nil (bc _ _ (CW.sr (fun bd=>?_)));refine LR.m1 ?_;refine LR.m1 ?_;refine LR.a1 ?_;refine LR.a1 ?_;refine LR.an ?_;refine bd _ _ ?_;refine CW.ret (hret .ret (.inr rfl) _ _ _ (res3 rfl rfl rfl rfl) ?_)
        have hop:(openD D p).1=0∧(openD D p).2.1=parL (D.readL p):=by
         first
         |(have h9:=open_e (D:=D) hn1 hn2 (by omega) (by omega) (by omega);have h8:(freshD D p (parL (D.readL p))).1=0:=(by rw[←hrc44];omega);rw[h8,if_pos rfl]at h9;rw[h9];exact⟨rfl,rfl⟩)
         |(have h9:=open_f (D:=D) hn1 hn2 (by omega) (by omega) (by omega);rw[h9];exact⟨rfl,rfl⟩)
        exact⟨ptr ag.size,(ag.size+1),aL,ap,_,_,_,by rw[hop.1];rfl,(by first|(have h9:=open_e (D:=D) hn1 hn2 (by omega) (by omega) (by omega);rw[h9];rw[hrc44]at hf;exact hf)|(have h9:=open_f (D:=D) hn1 hn2 (by omega) (by omega) (by omega);rw[h9];exact hf)),ab,⟨.inr ⟨_,rfl,rfl,hlg⟩⟩,av,aA,⟨fun _=>⟨_,rfl,rfl⟩,fun h=>absurd hop.1 h⟩,by rw[hop.2];exact hrc44,ac,(fun x h=>ae x h),(ad.mono (by omega)),(fun c h=>by have h9:=h.1;omega),(am),(ah),hm0⟩
     ·
      refine LR.g1 ?_;refine LR.g1 ?_;refine LR.g1 ?_;refine LR.g1 ?_;refine LR.pf ?_;refine LR.nil (aG _ _ ?_);refine CW.cond_f rfl ?_;refine CW.skip (az _ _ (CW.s2 (fun be bg=>CW.sr (fun bh=>?_))));refine LR.m1 ?_;refine LR.v1 (Y.neq rfl rfl rfl) (LR.nil (bh _ _ ?_));refine CW.condp rfl (fun aI=>?_) (fun aI=>?_)
      ·
       refine CW.sr (fun bi=>?_);refine LR.m1 ?_;refine LR.a1 ?_;refine LR.a1 ?_;refine LR.an ?_;refine bi _ _ ?_;refine CW.ret (bg .ret nofun _ _ (hret .ret (.inr rfl) _ _ _ (res3 rfl rfl rfl rfl) ?_));have h8:parE (D.readL p)≠0:=by omega
       have hop:=open_d (D:=D) hn1 hn2 (by omega) h8;exact⟨.pointer none,0,⟨none,0,0⟩,[],_,_,(fun _=>False),by rw[hop];rfl,by rw[hop];exact hf,ab,⟨.inl ⟨rfl,rfl⟩⟩,(.inl rfl),DL.zK,⟨fun h=>absurd h (by rw[hop];exact h8),fun _=>⟨rfl,rfl⟩⟩,by rw[hop];rfl,Rd.nil _ _ _ _,(fun x h=>by cases h),(fun b h=>h.elim),(fun c h=>h.elim),(fun k hk b h=>h.elim),(fun b h=>h.elim),hm0⟩
      ·
       try (have h8:(freshD D p (recs ap)).1=0:=(by omega);rw[lgN_0 h8,lgB_0 h8]at hlg)
       refine CW.skip (be _ _ (CW.seq (fun bs bj _=>CW.region ?_)));refine LR.m1 ?_;refine LR.m1 ?_;refine LR.v1 (Y.len ac rfl u'22 rfl) ?_;refine LR.n1 ?_;refine LR.v1 (Y.FA hlg.pt rfl u'76 rfl s'3) ?_;refine LR.s1 (S.var1 hlg 2 ([ptr b,Str p,.int .i64 ((ap.length:Nat):Int),.bool false]) rfl rfl rfl (rfl) s'3 (by simp) (rfl)) fun ay ai=>?_;obtain⟨hlg,aa⟩:=ai;replace aa:=aa.md1;replace hf:=hf.upL aa (DKL.cons aA DKL.nil);replace ac:=ac.upL aa (DFL.o ah);replace ae:=fun x hx_=>(ae x hx_).upL aa (DFL.o ao);replace hm0:=hm0.trL aa (MIL.o (MI.q av));have bR:=aa.size;refine LR.nil (bj _ _ (CW.sr (fun bl=>?_)));refine LR.m1 ?_;refine LR.m1 ?_;refine LR.a1 ?_;refine LR.a1 ?_;refine LR.an ?_;refine bl _ _ ?_;refine CW.ret (hret .ret (.inr rfl) _ _ _ (res3 rfl rfl rfl rfl) ?_)
       have hop:(openD D p).1=0∧(openD D p).2.1=parL (D.readL p):=by
        first
        |(have h9:=open_e (D:=D) hn1 hn2 (by omega) (by omega) (by omega);have h8:(freshD D p (parL (D.readL p))).1=0:=(by rw[←hrc44];omega);rw[h8,if_pos rfl]at h9;rw[h9];exact⟨rfl,rfl⟩)
        |(have h9:=open_f (D:=D) hn1 hn2 (by omega) (by omega) (by omega);rw[h9];exact⟨rfl,rfl⟩)
       exact⟨ptr ag.size,(ag.size+1),aL,ap,_,_,_,by rw[hop.1];rfl,(by first|(have h9:=open_e (D:=D) hn1 hn2 (by omega) (by omega) (by omega);rw[h9];rw[hrc44]at hf;exact hf)|(have h9:=open_f (D:=D) hn1 hn2 (by omega) (by omega) (by omega);rw[h9];exact hf)),ab,⟨.inr ⟨_,rfl,rfl,hlg⟩⟩,av,aA,⟨fun _=>⟨_,rfl,rfl⟩,fun h=>absurd hop.1 h⟩,by rw[hop.2];exact hrc44,ac,(fun x h=>ae x h),(ad.mono (by omega)),(fun c h=>by have h9:=h.1;omega),(am),(ah),hm0⟩
theorem wopen_ok(mx_:Int)(K:List Nat)(g:Gh)(b:Nat)(D:Dk)(p:Pth)(N:Nat)(w0:World)(H0:Heap)(hf:PDk K g H0 b D)(mx:MX mx_ H0)(bf_mx:BF (fun b=>b=0) H0.size)(dmx:DFL (fun b=>b=0) K)(hl:p.length≤4294960000)(hB:Bs N D)(hN:N≤80000000)(he:(openD D p).1=0):
 Ct Tryz.prog w0 9 #[ptr b,Str p] H0 (fun r H2=>∃(lb:Nat) (t:SV) (l:List (SV×Rec)) (K2:List Nat) (g2:Gh) (G:Nat→Prop),r= .tuple #[ptr lb,t.v,.int .i64 0]∧PDk K2 g2 H2 b (openD D p).2.2∧NxK K H0.size K2∧Var 76 H2 lb [ptr b,Str p,.int .i64 (l.length:Int),.bool false]∧Nx 0 H0.size (lb+1)∧DL (lb+1) K2∧recs l=(openD D p).2.1∧Rd G H2 fP 1 t.v l∧(∀x∈l,Rd G H2 fB 1 x.1.v x.2)∧BF G H2.size∧(∀c,G c→H0.size≤c)∧DFL G K2∧DF G (lb+1)∧Mo (Ms K) H0 H2):=by
 refine(wopen_ct mx_ K g b D p N w0 H0 hf mx bf_mx dmx hl hB hN).mono ?_;rintro r H2 ⟨lv,kl,t,l,K2,g2,G,rfl,h1,h2,h3,h4,h5,h6,h7,h8,h9,h11,h12,h13,h14,h10⟩;obtain⟨lb,rfl,rfl⟩:=h6.1 he;exact⟨lb,t,l,K2,g2,G,by rw[he];rfl,h1,h2,h3.var.2,h4,h5,h7,h8,h9,h11,h12,h13,h14,h10⟩
end WalG

namespace SimS
open E Go.RowKit SimA SimB SimC SimD SimE SimF SimG SimH SimI SimJ SimK SimL SimM SimN SimP SimQ SimR
theorem lay_a{c m:Nat}{fs:List Fdt}{nw st:Nms}{lg:List Chg}{op:Nat}{p:Pth}{w:Wr}(hn:nameB p=true)(h1:(w.on (Dk.wasL ⟨c,m,fs,nw,st,lg,op+1,0,false⟩ p) w.d.length).length≤m)(h2:usedL fs nw+(w.on (Dk.wasL ⟨c,m,fs,nw,st,lg,op+1,0,false⟩ p) w.d.length).length≤c+(Dk.wasL ⟨c,m,fs,nw,st,lg,op+1,0,false⟩ p).length):
 Dk.lay ⟨c,m,fs,nw,st,lg,op,0,false⟩ p w=(0,Dk.write ⟨c,m,fs,nw,st,lg,op+1,0,false⟩ p w):=by
 have hb:Dk.begin ⟨c,m,fs,nw,st,lg,op,0,false⟩=(true,⟨c,m,fs,nw,st,lg,op+1,0,false⟩):=by simp[Dk.begin]
 have he:=layE_0 (D:=⟨c,m,fs,nw,st,lg,op+1,0,false⟩) hn (Nat.not_lt.2 h1) (Nat.not_lt.2 h2);rw[lay_go (by rw[hb]),hb];simp only[he,if_true]
theorem on_f(b:List UInt8)(d:List UInt8):(⟨false,d⟩:Wr).on b d.length=d:=by simp[Wr.on]
theorem on_t(b:List UInt8)(d:List UInt8):(⟨true,d⟩:Wr).on b d.length=b++d:=by simp[Wr.on]
end SimS

namespace SimU
open E Go.RowKit SimA SimB SimC SimD SimE SimF SimG SimH SimI SimJ SimK SimL SimM SimN SimP SimQ SimR SimS
theorem read_of{D:Dk}{p:Pth}{i:Nat}{x:List UInt8}(hd:D.dead=false)(hn:nameB p=true)(hg:mget D.now p=some i)(hx:(fget D.fs i).now=x):D.readE p=0∧D.readL p=x:=by
 have h1:D.readE p=0:=by unfold Dk.readE;rw[hd];simp[Dk.look,hn,hg]
 exact⟨h1,by unfold Dk.readL;rw[if_pos h1,was_some hg,hx]⟩
end SimU

namespace SimY
open E Go.RowKit SimA SimB SimC SimD SimE SimF SimG SimH SimI SimJ SimK SimL SimM SimN SimP SimQ SimR SimS SimU
section
variable {H : Type} {enc : TypeId × Value → H} {P : Program} {W : World} {base : Nat} {sp : Nat → Bool} {held : Bool}
open Go.ChangeShapes Go.WideShapes Go.ChangeAt Go.RowKit Go.Deep
end
theorem begin_go{D:Dk}(h:D.dead=false)(h2:D.left=0):D.begin=(true,{D with left:=D.left-1,ops:=D.ops+1}):=by
 unfold Dk.begin;rw[if_neg (by rw[h];decide),if_neg (by omega)]
end SimY

namespace SimYA
open E Go.RowKit SimA SimB SimC SimD SimE SimF SimG SimH SimI SimJ SimK SimL SimM SimN SimP SimQ SimR SimS SimU SimY
def Sm(D E:Dk):Prop:=E.cap=D.cap∧E.most=D.most∧E.ops=D.ops∧E.left=D.left∧E.dead=D.dead
theorem Sm.rfl{D:Dk}:Sm D D:=⟨Eq.refl _,Eq.refl _,Eq.refl _,Eq.refl _,Eq.refl _⟩
theorem sm_write(D:Dk)(p:Pth)(w:Wr):Sm D (D.write p w):=by
 unfold Dk.write Dk.make
 cases mget D.now p with
 |some i=>exact Sm.rfl
 |none=>exact Sm.rfl
end SimYA

namespace SimYE
open E Go.RowKit SimA SimB SimC SimD SimE SimF SimG SimH SimI SimJ SimK SimL SimM SimN SimP SimQ SimR SimS SimU SimY SimYA
theorem fget_set{fs:List Fdt}{i j:Nat}{x:Fdt}:fget (fs.set i x) j=if j=i∧i<fs.length then x else fget fs j:=by
 unfold fget;by_cases hi:i<fs.length
 ·by_cases e:j=i
  ·rw[if_pos ⟨e,hi⟩,e,List.getD_eq_getElem?_getD,List.getElem?_set_self hi];rfl
  ·rw[if_neg (fun h=>e h.1),List.getD_eq_getElem?_getD,List.getElem?_set_ne (Ne.symm e),←List.getD_eq_getElem?_getD]
 ·rw[if_neg (fun h=>hi h.2),List.set_eq_of_length_le (by omega)]
end SimYE

namespace WalH
open E Go.RowKit SimA SimB SimC SimD SimE SimF SimG SimH SimI SimQ SimR SimS SimU SimY SimYA SimYE WalA WalB WalC WalD WalE WalF WalG
theorem tw_append{a b:List UInt8}{f:UInt8→Bool}(h:∀x∈a,f x=true):(a++b).takeWhile f=a++b.takeWhile f:=by
 induction a with
 |nil=>rfl
 |cons x a ih=>rw[List.cons_append,List.takeWhile_cons,if_pos (h x List.mem_cons_self),ih (fun y hy=>h y (List.mem_cons_of_mem _ hy)),List.cons_append]
theorem headP_new(p:Pth):headP (newP p)=headP p:=by
 unfold headP newP
 have h:((p++[46,110,101,119]).reverse.takeWhile (fun c=>decide (c≠47))).length=4+(p.reverse.takeWhile (fun c=>decide (c≠47))).length:=by
  rw[List.reverse_append,tw_append (by decide),List.length_append];rfl
 rw[h,List.length_append,List.length_cons,List.length_cons,List.length_cons,List.length_cons,List.length_nil];rw[List.take_append_of_le_length (by omega)];congr 1;omega
theorem dirP_new{p:Pth}(h:nameB p=true)(h2:nameB (newP p)=true):dirP (newP p)=dirP p:=by unfold dirP;rw[if_pos h,if_pos h2,headP_new]
theorem blt_new(p:Pth):blt p (newP p):=by
 unfold blt newP
 induction p with
 |nil=>decide
 |cons x p ih=>simp only[List.cons_append,Op.bytesLess];simpa using ih
theorem new_ne(p:Pth):newP p≠p:=fun e=>by have:=congrArg List.length e;rw[newP_len]at this;omega
theorem new_nn(p:Pth):¬newP p=[]:=by simp[newP]
structure One (cap most:Nat) (p:Pth) (x:List UInt8) (D:Dk):Prop where
 dead:D.dead=false
 left:D.left=0
 cap:D.cap=cap
 most:D.most=most
 nw:∃i,D.now=[(p,i)]∧i<D.fs.length∧(fget D.fs i).now=x
section
variable {cap most : Nat} {p : Pth} {x : List UInt8} {D : Dk}
theorem One.used(h:One cap most p x D):D.used=x.length:=by
 obtain⟨i,h1,_,h2⟩:=h.nw;unfold Dk.used usedL;rw[h1];simp[h2]
theorem One.was(h:One cap most p x D):D.wasL p=x:=by
 obtain⟨i,h1,_,h2⟩:=h.nw;unfold Dk.wasL;rw[h1];simp[mget,h2]
theorem One.read(h:One cap most p x D)(hn:nameB p=true):D.readE p=0∧D.readL p=x:=by
 obtain⟨i,h1,_,h2⟩:=h.nw;exact read_of h.dead hn (by rw[h1];simp[mget]) h2
theorem One.begin(h:One cap most p x D):D.begin=(true,D.begin.2)∧One cap most p x D.begin.2:=by
 have e:=begin_go h.dead h.left;rw[e];exact⟨rfl,h.dead,by show D.left-1=0;rw[h.left],h.cap,h.most,h.nw⟩
theorem One.lay(h:One cap most p x D)(hn:nameB p=true)(w:Wr):
 ((D.lay p w).1=5∧most<(w.on x w.d.length).length∧One cap most p x (D.lay p w).2)∨((D.lay p w).1=12∧cap<(w.on x w.d.length).length∧One cap most p x (D.lay p w).2)∨
 ((D.lay p w).1=0∧(w.on x w.d.length).length≤cap∧One cap most p (w.on x w.d.length) (D.lay p w).2):=by
 obtain⟨hb,h1⟩:=h.begin;rw[lay_go (by rw[hb])];by_cases c1:most<(w.on x w.d.length).length
 ·rw[layE_5 hn (by rw[h1.was,h1.most];exact c1)]
  exact .inl ⟨rfl,c1,h1⟩
 by_cases c2:cap<(w.on x w.d.length).length
 ·rw[layE_12 hn (by rw[h1.was,h1.most];exact c1) (by rw[h1.was,h1.cap,h1.used];omega)]
  exact .inr (.inl ⟨rfl,c2,h1⟩)
 rw[layE_0 hn (by rw[h1.was,h1.most];exact c1) (by rw[h1.was,h1.cap,h1.used];omega)];refine .inr (.inr ⟨rfl,by omega,?_⟩);simp only[if_true];obtain⟨s1,s2,s3,s4,s5⟩:=sm_write D.begin.2 p w;obtain⟨i,e1,e2,e3⟩:=h1.nw;have hm:mget D.begin.2.now p=some i:=by rw[e1];simp[mget]
 refine⟨by rw[s5];exact h1.dead,by rw[s4];exact h1.left,by rw[s1];exact h1.cap,by rw[s2];exact h1.most,i,?_⟩;unfold Dk.write Dk.make;rw[hm];refine⟨e1,by show i<(D.begin.2.fs.set i _).length;rw[List.length_set];exact e2,?_⟩;show(fget (D.begin.2.fs.set i _) i).now=_;rw[fget_set,if_pos ⟨rfl,e2⟩,e3]
theorem One.sync(h:One cap most p x D)(hn:nameB p=true):(D.sync p).1=0∧One cap most p x (D.sync p).2:=by
 obtain⟨hb,h1⟩:=h.begin;obtain⟨i,e1,e2,e3⟩:=h1.nw;have hm:mget D.begin.2.now p=some i:=by rw[e1];simp[mget]
 have hl:D.begin.2.look p=0:=by unfold Dk.look;rw[if_pos hn,hm];rfl
 rw[sync_go (by rw[hb]),hl];refine⟨rfl,?_⟩;simp only[if_true];rw[hm];refine⟨h1.dead,h1.left,h1.cap,h1.most,i,e1,by show i<(D.begin.2.fs.set i _).length;rw[List.length_set];exact e2,?_⟩;show(fget (D.begin.2.fs.set i _) i).now=_;rw[fget_set,if_pos ⟨rfl,e2⟩];exact e3
structure Two (cap most:Nat) (p:Pth) (x:List UInt8) (D:Dk):Prop where
 dead:D.dead=false
 left:D.left=0
 cap:D.cap=cap
 most:D.most=most
 nw:∃k,mget D.now (newP p)=some k∧k<D.fs.length∧(fget D.fs k).now=x∧(Chg.ap ⟨newP p,p,some k⟩ D.now)=[(p,k)]
theorem Two.begin(h:Two cap most p x D):D.begin=(true,D.begin.2)∧Two cap most p x D.begin.2:=by
 have e:=begin_go h.dead h.left;rw[e];exact⟨rfl,h.dead,by show D.left-1=0;rw[h.left],h.cap,h.most,h.nw⟩
theorem Two.sync(h:Two cap most p x D)(hn:nameB (newP p)=true):(D.sync (newP p)).1=0∧Two cap most p x (D.sync (newP p)).2:=by
 obtain⟨hb,h1⟩:=h.begin;obtain⟨k,e1,e2,e3,e4⟩:=h1.nw;have hl:D.begin.2.look (newP p)=0:=by unfold Dk.look;rw[if_pos hn,e1];rfl
 rw[sync_go (by rw[hb]),hl];refine⟨rfl,?_⟩;simp only[if_true];rw[e1];refine⟨h1.dead,h1.left,h1.cap,h1.most,k,e1,by show k<(D.begin.2.fs.set k _).length;rw[List.length_set];exact e2,?_,e4⟩;show(fget (D.begin.2.fs.set k _) k).now=_;rw[fget_set,if_pos ⟨rfl,e2⟩];exact e3
theorem Two.rename(h:Two cap most p x D)(n1:nameB p=true)(n2:nameB (newP p)=true):(D.rename (newP p) p).1=0∧One cap most p x (D.rename (newP p) p).2:=by
 obtain⟨hb,h1⟩:=h.begin;obtain⟨k,e1,e2,e3,e4⟩:=h1.nw;have hl:D.begin.2.renE (newP p) p=0:=by rw[renE_l n2 n1 (dirP_new n1 n2)];unfold Dk.look;rw[if_pos n2,e1];rfl
 rw[ren_go (by rw[hb]),hl];refine⟨rfl,?_⟩;rw[if_pos ⟨rfl,new_ne p⟩,e1];exact⟨h1.dead,h1.left,h1.cap,h1.most,k,e4,e2,e3⟩
theorem One.syncDir(h:One cap most p x D){d:Pth}(hd:dirE d=0):(D.syncDir d).1=0∧One cap most p x (D.syncDir d).2:=by
 obtain⟨hb,h1⟩:=h.begin;rw[sd_go (by rw[hb]),hd];exact⟨rfl,h1.dead,h1.left,h1.cap,h1.most,h1.nw⟩
theorem fresh_run{D1:Dk}{l:List Rec}(h:D.lay (newP p) ⟨false,encW l⟩=(0,D1))(h1:Two cap most p (encW l) D1)(n1:nameB p=true)(n2:nameB (newP p)=true)(hd:dirE (dirP p)=0):(freshD D p l).1=0∧One cap most p (encW l) (freshD D p l).2:=by
 obtain⟨a1,a2⟩:=h1.sync n2;obtain⟨b1,b2⟩:=a2.rename n1 n2;obtain⟨c1,c2⟩:=b2.syncDir hd;unfold freshD frS;simp only[runD,h,if_true,a1,b1,c1];exact⟨trivial,c2⟩
theorem fresh_bad{l:List Rec}(h:(D.lay (newP p) ⟨false,encW l⟩).1≠0):freshD D p l=D.lay (newP p) ⟨false,encW l⟩:=by
 unfold freshD frS runD;rw[if_neg h]
theorem write_two{q:Pth}{k:Nat}{w:Wr}(hm:mget D.now q=none):D.write q w=({D with fs:=(D.fs++[(⟨[],[],[]⟩:Fdt)]).set D.fs.length ⟨w.on [] w.d.length,[],[w]⟩,now:=nput D.now q D.fs.length,log:=D.log++[⟨[],q,some D.fs.length⟩]}:Dk):=by
 unfold Dk.write Dk.make;rw[hm];simp only[Dk.change,Dk.putF,Chg.ap,if_true];rw[show fget (D.fs++[(⟨[],[],[]⟩:Fdt)]) D.fs.length=⟨[],[],[]⟩by simp[fget]];rfl
theorem One.fresh(h:One cap most p x D)(n1:nameB p=true)(n2:nameB (newP p)=true)(hd:dirE (dirP p)=0)(l:List Rec)(hm:(encW l).length≤most):
 ((freshD D p l).1=12∧cap<x.length+(encW l).length∧One cap most p x (freshD D p l).2)∨((freshD D p l).1=0∧x.length+(encW l).length≤cap∧One cap most p (encW l) (freshD D p l).2):=by
 obtain⟨hb,h1⟩:=h.begin;obtain⟨i,e1,e2,e3⟩:=h1.nw;have hq:mget D.begin.2.now (newP p)=none:=by rw[e1];simp[mget,new_ne]
 have hw:D.begin.2.wasL (newP p)=[]:=by unfold Dk.wasL;rw[hq]
 have ho:((⟨false,encW l⟩:Wr).on [] (encW l).length)=encW l:=on_f _ _;have hlg:=lay_go (D:=D) (p:=newP p) (w:=⟨false,encW l⟩) (by rw[hb]);by_cases c2:cap<x.length+(encW l).length
 ·rw[layE_12 n2 (by rw[hw,h1.most];simp only[ho];omega) (by rw[hw,h1.cap,h1.used];simp only[ho,List.length_nil];omega)]at hlg
  have hbad:(D.lay (newP p) ⟨false,encW l⟩).1≠0:=by rw[hlg];exact Nat.succ_ne_zero 11
  rw[fresh_bad hbad,hlg];exact .inl ⟨rfl,c2,h1⟩
 ·rw[layE_0 n2 (by rw[hw,h1.most];simp only[ho];omega) (by rw[hw,h1.cap,h1.used];simp only[ho,List.length_nil];omega)]at hlg
  simp only[if_true]at hlg;refine .inr ?_
  have hT:Two cap most p (encW l) (D.begin.2.write (newP p) ⟨false,encW l⟩):=by
   rw[write_two (k:=0) hq];refine⟨h1.dead,h1.left,h1.cap,h1.most,D.begin.2.fs.length,?_,?_,?_,?_⟩
   ·show mget (nput _ _ _) _=_;rw[mget_nput,if_pos rfl]
   ·simp
   ·show(fget ((_:List Fdt).set _ _) _).now=_
    rw[fget_set,if_pos ⟨rfl,by simp⟩];exact ho
   ·show Chg.ap _ (nput D.begin.2.now _ _)=_
    have h9:¬p=newP p:=fun e=>new_ne p e.symm;rw[e1];simp[Chg.ap,nput,blt_new,mdel,new_ne,blt_irr,new_nn,h9]
  have:=fresh_run hlg hT n1 n2 hd;exact⟨this.1,by omega,this.2⟩
theorem One.start(n1:nameB p=true)(n2:nameB (newP p)=true)(hd:dirE (dirP p)=0)(hm:8≤most)(hc:8≤cap):(openD (Dk.empty cap most) p).1=0∧(openD (Dk.empty cap most) p).2.1=[]∧One cap most p (encW []) (openD (Dk.empty cap most) p).2.2:=by
 have hr:(Dk.empty cap most).readE p=2:=by simp[Dk.readE,Dk.empty,Dk.look,n1,mget]
 have e8:encW []=W8:=rfl
 have hlg:(Dk.empty cap most).lay (newP p) ⟨false,encW []⟩=(0,Dk.write ⟨cap,most,[],[],[],[],1,0,false⟩ (newP p) ⟨false,encW []⟩):=by
  unfold Dk.empty;rw[lay_a n2 (by simp only[on_f];exact hm) (by simp only[on_f];simp[usedL,Dk.wasL,mget];exact hc)]
 have hT:Two cap most p (encW []) (Dk.write ⟨cap,most,[],[],[],[],1,0,false⟩ (newP p) ⟨false,encW []⟩):=by
  rw[write_two (k:=0) rfl];refine⟨rfl,rfl,rfl,rfl,0,?_,?_,?_,?_⟩
  ·show mget (nput _ _ _) _=_;rw[mget_nput,if_pos rfl];rfl
  ·simp
  ·simp[fget,on_f]
  ·simp[Chg.ap,nput,mdel,new_nn]
 have:=fresh_run hlg hT n1 n2 hd;rw[open_b n1 n2 hr];exact⟨this.1,rfl,this.2⟩
theorem runD_c0{f:Stp}{fs:List Stp}{D:Dk}(h:(f D).1=0):runD (f::fs) D=runD fs (f D).2:=by rw[runD,if_pos h]
theorem runD_c1{f:Stp}{fs:List Stp}{D:Dk}(h:(f D).1≠0):runD (f::fs) D=f D:=by rw[runD,if_neg h]
theorem One.recd(h:One cap most p x D)(hn:nameB p=true)(n:Nat)(r:Rec)(hm:x.length+13+r.length≤most):
 ((runD (apS p n r) D).1=12∧(One cap most p x (runD (apS p n r) D).2∨One cap most p (x++layW n r) (runD (apS p n r) D).2)∧cap<x.length+13+r.length)∨((runD (apS p n r) D).1=0∧One cap most p (x++recW n r) (runD (apS p n r) D).2):=by
 have hl:=layW_len n r;have on1:∀b:List UInt8,(⟨true,[67]⟩:Wr).on b 1=b++[67]:=fun b=>by simp[Wr.on]
 unfold apS;rcases h.lay hn ⟨true,layW n r⟩with⟨_,e,_⟩|⟨e1,e2,e3⟩|⟨e1,e2,e3⟩
 ·simp only[on_t,List.length_append]at e;omega
 ·simp only[on_t,List.length_append]at e2
  rw[runD_c1 (by rw[e1];decide)];exact .inl ⟨e1,.inl e3,by omega⟩
 ·simp only[on_t,List.length_append]at e3 e2
  obtain⟨f1,f2⟩:=e3.sync hn;rw[runD_c0 e1,runD_c0 f1];rcases f2.lay hn ⟨true,[67]⟩with⟨_,e,_⟩|⟨g1,g2,g3⟩|⟨g1,g2,g3⟩
  ·simp only[List.length_singleton,on1,List.length_append]at e;omega
  ·simp only[List.length_singleton,on1,List.length_append]at g2
   rw[runD_c1 (by rw[g1];decide)];exact .inl ⟨g1,.inr g3,by omega⟩
  ·simp only[List.length_singleton,on1]at g3
   obtain⟨k1,k2⟩:=g3.sync hn;rw[runD_c0 g1,runD_c0 k1];refine .inr ⟨rfl,?_⟩;unfold recW;rw[←List.append_assoc];exact k2
end
end WalH

namespace WalI
open E Go.RowKit SimA SimB SimC SimD SimE SimF SimG SimH SimI SimQ SimR SimS SimU SimY SimYA SimYE WalA WalB WalC WalD WalE WalF WalG WalH
set_option maxRecDepth 100000 in
theorem inf22:Inf Tryz.prog 22 34 1 24:=⟨Tryz.underlying22,_,_,rfl,rfl,rfl,rfl,rfl⟩
set_option maxRecDepth 100000 in
theorem inf34:Inf Tryz.prog 34 5 1 1:=⟨Tryz.underlying34,_,_,rfl,rfl,rfl,rfl,rfl⟩
theorem within3_ct(a:Int)(n:Nat)(w0:World)(H0:Heap)
 (hn:1≤n∧n≤4611686018427387904) (ha: -9223372036854775808≤a∧a≤9223372036854775807):
 Ct Tryz.prog w0 15 #[.int .i64 a,.int .i64 (n:Int)] H0 (fun r H2=>r= .int .i64 (wiN a n:Int)∧Nw H0 H2):=by
 refine Ct.enter (args:=[.int .i64 a,.int .i64 (n:Int)]) Tryz.func15 rfl rfl rfl ?_;intro Q0 hret;have hm0:Nw H0 H0:=Mo.refl _ _;refine CW.sr (fun ab=>?_);refine LR.an ?_;refine ab _ _ (CW.sr (fun ac=>?_));refine LR.m1 ?_;refine LR.m1 ?_;refine LR.v1 (Y.rem rfl rfl rfl (by omega)) ?_;have ht1:=Int.tmod_lt_of_pos a (show(0:Int)<n by omega);have ht2:=Int.lt_tmod_of_pos a (show(0:Int)<n by omega);refine LR.an ?_;refine ac _ _ (CW.s1 (fun aa=>CW.sr (fun ad=>?_)));refine LR.m1 ?_;refine LR.v1 (Y.lss rfl rfl rfl) (LR.nil (ad _ _ ?_));refine CW.condp rfl (fun ae=>?_) (fun ae=>?_)
 ·
  refine CW.region ?_;refine LR.m1 ?_;refine LR.m1 ?_;refine LR.v1 (Y.addi rfl rfl rfl (by omega)) ?_;refine LR.an ?_;refine aa _ _ (CW.sr (fun af=>?_));refine LR.m1 ?_;refine LR.an ?_;refine af _ _ ?_;refine CW.ret (hret .ret (.inr rfl) _ _ _ (res1 rfl rfl) ?_);exact⟨by rw[wiN_neg (by omega) (by omega)],hm0⟩
 ·
  refine CW.skip (aa _ _ (CW.sr (fun ag=>?_)));refine LR.m1 ?_;refine LR.an ?_;refine ag _ _ ?_;refine CW.ret (hret .ret (.inr rfl) _ _ _ (res1 rfl rfl) ?_);exact⟨by rw[wiN_pos (by omega) (by omega)],hm0⟩
theorem one_opens{cap most:Nat}{p:Pth}{l:List Rec}{D:Dk}(h:One cap most p (encW l) D)(n1:nameB p=true)(n2:nameB (newP p)=true)(hl:∀r∈l,r.length≤1048576):openD D p=(0,l,D):=by
 obtain⟨h1,h2⟩:=h.read n1;have e1:parE (D.readL p)=0:=by rw[h2];have:=parE_enc l [];rwa[List.append_nil]at this
 have e2:parL (D.readL p)=l:=by rw[h2];exact parL_all hl
 have e3:¬parS (D.readL p)<(D.readL p).length:=by
  unfold parS;unfold parE at e1;split at e1
  ·rename_i h8;rw[if_pos h8,e2,h2];omega
  ·cases e1
 rw[open_f n1 n2 h1 e1 e3,e2]
theorem one_app{cap most:Nat}{p:Pth}{l:List Rec}{r:Rec}{D:Dk}(h:One cap most p (encW l) D)(n1:nameB p=true)(hm:(encW l).length+13+r.length≤most)(hc:(encW l).length+13+r.length≤cap):(appD D p l.length false r).1=0∧(appD D p l.length false r).2.1=l.length+1∧(appD D p l.length false r).2.2.1=false∧One cap most p (encW (l++[r])) (appD D p l.length false r).2.2.2:=by
 rw[app_go (pre_0 rfl)];rcases h.recd n1 l.length r hm with⟨_,_,h3⟩|⟨h1,h2⟩
 ·omega
 ·simp only[h1,if_true]
  refine⟨trivial,trivial,trivial,?_⟩;rw[encW_snoc];exact h2
def fewL(l:List Rec):List Rec:=(l.take 20).filter (fun r=>decide (r.length<3000))
theorem few_len(l:List Rec):(fewL l).length≤20:=Nat.le_trans (List.length_filter_le _ _) (by rw[List.length_take];omega)
theorem few_mem{l:List Rec}:∀r∈fewL l,r.length<3000:=fun r h=>by simpa using(List.mem_filter.1 h).2
theorem few_sum{l:List Rec}(h:∀r∈l,r.length<3000):(l.map (fun r=>13+r.length)).sum≤l.length*3013:=by
 induction l with
 |nil=>simp
 |cons r l ih=>
  have h1:=h r List.mem_cons_self;have h2:=ih (fun x hx=>h x (List.mem_cons_of_mem _ hx));simp only[List.map_cons,List.sum_cons,List.length_cons];omega
theorem few_enc(l:List Rec):(encW (fewL l)).length≤60268∧(encN 0 (fewL l)).length≤60260:=by
 have h1:=few_len l;have h2:=few_sum (few_mem (l:=l));rw[encW_len,encN_len];omega
theorem few_snoc{l:List Rec}{i:Nat}(h:i<l.length):(l.take (i+1)).filter (fun r=>decide (r.length<3000))=(l.take i).filter (fun r=>decide (r.length<3000))++(if l[i].length<3000 then[l[i]]else[]):=by
 rw[List.take_succ_eq_append_getElem h,List.filter_append,List.filter_cons,List.filter_nil];simp
theorem known3_ct(mx_:Int)(w0:World)(H0:Heap)
 (mx:MX mx_ H0) (bf_mx:BF (fun b=>b=0) H0.size):
 Ct Tryz.prog w0 6 #[] H0 (fun r H2=>r= .bool true∧Nw H0 H2):=by
 refine Ct.enter (args:=[]) Tryz.func6 rfl rfl rfl ?_;intro Q0 hret;have hm0:Nw H0 H0:=Mo.refl _ _;refine CW.sr (fun a0=>?_);refine LR.an ?_;refine a0 _ _ (CW.sr (fun a2=>?_));refine LR.call rfl c'8 rfl (Wd.u rfl) rfl rfl (new_ct 65536 65536 w0 _ (by decide) (by decide)) ?_;rintro v7 H7 ⟨Q7,g7,b7,rfl,hf,hkn7,az⟩;have aA:=DFL.appK (DFL.nil) (bf_mx.mono hm0.size) hkn7;have aK:NxK [] H0.size Q7:=NxK.tr (NxK.refl [] _) hkn7 hm0.size;replace mx:=mx.nw az;replace hm0:=hm0.tr az;have bq:=az.size;have aa:=hf.bk;have hS7:=Bs.empty 65536 65536;have hst:=One.start (p:=[106]) (cap:=65536) (most:=65536) (by decide) (by decide) (by decide) (by decide) (by decide);refine LR.m1 ?_;refine LR.v1 (Y.extract rfl rfl rfl) ?_;refine LR.v1 (Y.extract rfl rfl rfl) ?_;refine LR.a1 ?_;refine LR.an ?_;refine a2 _ _ (CW.s1 (fun a3=>CW.sr (fun a4=>?_)));refine LR.m1 ?_;refine LR.v1 ((Y.neq rfl rfl rfl).isF ((fun h=>h rfl))) ?_;refine LR.m1 ?_;refine LR.wm ?_;refine LR.w1 (Y.peq rfl (by kernel_rfl) (by kernel_rfl) rfl rfl) ?_;refine LR.pf ?_;refine LR.nil (a4 _ _ ?_);refine CW.cond_f rfl ?_;refine CW.skip (a3 _ _ (CW.sr (fun a5=>?_)));refine LR.m1 ?_;refine LR.call rfl c'9 rfl (Wd.u rfl) rfl rfl (wopen_ok mx_ Q7 g7 b7 (Dk.empty 65536 65536) [106] _ w0 _ hf mx (bf_mx.mono (by omega)) (aA) (by decide) hS7 (by decide) hst.1) (fun br ap a6=>?_);obtain⟨lb18,bs,ao,aB,a7,bt,rfl,hf,ah,hlg,ai,dl218,aj,aC,a8,aL,aM,aN,aO,al⟩:=a6;have aD:=DFL.appK (aA) (bf_mx.mono hm0.size) ah;have aP:NxK [] H0.size aB:=NxK.tr (aK) ah hm0.size;have aQ:=DF.app (DF.z) (bf_mx.mono hm0.size) ai;have a9:Nx 0 H0.size (lb18+1):=Nx.tr (Nx.refl 0 _) ai hm0.size;replace mx:=mx.upL al (aA);replace hm0:=hm0.tq al (MIL.ofK0 (aK));have bu:=al.size;have aa:=hf.bk;have aw:=hlg.le;have hS18:=bs_open hS7 [106];rw[hst.2.1]at aj;have hl0:ao.length=0:=by have:=congrArg List.length aj;simpa[recs]using this
 have hap:=one_app hst.2.2 (l:=[]) (r:=[97]) (by decide) (by decide) (by decide);rw[List.length_nil,←hl0]at hap;obtain⟨ha1,ha2,ha3,ha4⟩:=hap;refine LR.m1 ?_;refine LR.v1 (Y.extract rfl rfl rfl) ?_;refine LR.v1 (Y.extract rfl rfl rfl) ?_;refine LR.v1 (Y.extract rfl rfl rfl) ?_;refine LR.a1 ?_;refine LR.a1 ?_;refine LR.an ?_;refine a5 _ _ (CW.s1 (fun a_=>CW.sr (fun ba=>?_)));refine LR.m1 ?_;refine LR.v1 ((Y.neq rfl rfl rfl).isF ((fun h=>h rfl))) ?_;refine LR.m1 ?_;refine LR.wm ?_;refine LR.w1 (Y.peq rfl (by kernel_rfl) (by kernel_rfl) rfl rfl) ?_;refine LR.pf ?_;refine LR.m1 ?_;refine LR.wm ?_;refine LR.w1 (Y.len aC rfl u'22 rfl) ?_;refine LR.w1 ((Y.neq rfl rfl rfl).isF ((fun h=>h (by omega)))) ?_;refine LR.pf ?_;refine LR.m1 ?_;refine LR.wm ?_;refine LR.z (Z.litw _ ([(97:UInt8)]) rfl inf34 rfl rfl rfl (by decide) (by decide) fB_len fB_one (rfl)) (Wd.g rfl rfl rfl) rfl rfl (fun bv bb bc=>?_);obtain⟨ac,ae,bd,aE⟩:=bc;have aR:bb.size=ap.size+1:=by rw[aE];simp
 have be:=(DF.new (bf_mx.mono hm0.size):DF _ (ap.size+1));have aq:DL (ap.size+1) aB:=DL.newK hf.bk;have ar:Dj (lb18+1) (ap.size+1):=Dj.new hlg.le;have aF:Nx 0 H0.size (ap.size+1):=Nx.new hm0.size;replace mx:=mx.nw ae;replace hf:=hf.nw ae;replace hlg:=hlg.nw ae;replace hm0:=hm0.tr ae;have bw:=ae.size;refine LR.z (Z.bconst ac (by decide) rfl Tryz.underlying34 Tryz.underlying5 rfl) (Wd.g rfl rfl rfl) rfl rfl (fun aS bx bf=>?_);obtain⟨rfl,ac,ab⟩:=bf;replace ab:=ab.md;replace mx:=mx.upL ab (DFL.o be);replace hf:=hf.upL ab (DKL.cons aq DKL.nil);replace hlg:=hlg.upL ab (DL.o ar);replace hm0:=hm0.tq ab (MIL.o (MI.q aF));have bz:=ab.size;obtain⟨bg,rfl⟩:∃s:SV,aS=s.v:=⟨toSV aS,ac.sv.symm⟩;refine LR.call rfl c'10 rfl (Wd.g rfl rfl rfl) rfl rfl (wapp_ct mx_ aB a7 b7 (openD (Dk.empty 65536 65536) [106]).2.2 lb18 [106] ao.length false bg [97] _ _ w0 _ hf mx (bf_mx.mono (by omega)) (aD) hlg (dl218) (aQ) ac.rd (BF.of ac.le) (DFL.of (aq)) (DF.of (ar.symm)) (by decide) (by decide) hS18 (by decide) (by omega)) (fun bA bB bh=>?_);obtain⟨aT,bi,rfl,hf,ak,hlg,dl237,am⟩:=bh;have aG:=DFL.appK (aD) (bf_mx.mono hm0.size) ak;have aH:NxK [] H0.size aT:=NxK.tr (aP) ak hm0.size;replace mx:=mx.upL am (DFL.app aD (DFL.o aQ));replace hm0:=hm0.tq am (MIL.app (MIL.ofK0 (aP)) (MIL.o (MI.q a9)));have bC:=am.size;have aa:=hf.bk;have hS37:=bs_app hS18 [106] ao.length false [97];have hop2:(openD (appD (openD (Dk.empty 65536 65536) [106]).2.2 [106] ao.length false [97]).2.2.2 [106]).1=0∧(openD (appD (openD (Dk.empty 65536 65536) [106]).2.2 [106] ao.length false [97]).2.2.2 [106]).2.1=[[97]]:=by rw[one_opens ha4 (by decide) (by decide) (by decide)];exact⟨rfl,rfl⟩
 refine LR.w1 ((Y.neq rfl rfl rfl).isF ((fun h=>h (by omega)))) ?_;refine LR.pf ?_;refine LR.m1 ?_;refine LR.wm ?_;refine LR.call rfl c'11 rfl (Wd.g rfl rfl rfl) rfl rfl (count_ct lb18 _ _ _ _ w0 _ hlg) (fun bD bE bj=>?_);obtain⟨rfl,ag⟩:=bj;replace mx:=mx.nw ag;replace hf:=hf.nw ag;replace hm0:=hm0.tr ag;have bF:=ag.size;refine LR.w1 ((Y.neq rfl rfl rfl).isF ((fun h=>h (by rw[ha2];omega)))) ?_;refine LR.pf ?_;refine LR.nil (ba _ _ ?_);refine CW.cond_f rfl ?_;refine CW.skip (a_ _ _ (CW.sr (fun bl=>?_)));refine LR.m1 ?_;refine LR.call rfl c'9 rfl (Wd.u rfl) rfl rfl (wopen_ok mx_ aT bi b7 (appD (openD (Dk.empty 65536 65536) [106]).2.2 [106] ao.length false [97]).2.2.2 [106] _ w0 _ hf mx (bf_mx.mono (by omega)) (aG) (by decide) hS37 (by decide) hop2.1) (fun bG bH bm=>?_);obtain⟨lb47,bI,ax,bJ,bK,bL,rfl,hf,aU,hlh,aV,dl247,af,au,aI,aW,aX,aY,aZ,av⟩:=bm;replace hm0:=hm0.tq av (MIL.ofK0 (aH));have bM:=av.size;have aa:=hf.bk;have ay:=hlh.le;rw[hop2.2]at af;have hl1:ax.length=1:=by have:=congrArg List.length af;simpa[recs]using this
 have bn:=aI ax[0] (List.getElem_mem (by omega));have he1:ax[0].2=[97]:=by have:(recs ax)[0]?=some [97]:=(by rw[af];rfl);rw[List.getElem?_map,List.getElem?_eq_getElem (by omega)]at this;exact Option.some.inj this
 refine LR.m1 ?_;refine LR.v1 (Y.extract rfl rfl rfl) ?_;refine LR.v1 (Y.extract rfl rfl rfl) ?_;refine LR.v1 (Y.extract rfl rfl rfl) ?_;refine LR.a1 ?_;refine LR.an ?_;refine bl _ _ (CW.sr (fun bo=>?_));refine LR.m1 ?_;refine LR.v1 ((Y.eql rfl rfl rfl).isT (rfl)) ?_;refine LR.m1 ?_;refine LR.wm ?_;refine LR.w1 (Y.len au rfl u'22 rfl) ?_;refine LR.w1 ((Y.eql rfl rfl rfl).isT (by omega)) ?_;refine LR.pt ?_;refine LR.m1 ?_;refine LR.wm ?_;refine LR.e (g:=fun ad=> .pointer (some ad)) (Y.iF au (0) rfl u'22 s'34 rfl rfl) (Wd.g rfl rfl rfl) rfl rfl (fun bp aJ=>?_);refine LR.w1 (Y.load1 aJ.pt rfl a'34 rfl) ?_;refine LR.w1 (Y.cast (v2:=Str [97]) (Y.bstr bn rfl Tryz.underlying34 Tryz.underlying9 Tryz.underlying5 rfl) (by rw[he1])) ?_;refine LR.w1 ((Y.seql rfl rfl rfl).isT (rfl)) ?_;refine LR.pt ?_;refine LR.an ?_;refine bo _ _ ?_;refine CW.ret (hret .ret (.inr rfl) _ _ _ (res1 rfl rfl) ?_);exact⟨rfl,hm0⟩
theorem few_ct(s:SV)(l:List (SV×Rec))(w0:World)(H0:Heap)
 (hl:RdT H0 fP 1 s.v l) (hx:∀x∈l,RdT H0 fB 1 x.1.v x.2):
 Ct Tryz.prog w0 7 #[s.v] H0 (fun r H2=>∃t:SV,∃m:List (SV×Rec),r=t.v∧(recs m=fewL (recs l))∧(Rd (fun b=>H0.size≤b) H2 fP 1 t.v m)∧(∀x∈m,Rd (fun b=>H0.size≤b) H2 fB 1 x.1.v x.2)∧Nw H0 H2):=by
 refine Ct.enter (args:=[s.v]) Tryz.func7 rfl rfl rfl ?_;intro Q0 hret;have hm0:Nw H0 H0:=Mo.refl _ _;replace hl:=hl.bnd;replace hx:=fun x ai=>(hx x ai).bnd;have al:BF (fun b=>True∧b<H0.size) H0.size:=fun b h=>h.2;have hll:=hl.len;have hln:(recs l).length=l.length:=by simp[recs]
 refine CW.sr (fun aY=>?_);refine LR.an ?_;refine aY _ _ (CW.sr (fun aZ=>?_));refine LR.an ?_;refine aZ _ _ (CW.s1 (fun aK=>CW.sr (fun a0=>?_)));refine LR.an ?_;refine a0 _ _ (CW.block (fun _ _ aL _=>?_))
 refine CW.loop (fun(s_:(Nat)×(Value)×(Nat)×(List (SV×Rec))×(Nat→Prop))=>match s_ with|(i,vo,ko,m,G)=>[(0,s.v),(3,vo),(4,.int .i64 (i:Int))])
  (fun(i,vo,ko,m,G) (H:Heap)=>(i≤l.length∧i≤20∧m.length≤i)∧(recs m=((recs l).take i).filter (fun r=>decide (r.length<3000)))∧(Ow ko 34 H fP 1 vo m)∧(∀x∈m,Rd G H fB 1 x.1.v x.2)∧(BF G H.size)∧(DF G ko)∧(∀c,G c→H0.size≤c)∧(Nx 0 H0.size ko)∧Nw H0 H)
  (fun(i,vo,ko,m,G)=>l.length-i) (0,.slice none 0 0,0,[],fun _=>False) ⟨rfl,rfl,rfl,trivial⟩ ?_ ?_
 ·
  exact⟨⟨by omega,by omega,by simp⟩,rfl,Ow.nil fP_len fP_one,(fun x h=>by cases h),(fun b e=>e.elim),(fun b e=>e.elim),(fun c e=>e.elim),Nx.refl _ _,Mo.refl _ _⟩
 rintro⟨i,vo,ko,m,G⟩ am a1 K6 aM aN;obtain⟨hi,hm,ow,hxa,ab,f1,hG,ac,aa⟩:=a1;have a2:=DF.app (DF.z) (al.mono hm0.size) ac;have aO:Nx 0 H0.size ko:=Nx.tr (Nx.refl 0 _) ac hm0.size;replace hl:=hl.nw aa;replace hx:=fun x ai=>(hx x ai).nw aa;replace hm0:=hm0.tr aa;have bi:=aa.size;have ao:=ow.le;have av:=ac;refine CW.s2 (fun a3 aP=>CW.sr (fun aQ=>?_));refine LR.m1 ?_;refine LR.m1 ?_;refine LR.v1 (Y.len hl rfl u'22 rfl) ?_;refine LR.v1 (Y.lss rfl rfl rfl) ?_;refine LR.m1 ?_;refine LR.splitp (d:=9) rfl (fun g9=>?_) (fun g9=>?_)
 ·
  refine LR.wm ?_;refine LR.w1 (Y.lss rfl rfl rfl) ?_;refine LR.pt ?_;refine LR.nil (aQ _ _ ?_);refine CW.condp rfl (fun a4=>?_) (fun a4=>?_)
  ·
   have hil:i<l.length:=by omega
   have hxi:=hx l[i] (List.getElem_mem hil);refine CW.skip (a3 _ _ (CW.s1 (fun aR=>CW.block (fun _ ap _ _=>CW.sr (fun aw=>?_)))));refine LR.m1 ?_;refine LR.m1 ?_;refine LR.e1 (g:=fun ad=> .pointer (some ad)) (Y.iF hl (i) rfl u'22 s'34 rfl rfl) fun a5 ax=>?_;refine LR.v1 (Y.load1 ax.pt rfl a'34 rfl) ?_;refine LR.v1 (Y.len hxi rfl u'34 rfl) ?_;refine LR.v1 (Y.lss rfl rfl rfl) (LR.nil (aw _ _ ?_));refine CW.condp rfl (fun a6=>?_) (fun a6=>?_)
   ·
    refine CW.region ?_;refine LR.m1 ?_;refine LR.z1 (Z.litw _ (([]:List UInt8)) rfl inf34 rfl rfl rfl (by decide) (by decide) fB_len fB_one (rfl)) fun bj aS a7=>?_;obtain⟨nd,ae,a8,ay⟩:=a7;have aT:aS.size=am.size+1:=by rw[ay];simp
    have a9:=(DF.new (al.mono hm0.size):DF _ (am.size+1));have aU:Dj ko (am.size+1):=Dj.new ow.le;have a_:=(DF.new (ab.mono (by omega)):DF _ (am.size+1));have ba:Nx 0 H0.size (am.size+1):=Nx.new hm0.size;have az:Nx 0 H0.size (am.size+1):=Nx.new aa.size;replace hl:=hl.nw ae;replace hx:=fun x ai=>(hx x ai).nw ae;replace ow:=ow.nw ae;replace hxa:=fun x hxa_=>(hxa x hxa_).nw ae;replace hm0:=hm0.tr ae;replace aa:=aa.tr ae;have bk:=ae.size;refine LR.m1 ?_;refine LR.m1 ?_;refine LR.e1 (g:=fun ad=> .pointer (some ad)) (Y.iF hl (i) rfl u'22 s'34 rfl rfl) fun bb aA=>?_;refine LR.v1 (Y.load1 aA.pt rfl a'34 rfl) ?_;refine LR.z1 (Z.apnd nd (hx l[i] (List.getElem_mem hil)) rfl inf34 rfl rfl (by simp only[List.length_nil];omega) (by simp only[List.length_nil];omega)) fun aV bc bd=>?_;obtain⟨aq,nd,ak,af⟩:=bd;replace ak:Nx (am.size+1) aS.size aq:=ak;replace af:=af.md;have ar:Dj ko aq:=Dj.app (aU) ow.le ak;have aB:Nx 0 H0.size aq:=Nx.tr (ba) ak hm0.size;replace hx:=fun x ai=>(hx x ai).upL af (DFL.o a9);replace ow:=ow.upL af (DL.o aU);replace hxa:=fun x hxa_=>(hxa x hxa_).upL af (DFL.o a_);replace aa:=aa.tq af (MIL.o (MI.q az));have bl:=af.size;have aC:=nd.le;rw[List.nil_append]at nd;obtain⟨aD,rfl⟩:∃s:SV,aV=s.v:=⟨toSV aV,nd.sv.symm⟩;refine LR.z1 (Z.litw _ ([(aD,l[i].2)]) rfl inf22 rfl rfl rfl (by decide) (by decide) fP_len fP_one (rfl)) fun bm aW be=>?_;obtain⟨nw28,ah,bf,aE⟩:=be;have aX:aW.size=bc.size+1:=by rw[aE];simp
    replace hx:=fun x ai=>(hx x ai).nw ah;replace ow:=ow.nw ah;replace hxa:=fun x hxa_=>(hxa x hxa_).nw ah;replace nd:=nd.nw ah;replace aa:=aa.tr ah;have bn:=ah.size;refine LR.z1 (Z.apnd ow nw28.rd rfl inf22 rfl rfl (by simp only[List.length_singleton];omega) (by simp only[List.length_singleton];omega)) fun bg bo bh=>?_;obtain⟨au,ow,aj,ag⟩:=bh;replace aj:Nx ko aW.size au:=aj;replace ag:=ag.md;have aF:=DF.app (f1) (ab.mono (by omega)) aj;have aG:Dj aq au:=Dj.app (ar.symm) nd.le aj;have aH:Nx 0 H0.size au:=Nx.tr (av) aj aa.size;replace hx:=fun x ai=>(hx x ai).upL ag (DFL.o a2);replace hxa:=fun x hxa_=>(hxa x hxa_).upL ag (DFL.o f1);replace nd:=nd.upL ag (DL.o ar.symm);replace aa:=aa.tq ag (MIL.o (MI.q av));have bp:=ag.size;have ao:=ow.le;refine LR.an ?_;refine ap _ _ (aR _ _ (CW.region ?_));refine LR.m1 ?_;refine LR.v1 (Y.addi rfl rfl rfl (by omega)) ?_;refine LR.an ?_;refine QN.sub (aM (i+1,bg,au,m++[(aD,l[i].2)],fun c=>G c∨c+1=aq) _ ?_ ?_) ⟨rfl,rfl,(iv (by omega)),trivial⟩
    ·exact⟨⟨by omega,by omega,by simp;omega⟩,by rw[few_snoc (by omega)];unfold recs at hm⊢;rw[List.map_append,hm,List.getElem_map,if_pos (by omega)];rfl,ow,snocP (α:=Unit) (fb:=fun _=>(aD,[])) hxa (fun c e=> .inl e) (nd.rd.imp (fun c _ e=> .inr e)),BF.or1 (ab.mono (by omega)) nd.le,DF.or1 (aF) (aG.symm),fun c e=>by rcases e with e|e;exact hG c e;exact(by have h9:=(aB);unfold Nx at h9;omega),aH,aa⟩
    ·first|omega|(simp only;omega)|(simp;omega)
   ·
    refine CW.skip (ap _ _ (aR _ _ (CW.region ?_)));refine LR.m1 ?_;refine LR.v1 (Y.addi rfl rfl rfl (by omega)) ?_;refine LR.an ?_;refine QN.sub (aM (i+1,vo,ko,m,G) _ ?_ ?_) ⟨rfl,rfl,(iv (by omega)),trivial⟩
    ·exact⟨⟨by omega,by omega,by omega⟩,by rw[few_snoc (by omega)];unfold recs at hm⊢;rw[hm,List.getElem_map,if_neg (by omega),List.append_nil],ow,hxa,(ab.mono (by omega)),f1,(by omega),av,aa⟩
    ·first|omega|(simp only;omega)|(simp;omega)
  ·
   refine CW.exit (aP (.exit 0) nofun _ _ (aN (.exit 0) nofun _ _ (aL _ _ ?_)));refine aK _ _ (CW.sr (fun aI=>?_));refine LR.m1 ?_;refine LR.an ?_;refine aI _ _ ?_;refine CW.ret (hret .ret (.inr rfl) _ _ _ (res1 rfl rfl) ?_);obtain⟨so,rfl⟩:∃s:SV,vo=s.v:=⟨toSV vo,ow.sv.symm⟩
   have hfw:(recs l).take i=(recs l).take 20:=by
    rcases(show i=20∨i=l.length by omega)with e|e
    ·rw[e]
    ·rw[List.take_of_length_le (by omega),List.take_of_length_le (by omega)]
   exact⟨so,m,rfl,by unfold fewL;rw[←hfw];exact hm,(ow.rd.imp (fun c _ e=>by have h9:=(aO);unfold Nx at h9;omega)),(fun x h=>(hxa x h).imp (fun c _ e=>hG c e)),hm0⟩
 ·
  refine LR.g1 ?_;refine LR.g1 ?_;refine LR.pf ?_;refine LR.nil (aQ _ _ ?_);refine CW.cond_f rfl ?_;refine CW.exit (aP (.exit 0) nofun _ _ (aN (.exit 0) nofun _ _ (aL _ _ ?_)));refine aK _ _ (CW.sr (fun aJ=>?_));refine LR.m1 ?_;refine LR.an ?_;refine aJ _ _ ?_;refine CW.ret (hret .ret (.inr rfl) _ _ _ (res1 rfl rfl) ?_);obtain⟨so,rfl⟩:∃s:SV,vo=s.v:=⟨toSV vo,ow.sv.symm⟩
  have hfw:(recs l).take i=(recs l).take 20:=by
   rcases(show i=20∨i=l.length by omega)with e|e
   ·rw[e]
   ·rw[List.take_of_length_le (by omega),List.take_of_length_le (by omega)]
  exact⟨so,m,rfl,by unfold fewL;rw[←hfw];exact hm,(ow.rd.imp (fun c _ e=>by have h9:=(aO);unfold Nx at h9;omega)),(fun x h=>(hxa x h).imp (fun c _ e=>hG c e)),hm0⟩
end WalI

namespace WalJ
open E Go.RowKit SumB SumC SumF SumG DelA SimA SimB SimR WalA WalB WalC WalI
set_option maxRecDepth 100000 in
theorem inf34:Inf Tryz.prog 34 5 1 1:=⟨Tryz.underlying34,_,_,rfl,rfl,rfl,rfl,rfl⟩
theorem l32:∀{k:List UInt8},k.length=32→∃b0 b1 b2 b3 b4 b5 b6 b7 b8 b9 b10 b11 b12 b13 b14 b15 b16 b17 b18 b19 b20 b21 b22 b23 b24 b25 b26 b27 b28 b29 b30 b31:UInt8,k=[b0,b1,b2,b3,b4,b5,b6,b7,b8,b9,b10,b11,b12,b13,b14,b15,b16,b17,b18,b19,b20,b21,b22,b23,b24,b25,b26,b27,b28,b29,b30,b31]:=by
 intro k h
 match k,h with
 |[b0,b1,b2,b3,b4,b5,b6,b7,b8,b9,b10,b11,b12,b13,b14,b15,b16,b17,b18,b19,b20,b21,b22,b23,b24,b25,b26,b27,b28,b29,b30,b31],_=>exact⟨b0,b1,b2,b3,b4,b5,b6,b7,b8,b9,b10,b11,b12,b13,b14,b15,b16,b17,b18,b19,b20,b21,b22,b23,b24,b25,b26,b27,b28,b29,b30,b31,rfl⟩
theorem oneW_ref{n:Nat}{R:List UInt8}(h0:12+big R<R.length)(h1:big R≤1048576)(h2:layW n ((R.drop 12).take (big R))=R.take (12+big R))(h3:R.getD (12+big R) 0=67):oneW n R=some ((R.drop 12).take (big R)):=by
 have hl:((R.drop 12).take (big R)).length=big R:=by rw[List.length_take,List.length_drop];omega
 refine oneW_iff.2 ⟨by omega,R.drop (13+big R),?_⟩
 conv=>lhs;rw[←List.take_append_drop (12+big R) R,←h2,List.drop_eq_getElem_cons h0]
 rw[getD_at h0]at h3;rw[h3,show 12+big R+1=13+big R by omega];unfold recW;simp
theorem oneW_ref1{n:Nat}{R:List UInt8}(h2:layW n ((R.drop 12).take (big R))≠R.take (12+big R)):oneW n R=none:=by
 cases h:oneW n R with
 |none=>rfl
 |some r=>
  exfalso;apply h2;have e:=oneW_some h;have h9:=oneW_len h;have hr:r.length<4294967296:=by omega
  have hb:big R=r.length:=h9.1.symm
  have e2:R=layW n r++(67::R.drop (13+r.length)):=by conv=>lhs;rw[e]
                                                     unfold recW;simp
  have e3:(R.drop 12).take r.length=r:=by
   rw[e2];unfold layW;rw[←List.append_assoc (be32 r.length),List.append_assoc (be32 r.length++chkW n r),List.drop_left' (by rw[List.length_append,be32_len,chkW_len]),List.take_left' rfl]
  rw[hb,e3]
  conv=>rhs;rw[e2]
  rw[List.take_left' (layW_len n r)]
theorem sameR_ct(s t:SV)(a b:List (SV×Rec))(w0:World)(H0:Heap)
 (ha:RdT H0 fP 1 s.v a) (hb:RdT H0 fP 1 t.v b) (hx:∀x∈a,RdT H0 fB 1 x.1.v x.2) (hy:∀x∈b,RdT H0 fB 1 x.1.v x.2):
 Ct Tryz.prog w0 13 #[s.v,t.v] H0 (fun r H2=>r= .bool (decide (recs a=recs b))∧Nw H0 H2):=by
 refine Ct.enter (args:=[s.v,t.v]) Tryz.func13 rfl rfl rfl ?_;intro Q0 hret;have hm0:Nw H0 H0:=Mo.refl _ _;replace ha:=ha.bnd;replace hb:=hb.bnd;replace hx:=fun x ab=>(hx x ab).bnd;replace hy:=fun x hy0=>(hy x hy0).bnd;have hal:=ha.len;have hbl:=hb.len;have hla:(recs a).length=a.length:=by simp[recs]
 have hlb:(recs b).length=b.length:=by simp[recs]
 refine CW.sr (fun aq=>?_);refine LR.an ?_;refine aq _ _ (CW.s2 (fun ar au=>CW.sr (fun av=>?_)));refine LR.m1 ?_;refine LR.v1 (Y.len ha rfl u'22 rfl) ?_;refine LR.m1 ?_;refine LR.v1 (Y.len hb rfl u'22 rfl) ?_;refine LR.v1 (Y.neq rfl rfl rfl) (LR.nil (av _ _ ?_));refine CW.condp rfl (fun aw=>?_) (fun aw=>?_)
 ·
  refine CW.sr (fun ax=>?_);refine LR.an ?_;refine ax _ _ ?_;refine CW.ret (au .ret nofun _ _ (hret .ret (.inr rfl) _ _ _ (res1 rfl rfl) ?_));have hne:¬recs a=recs b:=fun h=>by have:=congrArg List.length h;omega
  exact⟨by rw[decide_eq_false hne],hm0⟩
 ·
  have hab:a.length=b.length:=by omega
  refine CW.skip (ar _ _ (CW.s2 (fun ay az=>CW.sr (fun aA=>?_))));refine LR.an ?_;refine aA _ _ (CW.block (fun _ _ aB aC=>?_))
  refine CW.loop (fun(i:(Nat))=>[(0,s.v),(1,t.v),(5,.int .i64 (i:Int))])
   (fun(i:(Nat)) (H:Heap)=>(i≤a.length)∧((recs a).take i=(recs b).take i)∧Nw H0 H)
   (fun(i:(Nat))=>a.length-i) 0 ⟨rfl,rfl,rfl,trivial⟩ ?_ ?_
  ·
   exact⟨(by omega),rfl,Mo.refl _ _⟩
  intro i aK aD K8 aE ap;obtain⟨hi,he,aa⟩:=aD;replace ha:=ha.nw aa;replace hb:=hb.nw aa;replace hx:=fun x ab=>(hx x ab).nw aa;replace hy:=fun x hy0=>(hy x hy0).nw aa;replace hm0:=hm0.tr aa;have aL:=aa.size;refine CW.s2 (fun aF aG=>CW.sr (fun ac=>?_));refine LR.m1 ?_;refine LR.m1 ?_;refine LR.v1 (Y.len ha rfl u'22 rfl) ?_;refine LR.v1 (Y.lss rfl rfl rfl) (LR.nil (ac _ _ ?_));refine CW.condp rfl (fun aH=>?_) (fun aH=>?_)
  ·
   have hil:i<a.length:=by omega
   have hxi:=hx a[i] (List.getElem_mem hil);have hyi:=hy b[i] (List.getElem_mem (by omega));refine CW.skip (aF _ _ (CW.s2 (fun ae af=>CW.block (fun _ ag _ ah=>CW.s1 (fun ai=>?_)))));refine CW.region_draw rfl (by kernel_rfl) ?_;refine LR.m1 ?_;refine LR.m1 ?_;refine LR.e1 (g:=fun ad=> .pointer (some ad)) (Y.iF ha (i) rfl u'22 s'34 rfl rfl) fun aI aj=>?_;refine LR.v1 (Y.load1 aj.pt rfl a'34 rfl) ?_;refine LR.v1 (Y.bstr hxi rfl Tryz.underlying34 Tryz.underlying9 Tryz.underlying5 rfl) ?_;refine LR.m1 ?_;refine LR.m1 ?_;refine LR.e1 (g:=fun ad=> .pointer (some ad)) (Y.iF hb (i) rfl u'22 s'34 rfl rfl) fun aJ ak=>?_;refine LR.v1 (Y.load1 ak.pt rfl a'34 rfl) ?_;refine LR.v1 (Y.bstr hyi rfl Tryz.underlying34 Tryz.underlying9 Tryz.underlying5 rfl) ?_;refine LR.v1 (Y.sneq rfl rfl rfl) (LR.nil (ai _ _ ?_));refine CW.condp rfl (fun al=>?_) (fun al=>?_)
   ·
    refine CW.sr (fun am=>?_);refine LR.an ?_;refine am _ _ ?_;refine CW.ret (ah .ret nofun (by simp) _ _ (af .ret nofun _ _ (ap .ret nofun _ _ (aC .ret nofun (by simp) _ _ (az .ret nofun _ _ (hret .ret (.inr rfl) _ _ _ (res1 rfl rfl) ?_))))));have hne:¬recs a=recs b:=fun h=>al (by have:(recs a)[i]?=(recs b)[i]?:=(by rw[h]);simp only[recs,List.getElem?_map]at this;rw[List.getElem?_eq_getElem hil,List.getElem?_eq_getElem (by omega)]at this;exact Option.some.inj this);exact⟨by rw[decide_eq_false hne],hm0⟩
   ·
    refine CW.skip (ag _ _ (ae _ _ (CW.region ?_)));refine LR.m1 ?_;refine LR.v1 (Y.addi rfl rfl rfl (by omega)) ?_;refine LR.an ?_;refine QN.sub (aE (i+1) _ ?_ ?_) ⟨rfl,rfl,(iv (by omega)),trivial⟩
    ·exact⟨(by omega),by rw[List.take_succ_eq_append_getElem (by omega),List.take_succ_eq_append_getElem (by omega),he];simp only[recs,List.getElem_map];rw[show a[i].2=b[i].2 from Decidable.byContradiction (fun h=>al h)],aa⟩
    ·first|omega|(simp only;omega)|(simp;omega)
  ·
   refine CW.exit (aG (.exit 0) nofun _ _ (ap (.exit 0) nofun _ _ (aB _ _ ?_)));refine ay _ _ (CW.sr (fun ao=>?_));refine LR.an ?_;refine ao _ _ ?_;refine CW.ret (hret .ret (.inr rfl) _ _ _ (res1 rfl rfl) ?_);have hil:i=a.length:=by omega
   have he2:recs a=recs b:=by rw[←List.take_length (l:=recs a),←List.take_length (l:=recs b),hla,hlb,←hab,←hil];exact he
   exact⟨by rw[decide_eq_true he2],hm0⟩
set_option maxHeartbeats 2000000 in
theorem record_ct(n:Nat)(s:SV)(rc:List UInt8)(w0:World)(H0:Heap)
 (hr:RdT H0 fB 1 s.v rc) (hrl:rc.length≤1000000):
 Ct Tryz.prog w0 61 #[.int .i64 (n:Int),s.v] H0 (fun r H2=>∃t:SV,∃k:Nat,r=t.v∧(Ow k 5 H2 fB 1 t.v (layW n rc))∧(Nx 0 H0.size k)∧Nw H0 H2):=by
 refine Ct.enter (args:=[.int .i64 (n:Int),s.v]) Tryz.func61 rfl rfl rfl ?_;intro Q0 hret;have hm0:Nw H0 H0:=Mo.refl _ _;replace hr:=hr.bnd;have ac:=hr.bf;refine CW.sr (fun a8=>?_);refine LR.an ?_;refine a8 _ _ (CW.sr (fun a9=>?_));refine LR.m1 ?_;refine LR.v1 (Y.cast (v2:= .int .u64 (UInt64.ofNat n).toNat) (Y.conv_u64 rfl u'3 u'151 rfl) (rfl)) ?_;refine LR.call rfl c'97 rfl (Wd.u rfl) rfl rfl (Num.num_ct 0 _ [] 8 (UInt64.ofNat (n)) w0 _ (Ow.nil fB_len fB_one) (by omega) (by simp)) ?_;rintro v9 H9 ⟨bw,k9,rfl,ag,a2,aU⟩;have a_:=DF.app (DF.z) (ac.mono hm0.size) a2;have ba:Nx 0 H0.size k9:=Nx.tr (Nx.refl 0 _) a2 hm0.size;replace hr:=hr.upL aU (DFL.o DF.z);replace hm0:=hm0.tq aU (MIL.cons MI.z MIL.nil);have bx:=aU.size;have ao:=ag.le;rw[List.nil_append]at ag;obtain⟨s9,rfl⟩:∃s:SV,v9=s.v:=⟨toSV v9,ag.sv.symm⟩;refine LR.m1 ?_;refine LR.z1 (Z.apnd ag hr rfl inf34 rfl rfl (by rw[Num.numL_len];omega) (by rw[Num.numL_len];omega)) fun bz bA bb=>?_;obtain⟨bc,ap,aq,ad⟩:=bb;replace aq:Nx k9 H9.size bc:=aq;replace ad:=ad.md;replace hr:=hr.upL ad (DFL.o a_);replace hm0:=hm0.tq ad (MIL.o (MI.q ba));have bB:=ad.size;have ar:=ap.le;refine LR.call rfl c'96 rfl (Wd.u rfl) rfl rfl (rof_ct _ (Num.numL 8 (UInt64.ofNat n)++rc) w0 _ ap.rd.any (by rw[List.length_append,Num.numL_len];omega)) (fun bC ax bd=>?_);obtain⟨rfl,aj⟩:=bd;replace hr:=hr.nw aj;replace hm0:=hm0.tr aj;have bD:=aj.size;obtain⟨b0,b1,b2,b3,b4,b5,b6,b7,b8,b9,ay,az,aA,aB,aC,aD,aE,aF,aG,aH,aI,aJ,aK,aL,aM,aN,aO,aP,aQ,aR,aS,aT,hS⟩:∃b0 b1 b2 b3 b4 b5 b6 b7 b8 b9 ay az aA aB aC aD aE aF aG aH aI aJ aK aL aM aN aO aP aQ aR aS aT:UInt8,sumOf (Num.numL 8 (UInt64.ofNat n)++rc)=[b0,b1,b2,b3,b4,b5,b6,b7,b8,b9,ay,az,aA,aB,aC,aD,aE,aF,aG,aH,aI,aJ,aK,aL,aM,aN,aO,aP,aQ,aR,aS,aT]:=l32 (sumOf_len _);have hck:chkW n rc=[b0,b1,b2,b3,b4,b5,b6,b7]:=by unfold chkW;rw[hS];rfl
 rw[hS];refine LR.z1 (Z.allocv rfl z'165) ?_;rintro v5 H5 ⟨rfl,va5,aV,bE,be⟩;have bg:H5.size=ax.size+1:=by rw[be];simp
 have bh:=(DF.new (ac.mono hm0.size):DF _ (ax.size+1));have bi:Nx 0 H0.size (ax.size+1):=Nx.new hm0.size;replace hr:=hr.nw aV;replace hm0:=hm0.tr aV;have bF:=aV.size;replace va5:Var 165 H5 ax.size ((List.replicate 32 (0:UInt8)).map V8):=va5;refine LR.s1 (S.var va5 (([b0,b1,b2,b3,b4,b5,b6,b7,b8,b9,ay,az,aA,aB,aC,aD,aE,aF,aG,aH,aI,aJ,aK,aL,aM,aN,aO,aP,aQ,aR,aS,aT]:List UInt8).map V8) (([b0,b1,b2,b3,b4,b5,b6,b7,b8,b9,ay,az,aA,aB,aC,aD,aE,aF,aG,aH,aI,aJ,aK,aL,aM,aN,aO,aP,aQ,aR,aS,aT]:List UInt8).map V8) rfl rfl rfl rfl (by intro u hu;obtain⟨x,_,rfl⟩:=List.mem_map.1 hu;rfl) s'165 (rfl) (by decide) (rfl)) fun bj aW=>?_;obtain⟨va5,ab⟩:=aW;replace ab:=ab.md1;replace hr:=hr.upL ab (DFL.o bh);replace hm0:=hm0.tq ab (MIL.o (MI.q bi));have bG:=ab.size;refine LR.nil (a9 _ _ (CW.sr (fun bk=>?_)));refine LR.m1 ?_;refine LR.v1 (Y.len hr rfl u'34 rfl) ?_;refine LR.v1 (Y.cast (v2:= .int .u64 (UInt64.ofNat rc.length).toNat) (Y.conv_u64 rfl u'3 u'151 rfl) (rfl)) ?_;refine LR.call rfl c'97 rfl (Wd.u rfl) rfl rfl (Num.num_ct 0 _ [] 4 (UInt64.ofNat (rc.length)) w0 _ (Ow.nil fB_len fB_one) (by omega) (by simp)) (fun a3 bl bm=>?_);obtain⟨bn,a4,rfl,aa,au,ah⟩:=bm;have bo:=DF.app (DF.z) (ac.mono hm0.size) au;have av:Nx 0 H0.size a4:=Nx.tr (Nx.refl 0 _) au hm0.size;replace hr:=hr.upL ah (DFL.o DF.z);replace va5:=va5.upL ah (DL.o Dj.z);replace hm0:=hm0.tq ah (MIL.cons MI.z MIL.nil);have bH:=ah.size;have ae:=aa.le;rw[List.nil_append]at aa;obtain⟨bI,rfl⟩:∃s:SV,a3=s.v:=⟨toSV a3,aa.sv.symm⟩;rw[num_be32 _ (by omega)]at aa;refine LR.an ?_;refine bk _ _ (CW.sr (fun bp=>?_));refine LR.m1 ?_;refine LR.v1 (Y.arrAddr va5.pt (0) rfl u'165 s'5 rfl rfl (by first|rfl|omega) (by first|omega|(simp;omega)|(simp;done))) ?_;refine LR.v1 (Y.load1 va5.pt rfl a'5 rfl) ?_;refine LR.v1 (Y.arrAddr va5.pt (1) rfl u'165 s'5 rfl rfl (by first|rfl|omega) (by first|omega|(simp;omega)|(simp;done))) ?_;refine LR.v1 (Y.load1 (va5.pt.drop 1) rfl a'5 rfl) ?_;refine LR.v1 (Y.arrAddr va5.pt (2) rfl u'165 s'5 rfl rfl (by first|rfl|omega) (by first|omega|(simp;omega)|(simp;done))) ?_;refine LR.v1 (Y.load1 (va5.pt.drop 2) rfl a'5 rfl) ?_;refine LR.v1 (Y.arrAddr va5.pt (3) rfl u'165 s'5 rfl rfl (by first|rfl|omega) (by first|omega|(simp;omega)|(simp;done))) ?_;refine LR.v1 (Y.load1 (va5.pt.drop 3) rfl a'5 rfl) ?_;refine LR.v1 (Y.arrAddr va5.pt (4) rfl u'165 s'5 rfl rfl (by first|rfl|omega) (by first|omega|(simp;omega)|(simp;done))) ?_;refine LR.v1 (Y.load1 (va5.pt.drop 4) rfl a'5 rfl) ?_;refine LR.v1 (Y.arrAddr va5.pt (5) rfl u'165 s'5 rfl rfl (by first|rfl|omega) (by first|omega|(simp;omega)|(simp;done))) ?_;refine LR.v1 (Y.load1 (va5.pt.drop 5) rfl a'5 rfl) ?_;refine LR.v1 (Y.arrAddr va5.pt (6) rfl u'165 s'5 rfl rfl (by first|rfl|omega) (by first|omega|(simp;omega)|(simp;done))) ?_;refine LR.v1 (Y.load1 (va5.pt.drop 6) rfl a'5 rfl) ?_;refine LR.v1 (Y.arrAddr va5.pt (7) rfl u'165 s'5 rfl rfl (by first|rfl|omega) (by first|omega|(simp;omega)|(simp;done))) ?_;refine LR.v1 (Y.load1 (va5.pt.drop 7) rfl a'5 rfl) ?_;refine LR.z1 (Z.litw _ (([b0,b1,b2,b3,b4,b5,b6,b7]:List UInt8)) rfl inf34 rfl rfl rfl (by decide) (by decide) fB_len fB_one (rfl)) fun bJ a5 bq=>?_;obtain⟨aX,ai,br,aY⟩:=bq;have a6:a5.size=bl.size+1:=by rw[aY];simp
 replace hr:=hr.nw ai;replace aa:=aa.nw ai;replace hm0:=hm0.tr ai;have bK:=ai.size;refine LR.z1 (Z.apnd aa aX.rd rfl inf34 rfl rfl (by rw[be32_len];simp) (by rw[be32_len];simp)) fun bL bs bt=>?_;obtain⟨aZ,aa,ak,af⟩:=bt;replace ak:Nx a4 a5.size aZ:=ak;replace af:=af.md;have aw:Nx 0 H0.size aZ:=Nx.tr (av) ak hm0.size;replace hr:=hr.upL af (DFL.o bo);replace hm0:=hm0.tq af (MIL.o (MI.q av));have bM:=af.size;have ae:=aa.le;refine LR.an ?_;refine bp _ _ (CW.sr (fun bu=>?_));refine LR.m1 ?_;refine LR.m1 ?_;refine LR.z1 (Z.apnd aa hr rfl inf34 rfl rfl (by rw[List.length_append,be32_len];simp;omega) (by rw[List.length_append,be32_len];simp;omega)) fun a7 bN bv=>?_;obtain⟨a0,aa,al,am⟩:=bv;replace al:Nx aZ bs.size a0:=al;replace am:=am.md;have a1:Nx 0 H0.size a0:=Nx.tr (aw) al hm0.size;replace hm0:=hm0.tq am (MIL.o (MI.q aw));refine LR.an ?_;refine bu _ _ ?_;refine CW.ret (hret .ret (.inr rfl) _ _ _ (res1 rfl rfl) ?_);obtain⟨so,rfl⟩:∃s:SV,a7=s.v:=⟨toSV a7,aa.sv.symm⟩;exact⟨so,a0,rfl,by unfold layW;rw[hck,←List.append_assoc];exact aa,a1,hm0⟩
theorem rencode_ct(s:SV)(l:List (SV×Rec))(w0:World)(H0:Heap)
 (hl:RdT H0 fP 1 s.v l) (hx:∀x∈l,RdT H0 fB 1 x.1.v x.2) (hrl:∀x∈l,x.2.length≤1000000) (hel:(encN 0 (recs l)).length≤1099510000000):
 Ct Tryz.prog w0 89 #[s.v] H0 (fun r H2=>∃t:SV,∃k:Nat,r=t.v∧(Ow k 5 H2 fB 1 t.v (encW (recs l)))∧(Nx 0 H0.size k)∧Nw H0 H2):=by
 refine Ct.enter (args:=[s.v]) Tryz.func89 rfl rfl rfl ?_;intro Q0 hret;have hm0:Nw H0 H0:=Mo.refl _ _;replace hl:=hl.bnd;have ao:=hl.bf;replace hx:=fun x ab=>(hx x ab).bnd;have ae:BF (fun b=>True∧b<H0.size) H0.size:=fun b h=>h.2;have hll:=hl.len;refine CW.sr (fun aL=>?_);refine LR.an ?_;refine aL _ _ (CW.sr (fun aM=>?_));refine LR.z1 (Z.litw _ (W8) rfl inf34 rfl rfl rfl (by decide) (by decide) fB_len fB_one (rfl)) ?_;rintro v5 H5 ⟨ow,au,ba,aN⟩;have aO:H5.size=H0.size+1:=by rw[aN];simp
 have aG:=(DF.new (ao.mono hm0.size):DF _ (H0.size+1));have av:=(DF.new (ae.mono hm0.size):DF _ (H0.size+1));have aw:Nx 0 H0.size (H0.size+1):=Nx.new hm0.size;replace hl:=hl.nw au;replace hx:=fun x ab=>(hx x ab).nw au;replace hm0:=hm0.tr au;have bb:=au.size;refine LR.z1 (Z.bconst ow (by decide) rfl Tryz.underlying34 Tryz.underlying5 rfl) ?_;rintro v6 H6 ⟨rfl,ow,am⟩;replace am:=am.md;replace hl:=hl.upL am (DFL.o aG);replace hx:=fun x ab=>(hx x ab).upL am (DFL.o av);replace hm0:=hm0.tq am (MIL.o (MI.q aw));have bc:=am.size;refine LR.an ?_;refine aM _ _ (CW.s1 (fun aP=>CW.sr (fun aQ=>?_)));refine LR.an ?_;refine aQ _ _ (CW.block (fun _ _ aR _=>?_))
 refine CW.loop (fun(s_:(Nat)×(Value)×(Nat))=>match s_ with|(i,vo,ko)=>[(0,s.v),(3,vo),(4,.int .i64 (i:Int))])
  (fun(i,vo,ko) (H:Heap)=>(i≤l.length)∧(Ow ko 5 H fB 1 vo (W8++encN 0 (recs (l.take i))))∧(Nx (H0.size+1) H6.size ko)∧Mo (Ms [(H0.size+1)]) H6 H)
  (fun(i,vo,ko)=>l.length-i) (0,v6,(H0.size+1)) ⟨rfl,rfl,rfl,trivial⟩ ?_ ?_
 ·
  exact⟨(by omega),by simpa only[List.take_zero,recs,List.map_nil,encN,List.append_nil]using ow,Nx.refl _ _,Mo.refl _ _⟩
 rintro⟨i,vo,ko⟩ bd aS K6 aT aU;obtain⟨hi,ow,ac,aa⟩:=aS;have aH:=DF.app (av) (ae.mono hm0.size) ac;have aV:Nx 0 H0.size ko:=Nx.tr (aw) ac hm0.size;replace hl:=hl.upL aa (DFL.o aG);replace hx:=fun x ab=>(hx x ab).upL aa (DFL.o av);replace hm0:=hm0.tq aa (MIL.o (MI.q aw));have be:=aa.size;have af:=ow.le;have aI:=ac;refine CW.s2 (fun aW aX=>CW.sr (fun aY=>?_));refine LR.m1 ?_;refine LR.m1 ?_;refine LR.v1 (Y.len hl rfl u'22 rfl) ?_;refine LR.v1 (Y.lss rfl rfl rfl) (LR.nil (aY _ _ ?_));refine CW.condp rfl (fun aZ=>?_) (fun aZ=>?_)
 ·
  refine CW.skip (aW _ _ (CW.s1 (fun a0=>CW.block (fun _ ax _ _=>CW.region ?_))));refine LR.m1 ?_;refine LR.m1 ?_;refine LR.m1 ?_;refine LR.m1 ?_;have hil:i<l.length:=by omega
  have hel2:=encN_take_le2 hil;have hxi:=hx l[i] (List.getElem_mem hil);have hri:=hrl l[i] (List.getElem_mem hil);have h8:W8.length=8:=rfl;have hwl:=layW_len i l[i].2;refine LR.e1 (g:=fun ad=> .pointer (some ad)) (Y.iF hl (i) rfl u'22 s'34 rfl rfl) fun a1 ay=>?_;refine LR.v1 (Y.load1 ay.pt rfl a'34 rfl) ?_;refine LR.call rfl c'61 rfl (Wd.u rfl) rfl rfl (record_ct i l[i].1 l[i].2 w0 _ hxi.any (by omega)) (fun bg a2 a3=>?_);obtain⟨bh,bi,rfl,ap,a4,ag⟩:=a3;replace hx:=fun x ab=>(hx x ab).nw ag;replace ow:=ow.nw ag;replace hm0:=hm0.tr ag;replace aa:=aa.trN ag;have bj:=ag.size;have aq:=ap.le;refine LR.z1 (Z.apnd ow ap.rd rfl inf34 rfl rfl (by simp only[List.length_append];omega) (by simp only[List.length_append];omega)) fun bk a5 a6=>?_;obtain⟨az,ow,aj,ah⟩:=a6;replace aj:Nx ko a2.size az:=aj;replace ah:=ah.md;have aA:=DF.app (aH) (ae.mono hm0.size) aj;have ar:Nx (H0.size+1) H6.size az:=Nx.tr (aI) aj aa.size;replace hx:=fun x ab=>(hx x ab).upL ah (DFL.o aH);replace aa:=aa.trL ah (MIL.o (MI.r aI));have bl:=ah.size;have af:=ow.le;refine LR.z1 (Z.litw _ ([(67:UInt8)]) rfl inf34 rfl rfl rfl (by decide) (by decide) fB_len fB_one (rfl)) fun bm aJ a7=>?_;obtain⟨aB,ak,a8,aC⟩:=a7;have aK:aJ.size=a5.size+1:=by rw[aC];simp
  replace hx:=fun x ab=>(hx x ab).nw ak;replace ow:=ow.nw ak;replace aa:=aa.trN ak;have bn:=ak.size;refine LR.z1 (Z.apnd ow aB.rd rfl inf34 rfl rfl (by simp only[List.length_append,List.length_singleton];omega) (by simp only[List.length_append,List.length_singleton];omega)) fun a9 bo a_=>?_;obtain⟨aD,ow,al,ai⟩:=a_;replace al:Nx az aJ.size aD:=al;replace ai:=ai.md;have aE:Nx (H0.size+1) H6.size aD:=Nx.tr (ar) al aa.size;replace hx:=fun x ab=>(hx x ab).upL ai (DFL.o aA);replace aa:=aa.trL ai (MIL.o (MI.r ar));have bp:=ai.size;have af:=ow.le;refine LR.an ?_;refine ax _ _ (a0 _ _ (CW.region ?_));refine LR.m1 ?_;refine LR.v1 (Y.addi rfl rfl rfl (by omega)) ?_;refine LR.an ?_;refine QN.sub (aT (i+1,a9,aD) _ ?_ ?_) ⟨rfl,rfl,(iv (by omega)),trivial⟩
  ·exact⟨(by omega),by rw[encN_take hil,←List.append_assoc];unfold recW;rw[←List.append_assoc];exact ow,aE,aa⟩
  ·first|omega|(simp only;omega)|(simp;omega)
 ·
  refine CW.exit (aX (.exit 0) nofun _ _ (aU (.exit 0) nofun _ _ (aR _ _ ?_)));refine aP _ _ (CW.sr (fun aF=>?_));refine LR.m1 ?_;refine LR.an ?_;refine aF _ _ ?_;refine CW.ret (hret .ret (.inr rfl) _ _ _ (res1 rfl rfl) ?_);have hil:i=l.length:=by omega
  rw[hil,List.take_length]at ow;obtain⟨so,rfl⟩:∃s:SV,vo=s.v:=⟨toSV vo,ow.sv.symm⟩;exact⟨so,ko,rfl,ow,aV,hm0⟩
end WalJ

namespace WalK
open E Go.RowKit SumB SumC SumF SumG DelA SimA SimB SimR WalA WalB WalC WalI WalJ
theorem take_drop2(b:List UInt8)(i j n:Nat):(b.take (i+(j+n))).drop (i+j)=((b.drop i).drop j).take n:=by
 rw[List.drop_drop,←take_drop',Nat.add_assoc]
theorem par_hd{b:List UInt8}(h:¬b.take 8=W8):parE b=16∧parS b=0∧parL b=[]:=by
 unfold parE parS parL;rw[if_neg h,if_neg h,if_neg h];exact⟨rfl,rfl,rfl⟩
end WalK

namespace SimX
open E Go.RowKit SimA SimB SimC SimD SimE SimF SimG SimH SimI SimJ SimK SimL SimM SimN SimP SimQ SimR SimS SimU
theorem okc_iff2(c:UInt8):okc c=true↔(97≤c.toNat∧c.toNat≤122)∨(48≤c.toNat∧c.toNat≤57)∨c.toNat=46∨c.toNat=95∨c.toNat=45∨c.toNat=47:=by
 have h:∀n:Fin 256,(okc (UInt8.ofNat n.val)=decide ((97≤n.val∧n.val≤122)∨(48≤n.val∧n.val≤57)∨n.val=46∨n.val=95∨n.val=45∨n.val=47)):=by decide+kernel
 have:=h ⟨c.toNat,c.toNat_lt⟩;simp only[UInt8.ofNat_toNat]at this;rw[this,decide_eq_true_iff]
def okAt(l:List UInt8)(q:Nat):Prop:=okc (l.getD q 0)=true∧¬((l.getD q 0).toNat=47∧(q=0∨q=l.length-1∨(l.getD (q-1) 0).toNat=47))
theorem getD_at{l:List UInt8}{q:Nat}(h:q<l.length):l.getD q 0=l[q]:=by rw[List.getD_eq_getElem?_getD,List.getElem?_eq_getElem h];rfl
theorem nat47{c:UInt8}:c.toNat=47↔c=47:=⟨fun h=>UInt8.toNat.inj h,fun h=>by rw[h];rfl⟩
theorem name_iff2(l:List UInt8):nameB l=true↔1≤l.length∧l.length≤100∧∀q,q<l.length→okAt l q:=by
 unfold nameB slk okAt;simp only[Bool.and_eq_true,decide_eq_true_eq,List.all_eq_true,List.mem_range,Bool.not_eq_true',nat47];constructor
 ·rintro⟨⟨⟨h1,h2⟩,h3⟩,h4⟩
  refine⟨h1,h2,fun q hq=>⟨by rw[getD_at hq];exact h3 _ (List.getElem_mem hq),?_⟩⟩;rintro⟨e1,e2⟩;have h5:=h4 q hq;have e3:(q==0||q==l.length-1||l.getD (q-1) 0==47)=true:=by simpa[or_assoc]using e2
  rw[e1,e3]at h5;simp at h5
 ·rintro⟨h1,h2,h3⟩
  refine⟨⟨⟨h1,h2⟩,fun x hx=>?_⟩,fun q hq=>?_⟩
  ·obtain⟨q,hq,rfl⟩:=List.getElem_of_mem hx
   have:=(h3 q hq).1;rwa[getD_at hq]at this
  ·have h5:=(h3 q hq).2
   cases hb:(l.getD q 0==47&&(q==0||q==l.length-1||l.getD (q-1) 0==47))with
   |false=>rfl
   |true=>
    exfalso;simp only[Bool.and_eq_true,Bool.or_eq_true,beq_iff_eq,or_assoc]at hb;exact h5 hb
theorem head_at{l:List UInt8}{k:Nat}(hk:k<l.length)(h47:l[k]=47)(hno:∀q,q<l.length→k<q→(l.getD q 0).toNat≠47):headP l=l.take k:=by
 have e:l=l.take k++l[k]::l.drop (k+1):=by rw[←List.drop_eq_getElem_cons hk,List.take_append_drop]
 have e3:=congrArg List.reverse e;rw[List.reverse_append,List.reverse_cons,List.append_assoc]at e3;unfold headP
 have e2:(l.reverse.takeWhile (fun c=>decide (c≠47))).length=l.length-(k+1):=by
  rw[e3,List.takeWhile_append_of_pos,List.singleton_append,List.takeWhile_cons_of_neg (by simp[h47])]
  ·simp
  ·intro a ha
   rw[List.mem_reverse]at ha;obtain⟨q,hq,rfl⟩:=List.getElem_of_mem ha;rw[List.length_drop]at hq;have h9:=hno (k+1+q) (by omega) (by omega);rw[getD_at (by omega)]at h9;rw[List.getElem_drop];exact decide_eq_true (fun h=>h9 (nat47.2 h))
 rw[e2];congr 1;omega
theorem head_no{l:List UInt8}(hno:∀q,q<l.length→(l.getD q 0).toNat≠47):headP l=[]:=by
 have e2:l.reverse.takeWhile (fun c=>decide (c≠47))=l.reverse:=by
  have:=List.takeWhile_append_of_pos (p:=fun c:UInt8=>decide (c≠47)) (l₁:=l.reverse) (l₂:=[]) (fun a ha=>by
   rw[List.mem_reverse]at ha;obtain⟨q,hq,rfl⟩:=List.getElem_of_mem ha;have h9:=hno q hq;rw[getD_at hq]at h9;exact decide_eq_true (fun h=>h9 (nat47.2 h)))
  simpa using this
 unfold headP;rw[e2,List.length_reverse,show l.length-1-l.length=0 by omega,List.take_zero]
theorem name_no{l:List UInt8}(h:¬(1≤l.length∧l.length≤100∧∀q,q<l.length→okAt l q)):nameB l=false:=by
 cases hb:nameB l with
 |false=>rfl
 |true=>exact absurd ((name_iff2 l).1 hb) h
theorem rname_ct(l:List UInt8)(w0:World)(H0:Heap)
 (hl:l.length≤4294967280):
 Ct Tryz.prog w0 53 #[Str l] H0 (fun r H2=>r= .bool (nameB l)∧Nw H0 H2):=by
 refine Ct.enter (args:=[Str l]) Tryz.func53 rfl rfl rfl ?_;intro Q0 hret;have hm0:Nw H0 H0:=Mo.refl _ _;refine CW.sr (fun aT=>?_);refine LR.an ?_;refine aT _ _ (CW.s2 (fun aU aQ=>CW.sr (fun aR=>?_)));refine LR.m1 ?_;refine LR.v1 (Y.slen rfl u'9 rfl) ?_;refine LR.v1 (Y.lss rfl rfl rfl) ?_;refine LR.m1 ?_;refine LR.splitp (d:=8) rfl (fun g8=>?_) (fun g8=>?_)
 ·
  refine LR.g1 ?_;refine LR.g1 ?_;refine LR.g1 ?_;refine LR.pt ?_;refine LR.nil (aR _ _ ?_);refine CW.cond_t rfl ?_;refine CW.sr (fun aV=>?_);refine LR.an ?_;refine aV _ _ ?_;refine CW.ret (aQ .ret nofun _ _ (hret .ret (.inr rfl) _ _ _ (res1 rfl rfl) ?_));exact⟨congrArg Value.bool (name_no (fun h=>by obtain⟨h1,h2,h3⟩:=h;omega)).symm,hm0⟩
 ·
  refine LR.wm ?_;refine LR.w1 (Y.slen rfl u'9 rfl) ?_;refine LR.w1 (Y.gtr rfl rfl rfl) ?_;refine LR.pf ?_;refine LR.nil (aR _ _ ?_);refine CW.condp rfl (fun aW=>?_) (fun aW=>?_)
  ·
   refine CW.sr (fun aX=>?_);refine LR.an ?_;refine aX _ _ ?_;refine CW.ret (aQ .ret nofun _ _ (hret .ret (.inr rfl) _ _ _ (res1 rfl rfl) ?_));exact⟨congrArg Value.bool (name_no (fun h=>by obtain⟨h1,h2,h3⟩:=h;omega)).symm,hm0⟩
  ·
   refine CW.skip (aU _ _ (CW.s2 (fun aY ap=>CW.sr (fun aZ=>?_))));refine LR.an ?_;refine aZ _ _ (CW.block (fun _ _ a0 aq=>?_))
   refine CW.loop (fun(i:(Nat))=>[(0,Str l),(3,.int .i64 (i:Int))])
    (fun(i:(Nat)) (H:Heap)=>(i≤l.length)∧(∀q,q<l.length→q<i→okAt l q)∧Nw H0 H)
    (fun(i:(Nat))=>l.length-i) 0 ⟨rfl,rfl,trivial⟩ ?_ ?_
   ·
    exact⟨(by omega),(fun q h h2=>absurd h2 (by omega)),Mo.refl _ _⟩
   intro i az a1 K9 a2 am;obtain⟨hi,hok,aj⟩:=a1;replace hm0:=hm0.tr aj;have a_:=aj.size;refine CW.s2 (fun aC aD=>CW.sr (fun aE=>?_));refine LR.m1 ?_;refine LR.m1 ?_;refine LR.v1 (Y.slen rfl u'9 rfl) ?_;refine LR.v1 (Y.lss rfl rfl rfl) (LR.nil (aE _ _ ?_));refine CW.condp rfl (fun a3=>?_) (fun a3=>?_)
   ·
    have hil:i<l.length:=by omega
    refine CW.skip (aC _ _ ?_)
    refine CW.cut (fun(_:Unit)=>[(0,Str l),(3,.int .i64 (i:Int))])
     (fun(_:Unit) (H:Heap)=>(okAt l i)∧Nw az H) (fun _ ab ag=>?_) ?_
    ·
     have aa:Nw az az:=Mo.refl _ _;refine CW.block (fun _ ac _ ah=>CW.sr (fun aF=>?_));refine LR.m1 ?_;refine LR.m1 ?_;refine LR.v1 (Y.sindex (i) rfl u'9 rfl rfl (by first|rfl|omega) (by omega)) ?_;refine LR.an ?_;refine aF _ _ ?_
     refine CW.cut (fun(_:Unit)=>[(0,Str l),(3,.int .i64 (i:Int)),(4,.int .u8 (l[i].toNat:Int))])
      (fun(_:Unit) (H:Heap)=>(¬(l[i].toNat=47∧(i=0∨i=l.length-1∨(l.getD (i-1) 0).toNat=47)))∧Nw az H) (fun _ aA ar=>?_) ?_
     ·
      have ao:Nw az az:=Mo.refl _ _;refine CW.sr (fun al=>?_);refine LR.m1 ?_;refine LR.v1 (Y.eql rfl rfl rfl) ?_;refine LR.m1 ?_;refine LR.splitp (d:=24) rfl (fun a4=>?_) (fun a4=>?_)
      ·
       refine LR.wm ?_;refine LR.w1 (Y.eql rfl rfl rfl) ?_;refine LR.wm ?_;refine LR.splitp (d:=27) rfl (fun a5=>?_) (fun a5=>?_)
       ·
        refine LR.g1 ?_;refine LR.g1 ?_;refine LR.g1 ?_;refine LR.g1 ?_;refine LR.g1 ?_;refine LR.w1 (Y.pick_t rfl rfl rfl) ?_;refine LR.wm ?_;refine LR.g1 ?_;refine LR.g1 ?_;refine LR.g1 ?_;refine LR.g1 ?_;refine LR.g1 ?_;refine LR.w1 (Y.pick_t rfl rfl rfl) ?_;refine LR.pt ?_;refine LR.nil (al _ _ ?_);refine CW.cond_t rfl ?_;refine CW.sr (fun aG=>?_);refine LR.an ?_;refine aG _ _ ?_;refine CW.ret (ar .ret nofun _ _ (ah .ret nofun (by simp) _ _ (ag .ret nofun _ _ (am .ret nofun _ _ (aq .ret nofun (by simp) _ _ (ap .ret nofun _ _ (hret .ret (.inr rfl) _ _ _ (res1 rfl rfl) ?_)))))));exact⟨congrArg Value.bool (name_no (fun h=>(h.2.2 i hil).2 ⟨by rw[getD_at hil];omega,by first|(left;omega)|(right;left;omega)|(right;right;rw[getD_at (by omega)];omega)⟩)).symm,hm0⟩
       ·
        refine LR.wm ?_;refine LR.wm ?_;refine LR.w1 (Y.slen rfl u'9 rfl) ?_;refine LR.w1 (Y.subi rfl rfl rfl (by omega)) ?_;refine LR.w1 (Y.eql rfl rfl rfl) ?_;refine LR.w1 (Y.pick_f rfl rfl rfl) ?_;refine LR.wm ?_;refine LR.splitp (d:=34) rfl (fun a6=>?_) (fun a6=>?_)
        ·
         refine LR.g1 ?_;refine LR.g1 ?_;refine LR.g1 ?_;refine LR.g1 ?_;refine LR.g1 ?_;refine LR.w1 (Y.pick_t rfl rfl rfl) ?_;refine LR.pt ?_;refine LR.nil (al _ _ ?_);refine CW.cond_t rfl ?_;refine CW.sr (fun aH=>?_);refine LR.an ?_;refine aH _ _ ?_;refine CW.ret (ar .ret nofun _ _ (ah .ret nofun (by simp) _ _ (ag .ret nofun _ _ (am .ret nofun _ _ (aq .ret nofun (by simp) _ _ (ap .ret nofun _ _ (hret .ret (.inr rfl) _ _ _ (res1 rfl rfl) ?_)))))));exact⟨congrArg Value.bool (name_no (fun h=>(h.2.2 i hil).2 ⟨by rw[getD_at hil];omega,by first|(left;omega)|(right;left;omega)|(right;right;rw[getD_at (by omega)];omega)⟩)).symm,hm0⟩
        ·
         refine LR.wm ?_;refine LR.wm ?_;refine LR.w1 (Y.subi rfl rfl rfl (by omega)) ?_;refine LR.w1 (Y.sindex (i-1) rfl u'9 rfl rfl (by first|rfl|omega) (by omega)) ?_;refine LR.w1 (Y.eql rfl rfl rfl) ?_;refine LR.w1 (Y.pick_f rfl rfl rfl) ?_;refine LR.pt ?_;refine LR.nil (al _ _ ?_);refine CW.condp rfl (fun a7=>?_) (fun a7=>?_)
         ·
          refine CW.sr (fun aI=>?_);refine LR.an ?_;refine aI _ _ ?_;refine CW.ret (ar .ret nofun _ _ (ah .ret nofun (by simp) _ _ (ag .ret nofun _ _ (am .ret nofun _ _ (aq .ret nofun (by simp) _ _ (ap .ret nofun _ _ (hret .ret (.inr rfl) _ _ _ (res1 rfl rfl) ?_)))))));exact⟨congrArg Value.bool (name_no (fun h=>(h.2.2 i hil).2 ⟨by rw[getD_at hil];omega,by first|(left;omega)|(right;left;omega)|(right;right;rw[getD_at (by omega)];omega)⟩)).symm,hm0⟩
         ·
          refine CW.skip ?_;refine QN.sub (aA () _ ?_) ⟨rfl,(iv (by omega)),(iv (by omega)),trivial⟩;exact⟨(fun h=>by obtain⟨e1,e2⟩:=h;rcases e2 with e2|e2|e2<;>first|omega|(rw[getD_at (by omega)]at e2;omega)),ao⟩
      ·
       refine LR.g1 ?_;refine LR.g1 ?_;refine LR.g1 ?_;refine LR.gsu rfl rfl rfl rfl rfl ?_;refine LR.gsu rfl rfl rfl rfl rfl ?_;refine LR.gsu rfl rfl rfl rfl rfl ?_;refine LR.gsu rfl rfl rfl rfl rfl ?_;refine LR.gsu rfl rfl rfl rfl rfl ?_;refine LR.g1 ?_;refine LR.g1 ?_;refine LR.gsu rfl rfl rfl rfl rfl ?_;refine LR.gsu rfl rfl rfl rfl rfl ?_;refine LR.gsu rfl rfl rfl rfl rfl ?_;refine LR.gsu rfl rfl rfl rfl rfl ?_;refine LR.gsu rfl rfl rfl rfl rfl ?_;refine LR.g1 ?_;refine LR.pf ?_;refine LR.nil (al _ _ ?_);refine CW.cond_f rfl ?_;refine CW.skip ?_;refine QN.sub (aA () _ ?_) ⟨rfl,(iv (by omega)),(iv (by omega)),trivial⟩;exact⟨(fun h=>by obtain⟨e1,e2⟩:=h;rcases e2 with e2|e2|e2<;>first|omega|(rw[getD_at (by omega)]at e2;omega)),ao⟩
     ·
      intro _ aB ak;obtain⟨af,ae⟩:=ak;replace hm0:=hm0.tr ae;replace aa:=aa.tr ae;have ba:=ae.size;refine CW.sr (fun ad=>?_);refine LR.m1 ?_;refine LR.v1 (Y.lss rfl rfl rfl) ?_;refine LR.m1 ?_;refine LR.splitp (d:=44) rfl (fun a8=>?_) (fun a8=>?_)
      ·
       refine LR.g1 ?_;refine LR.g1 ?_;refine LR.pt ?_;refine LR.m1 ?_;refine LR.wm ?_;refine LR.w1 (Y.lss rfl rfl rfl) ?_;refine LR.wm ?_;refine LR.splitp (d:=51) rfl (fun aJ=>?_) (fun aJ=>?_)
       ·
        refine LR.g1 ?_;refine LR.g1 ?_;refine LR.w1 (Y.pick_t rfl rfl rfl) ?_;refine LR.pt ?_;refine LR.m1 ?_;refine LR.wm ?_;refine LR.w1 (Y.neq rfl rfl rfl) ?_;refine LR.pt ?_;refine LR.m1 ?_;refine LR.splitp (d:=60) rfl (fun au=>?_) (fun au=>?_)
        ·
         refine LR.wm ?_;refine LR.w1 (Y.neq rfl rfl rfl) ?_;refine LR.pt ?_;refine LR.m1 ?_;refine LR.splitp (d:=64) rfl (fun av=>?_) (fun av=>?_)
         ·
          refine LR.wm ?_;refine LR.w1 (Y.neq rfl rfl rfl) ?_;refine LR.pt ?_;refine LR.m1 ?_;refine LR.splitp (d:=68) rfl (fun aw=>?_) (fun aw=>?_)
          ·
           refine LR.wm ?_;refine LR.w1 (Y.neq rfl rfl rfl) ?_;refine LR.pt ?_;refine LR.nil (ad _ _ ?_);refine CW.condp rfl (fun ax=>?_) (fun ax=>?_)
           ·
            refine CW.sr (fun aK=>?_);refine LR.an ?_;refine aK _ _ ?_;refine CW.ret (ah .ret nofun (by simp) _ _ (ag .ret nofun _ _ (am .ret nofun _ _ (aq .ret nofun (by simp) _ _ (ap .ret nofun _ _ (hret .ret (.inr rfl) _ _ _ (res1 rfl rfl) ?_))))));exact⟨congrArg Value.bool (name_no (fun h=>by have h9:=(okc_iff2 _).1 (h.2.2 i hil).1;rw[getD_at hil]at h9;simp at*;omega)).symm,hm0⟩
           ·
            refine CW.skip (ac _ _ ?_);refine QN.sub (ab () _ ?_) ⟨rfl,(iv (by omega)),trivial⟩;exact⟨(⟨by rw[getD_at hil];exact(okc_iff2 _).2 (by simp at*;omega),fun h=>af (by rw[getD_at hil]at h;exact h)⟩),aa⟩
          ·
           refine LR.g1 ?_;refine LR.g1 ?_;refine LR.pf ?_;refine LR.nil (ad _ _ ?_);refine CW.cond_f rfl ?_;refine CW.skip (ac _ _ ?_);refine QN.sub (ab () _ ?_) ⟨rfl,(iv (by omega)),trivial⟩;exact⟨(⟨by rw[getD_at hil];exact(okc_iff2 _).2 (by simp at*;omega),fun h=>af (by rw[getD_at hil]at h;exact h)⟩),aa⟩
         ·
          refine LR.g1 ?_;refine LR.g1 ?_;refine LR.pf ?_;refine LR.m1 ?_;refine LR.g1 ?_;refine LR.g1 ?_;refine LR.pf ?_;refine LR.nil (ad _ _ ?_);refine CW.cond_f rfl ?_;refine CW.skip (ac _ _ ?_);refine QN.sub (ab () _ ?_) ⟨rfl,(iv (by omega)),trivial⟩;exact⟨(⟨by rw[getD_at hil];exact(okc_iff2 _).2 (by simp at*;omega),fun h=>af (by rw[getD_at hil]at h;exact h)⟩),aa⟩
        ·
         refine LR.g1 ?_;refine LR.g1 ?_;refine LR.pf ?_;refine LR.m1 ?_;refine LR.g1 ?_;refine LR.g1 ?_;refine LR.pf ?_;refine LR.m1 ?_;refine LR.g1 ?_;refine LR.g1 ?_;refine LR.pf ?_;refine LR.nil (ad _ _ ?_);refine CW.cond_f rfl ?_;refine CW.skip (ac _ _ ?_);refine QN.sub (ab () _ ?_) ⟨rfl,(iv (by omega)),trivial⟩;exact⟨(⟨by rw[getD_at hil];exact(okc_iff2 _).2 (by simp at*;omega),fun h=>af (by rw[getD_at hil]at h;exact h)⟩),aa⟩
       ·
        refine LR.wm ?_;refine LR.w1 (Y.gtr rfl rfl rfl) ?_;refine LR.w1 (Y.pick_f rfl rfl rfl) ?_;refine LR.pt ?_;refine LR.m1 ?_;refine LR.splitp (d:=56) rfl (fun aL=>?_) (fun aL=>?_)
        ·
         refine LR.wm ?_;refine LR.w1 (Y.neq rfl rfl rfl) ?_;refine LR.pt ?_;refine LR.m1 ?_;refine LR.splitp (d:=60) rfl (fun au=>?_) (fun au=>?_)
         ·
          refine LR.wm ?_;refine LR.w1 (Y.neq rfl rfl rfl) ?_;refine LR.pt ?_;refine LR.m1 ?_;refine LR.splitp (d:=64) rfl (fun av=>?_) (fun av=>?_)
          ·
           refine LR.wm ?_;refine LR.w1 (Y.neq rfl rfl rfl) ?_;refine LR.pt ?_;refine LR.m1 ?_;refine LR.splitp (d:=68) rfl (fun aw=>?_) (fun aw=>?_)
           ·
            refine LR.wm ?_;refine LR.w1 (Y.neq rfl rfl rfl) ?_;refine LR.pt ?_;refine LR.nil (ad _ _ ?_);refine CW.condp rfl (fun ax=>?_) (fun ax=>?_)
            ·
             refine CW.sr (fun aM=>?_);refine LR.an ?_;refine aM _ _ ?_;refine CW.ret (ah .ret nofun (by simp) _ _ (ag .ret nofun _ _ (am .ret nofun _ _ (aq .ret nofun (by simp) _ _ (ap .ret nofun _ _ (hret .ret (.inr rfl) _ _ _ (res1 rfl rfl) ?_))))));exact⟨congrArg Value.bool (name_no (fun h=>by have h9:=(okc_iff2 _).1 (h.2.2 i hil).1;rw[getD_at hil]at h9;simp at*;omega)).symm,hm0⟩
            ·
             refine CW.skip (ac _ _ ?_);refine QN.sub (ab () _ ?_) ⟨rfl,(iv (by omega)),trivial⟩;exact⟨(⟨by rw[getD_at hil];exact(okc_iff2 _).2 (by simp at*;omega),fun h=>af (by rw[getD_at hil]at h;exact h)⟩),aa⟩
           ·
            refine LR.g1 ?_;refine LR.g1 ?_;refine LR.pf ?_;refine LR.nil (ad _ _ ?_);refine CW.cond_f rfl ?_;refine CW.skip (ac _ _ ?_);refine QN.sub (ab () _ ?_) ⟨rfl,(iv (by omega)),trivial⟩;exact⟨(⟨by rw[getD_at hil];exact(okc_iff2 _).2 (by simp at*;omega),fun h=>af (by rw[getD_at hil]at h;exact h)⟩),aa⟩
          ·
           refine LR.g1 ?_;refine LR.g1 ?_;refine LR.pf ?_;refine LR.m1 ?_;refine LR.g1 ?_;refine LR.g1 ?_;refine LR.pf ?_;refine LR.nil (ad _ _ ?_);refine CW.cond_f rfl ?_;refine CW.skip (ac _ _ ?_);refine QN.sub (ab () _ ?_) ⟨rfl,(iv (by omega)),trivial⟩;exact⟨(⟨by rw[getD_at hil];exact(okc_iff2 _).2 (by simp at*;omega),fun h=>af (by rw[getD_at hil]at h;exact h)⟩),aa⟩
         ·
          refine LR.g1 ?_;refine LR.g1 ?_;refine LR.pf ?_;refine LR.m1 ?_;refine LR.g1 ?_;refine LR.g1 ?_;refine LR.pf ?_;refine LR.m1 ?_;refine LR.g1 ?_;refine LR.g1 ?_;refine LR.pf ?_;refine LR.nil (ad _ _ ?_);refine CW.cond_f rfl ?_;refine CW.skip (ac _ _ ?_);refine QN.sub (ab () _ ?_) ⟨rfl,(iv (by omega)),trivial⟩;exact⟨(⟨by rw[getD_at hil];exact(okc_iff2 _).2 (by simp at*;omega),fun h=>af (by rw[getD_at hil]at h;exact h)⟩),aa⟩
        ·
         refine LR.g1 ?_;refine LR.g1 ?_;refine LR.pf ?_;refine LR.m1 ?_;refine LR.g1 ?_;refine LR.g1 ?_;refine LR.pf ?_;refine LR.m1 ?_;refine LR.g1 ?_;refine LR.g1 ?_;refine LR.pf ?_;refine LR.m1 ?_;refine LR.g1 ?_;refine LR.g1 ?_;refine LR.pf ?_;refine LR.nil (ad _ _ ?_);refine CW.cond_f rfl ?_;refine CW.skip (ac _ _ ?_);refine QN.sub (ab () _ ?_) ⟨rfl,(iv (by omega)),trivial⟩;exact⟨(⟨by rw[getD_at hil];exact(okc_iff2 _).2 (by simp at*;omega),fun h=>af (by rw[getD_at hil]at h;exact h)⟩),aa⟩
      ·
       refine LR.wm ?_;refine LR.w1 (Y.gtr rfl rfl rfl) ?_;refine LR.pf ?_;refine LR.m1 ?_;refine LR.splitp (d:=48) rfl (fun a9=>?_) (fun a9=>?_)
       ·
        refine LR.wm ?_;refine LR.w1 (Y.lss rfl rfl rfl) ?_;refine LR.wm ?_;refine LR.splitp (d:=51) rfl (fun aJ=>?_) (fun aJ=>?_)
        ·
         refine LR.g1 ?_;refine LR.g1 ?_;refine LR.w1 (Y.pick_t rfl rfl rfl) ?_;refine LR.pt ?_;refine LR.m1 ?_;refine LR.wm ?_;refine LR.w1 (Y.neq rfl rfl rfl) ?_;refine LR.pt ?_;refine LR.m1 ?_;refine LR.splitp (d:=60) rfl (fun au=>?_) (fun au=>?_)
         ·
          refine LR.wm ?_;refine LR.w1 (Y.neq rfl rfl rfl) ?_;refine LR.pt ?_;refine LR.m1 ?_;refine LR.splitp (d:=64) rfl (fun av=>?_) (fun av=>?_)
          ·
           refine LR.wm ?_;refine LR.w1 (Y.neq rfl rfl rfl) ?_;refine LR.pt ?_;refine LR.m1 ?_;refine LR.splitp (d:=68) rfl (fun aw=>?_) (fun aw=>?_)
           ·
            refine LR.wm ?_;refine LR.w1 (Y.neq rfl rfl rfl) ?_;refine LR.pt ?_;refine LR.nil (ad _ _ ?_);refine CW.condp rfl (fun ax=>?_) (fun ax=>?_)
            ·
             refine CW.sr (fun aN=>?_);refine LR.an ?_;refine aN _ _ ?_;refine CW.ret (ah .ret nofun (by simp) _ _ (ag .ret nofun _ _ (am .ret nofun _ _ (aq .ret nofun (by simp) _ _ (ap .ret nofun _ _ (hret .ret (.inr rfl) _ _ _ (res1 rfl rfl) ?_))))));exact⟨congrArg Value.bool (name_no (fun h=>by have h9:=(okc_iff2 _).1 (h.2.2 i hil).1;rw[getD_at hil]at h9;simp at*;omega)).symm,hm0⟩
            ·
             refine CW.skip (ac _ _ ?_);refine QN.sub (ab () _ ?_) ⟨rfl,(iv (by omega)),trivial⟩;exact⟨(⟨by rw[getD_at hil];exact(okc_iff2 _).2 (by simp at*;omega),fun h=>af (by rw[getD_at hil]at h;exact h)⟩),aa⟩
           ·
            refine LR.g1 ?_;refine LR.g1 ?_;refine LR.pf ?_;refine LR.nil (ad _ _ ?_);refine CW.cond_f rfl ?_;refine CW.skip (ac _ _ ?_);refine QN.sub (ab () _ ?_) ⟨rfl,(iv (by omega)),trivial⟩;exact⟨(⟨by rw[getD_at hil];exact(okc_iff2 _).2 (by simp at*;omega),fun h=>af (by rw[getD_at hil]at h;exact h)⟩),aa⟩
          ·
           refine LR.g1 ?_;refine LR.g1 ?_;refine LR.pf ?_;refine LR.m1 ?_;refine LR.g1 ?_;refine LR.g1 ?_;refine LR.pf ?_;refine LR.nil (ad _ _ ?_);refine CW.cond_f rfl ?_;refine CW.skip (ac _ _ ?_);refine QN.sub (ab () _ ?_) ⟨rfl,(iv (by omega)),trivial⟩;exact⟨(⟨by rw[getD_at hil];exact(okc_iff2 _).2 (by simp at*;omega),fun h=>af (by rw[getD_at hil]at h;exact h)⟩),aa⟩
         ·
          refine LR.g1 ?_;refine LR.g1 ?_;refine LR.pf ?_;refine LR.m1 ?_;refine LR.g1 ?_;refine LR.g1 ?_;refine LR.pf ?_;refine LR.m1 ?_;refine LR.g1 ?_;refine LR.g1 ?_;refine LR.pf ?_;refine LR.nil (ad _ _ ?_);refine CW.cond_f rfl ?_;refine CW.skip (ac _ _ ?_);refine QN.sub (ab () _ ?_) ⟨rfl,(iv (by omega)),trivial⟩;exact⟨(⟨by rw[getD_at hil];exact(okc_iff2 _).2 (by simp at*;omega),fun h=>af (by rw[getD_at hil]at h;exact h)⟩),aa⟩
        ·
         refine LR.wm ?_;refine LR.w1 (Y.gtr rfl rfl rfl) ?_;refine LR.w1 (Y.pick_f rfl rfl rfl) ?_;refine LR.pt ?_;refine LR.m1 ?_;refine LR.splitp (d:=56) rfl (fun aL=>?_) (fun aL=>?_)
         ·
          refine LR.wm ?_;refine LR.w1 (Y.neq rfl rfl rfl) ?_;refine LR.pt ?_;refine LR.m1 ?_;refine LR.splitp (d:=60) rfl (fun au=>?_) (fun au=>?_)
          ·
           refine LR.wm ?_;refine LR.w1 (Y.neq rfl rfl rfl) ?_;refine LR.pt ?_;refine LR.m1 ?_;refine LR.splitp (d:=64) rfl (fun av=>?_) (fun av=>?_)
           ·
            refine LR.wm ?_;refine LR.w1 (Y.neq rfl rfl rfl) ?_;refine LR.pt ?_;refine LR.m1 ?_;refine LR.splitp (d:=68) rfl (fun aw=>?_) (fun aw=>?_)
            ·
             refine LR.wm ?_;refine LR.w1 (Y.neq rfl rfl rfl) ?_;refine LR.pt ?_;refine LR.nil (ad _ _ ?_);refine CW.condp rfl (fun ax=>?_) (fun ax=>?_)
             ·
              refine CW.sr (fun aO=>?_);refine LR.an ?_;refine aO _ _ ?_;refine CW.ret (ah .ret nofun (by simp) _ _ (ag .ret nofun _ _ (am .ret nofun _ _ (aq .ret nofun (by simp) _ _ (ap .ret nofun _ _ (hret .ret (.inr rfl) _ _ _ (res1 rfl rfl) ?_))))));exact⟨congrArg Value.bool (name_no (fun h=>by have h9:=(okc_iff2 _).1 (h.2.2 i hil).1;rw[getD_at hil]at h9;simp at*;omega)).symm,hm0⟩
             ·
              refine CW.skip (ac _ _ ?_);refine QN.sub (ab () _ ?_) ⟨rfl,(iv (by omega)),trivial⟩;exact⟨(⟨by rw[getD_at hil];exact(okc_iff2 _).2 (by simp at*;omega),fun h=>af (by rw[getD_at hil]at h;exact h)⟩),aa⟩
            ·
             refine LR.g1 ?_;refine LR.g1 ?_;refine LR.pf ?_;refine LR.nil (ad _ _ ?_);refine CW.cond_f rfl ?_;refine CW.skip (ac _ _ ?_);refine QN.sub (ab () _ ?_) ⟨rfl,(iv (by omega)),trivial⟩;exact⟨(⟨by rw[getD_at hil];exact(okc_iff2 _).2 (by simp at*;omega),fun h=>af (by rw[getD_at hil]at h;exact h)⟩),aa⟩
           ·
            refine LR.g1 ?_;refine LR.g1 ?_;refine LR.pf ?_;refine LR.m1 ?_;refine LR.g1 ?_;refine LR.g1 ?_;refine LR.pf ?_;refine LR.nil (ad _ _ ?_);refine CW.cond_f rfl ?_;refine CW.skip (ac _ _ ?_);refine QN.sub (ab () _ ?_) ⟨rfl,(iv (by omega)),trivial⟩;exact⟨(⟨by rw[getD_at hil];exact(okc_iff2 _).2 (by simp at*;omega),fun h=>af (by rw[getD_at hil]at h;exact h)⟩),aa⟩
          ·
           refine LR.g1 ?_;refine LR.g1 ?_;refine LR.pf ?_;refine LR.m1 ?_;refine LR.g1 ?_;refine LR.g1 ?_;refine LR.pf ?_;refine LR.m1 ?_;refine LR.g1 ?_;refine LR.g1 ?_;refine LR.pf ?_;refine LR.nil (ad _ _ ?_);refine CW.cond_f rfl ?_;refine CW.skip (ac _ _ ?_);refine QN.sub (ab () _ ?_) ⟨rfl,(iv (by omega)),trivial⟩;exact⟨(⟨by rw[getD_at hil];exact(okc_iff2 _).2 (by simp at*;omega),fun h=>af (by rw[getD_at hil]at h;exact h)⟩),aa⟩
         ·
          refine LR.g1 ?_;refine LR.g1 ?_;refine LR.pf ?_;refine LR.m1 ?_;refine LR.g1 ?_;refine LR.g1 ?_;refine LR.pf ?_;refine LR.m1 ?_;refine LR.g1 ?_;refine LR.g1 ?_;refine LR.pf ?_;refine LR.m1 ?_;refine LR.g1 ?_;refine LR.g1 ?_;refine LR.pf ?_;refine LR.nil (ad _ _ ?_);refine CW.cond_f rfl ?_;refine CW.skip (ac _ _ ?_);refine QN.sub (ab () _ ?_) ⟨rfl,(iv (by omega)),trivial⟩;exact⟨(⟨by rw[getD_at hil];exact(okc_iff2 _).2 (by simp at*;omega),fun h=>af (by rw[getD_at hil]at h;exact h)⟩),aa⟩
       ·
        refine LR.g1 ?_;refine LR.g1 ?_;refine LR.g1 ?_;refine LR.gsu rfl rfl rfl rfl rfl ?_;refine LR.gsu rfl rfl rfl rfl rfl ?_;refine LR.g1 ?_;refine LR.pf ?_;refine LR.m1 ?_;refine LR.g1 ?_;refine LR.g1 ?_;refine LR.pf ?_;refine LR.m1 ?_;refine LR.g1 ?_;refine LR.g1 ?_;refine LR.pf ?_;refine LR.m1 ?_;refine LR.g1 ?_;refine LR.g1 ?_;refine LR.pf ?_;refine LR.m1 ?_;refine LR.g1 ?_;refine LR.g1 ?_;refine LR.pf ?_;refine LR.nil (ad _ _ ?_);refine CW.cond_f rfl ?_;refine CW.skip (ac _ _ ?_);refine QN.sub (ab () _ ?_) ⟨rfl,(iv (by omega)),trivial⟩;exact⟨(⟨by rw[getD_at hil];exact(okc_iff2 _).2 (by simp at*;omega),fun h=>af (by rw[getD_at hil]at h;exact h)⟩),aa⟩
    ·
     intro _ aS ay;obtain⟨hci,ai⟩:=ay;replace aj:=aj.tr ai;have bb:=ai.size;refine CW.region ?_;refine LR.m1 ?_;refine LR.v1 (Y.addi rfl rfl rfl (by omega)) ?_;refine LR.an ?_;refine QN.sub (a2 (i+1) _ ?_ ?_) ⟨rfl,(iv (by omega)),trivial⟩
     ·exact⟨(by omega),(fun q h h2=>by rcases Nat.lt_or_ge q i with h5|h5;exact hok q h h5;(obtain rfl:q=i:=by omega);exact hci),aj⟩
     ·first|omega|(simp only;omega)|(simp;omega)
   ·
    refine CW.exit (aD (.exit 0) nofun _ _ (am (.exit 0) nofun _ _ (a0 _ _ ?_)));refine aY _ _ (CW.sr (fun aP=>?_));refine LR.an ?_;refine aP _ _ ?_;refine CW.ret (hret .ret (.inr rfl) _ _ _ (res1 rfl rfl) ?_);obtain rfl:i=l.length:=by omega
    exact⟨congrArg Value.bool ((name_iff2 l).2 ⟨by omega,by omega,fun q h=>hok q h h⟩).symm,hm0⟩
theorem rdir_ct(l:List UInt8)(w0:World)(H0:Heap)
 (hl:l.length≤4294967280):
 Ct Tryz.prog w0 92 #[Str l] H0 (fun r H2=>r=Str (dirP l)∧Nw H0 H2):=by
 refine Ct.enter (args:=[Str l]) Tryz.func92 rfl rfl rfl ?_;intro Q0 hret;have hm0:Nw H0 H0:=Mo.refl _ _;refine CW.sr (fun al=>?_);refine LR.an ?_;refine al _ _ (CW.s2 (fun am ao=>CW.sr (fun ap=>?_)));refine LR.m1 ?_;refine LR.call rfl c'53 rfl (Wd.u rfl) rfl rfl (rname_ct l w0 _ hl) ?_;rintro v5 H5 ⟨rfl,aj⟩;replace hm0:=hm0.tr aj;have aE:=aj.size;refine LR.v1 (Y.not rfl rfl) (LR.nil (ap _ _ ?_));refine CW.cond rfl (fun c6=>?_) (fun c6=>?_)
 ·
  refine CW.sr (fun aq=>?_);refine LR.an ?_;refine aq _ _ ?_;refine CW.ret (ao .ret nofun _ _ (hret .ret (.inr rfl) _ _ _ (res1 rfl rfl) ?_));exact⟨by rw[dirP,if_neg (by simpa using c6)];rfl,hm0⟩
 ·
  refine CW.skip (am _ _ (CW.s2 (fun ar au=>CW.sr (fun av=>?_))));refine LR.m1 ?_;refine LR.v1 (Y.slen rfl u'9 rfl) ?_;refine LR.v1 (Y.cast (v2:= .int .i64 ((l.length:Nat)-1:Int)) (Y.subi rfl rfl rfl (by omega)) (rfl)) ?_;refine LR.an ?_;refine av _ _ (CW.block (fun _ _ aw ax=>?_))
  refine CW.loop (fun(k:(Nat))=>[(0,Str l),(3,.int .i64 ((k:Int)-1))])
   (fun(k:(Nat)) (H:Heap)=>(k≤l.length)∧(∀q,q<l.length→k≤q→(l.getD q 0).toNat≠47)∧Nw H5 H)
   (fun(k:(Nat))=>k) l.length ⟨rfl,rfl,trivial⟩ ?_ ?_
  ·
   exact⟨(by omega),fun q h h2=>absurd h2 (by omega),Mo.refl _ _⟩
  intro k aF ay K8 az ak;obtain⟨hk,hno,aa⟩:=ay;replace hm0:=hm0.tr aa;have aG:=aa.size;refine CW.s2 (fun aA aB=>CW.sr (fun ab=>?_));refine LR.m1 ?_;refine LR.v1 (Y.geq rfl rfl rfl) (LR.nil (ab _ _ ?_));refine CW.condp rfl (fun aC=>?_) (fun aC=>?_)
  ·
   have hkl:k-1<l.length:=by omega
   refine CW.skip (aA _ _ (CW.s2 (fun ac ad=>CW.block (fun _ ae _ af=>CW.sr (fun ag=>?_)))));refine LR.m1 ?_;refine LR.m1 ?_;refine LR.v1 (Y.sindex (k-1) rfl u'9 rfl rfl (by first|rfl|omega) (by omega)) ?_;refine LR.v1 (Y.eql rfl rfl rfl) (LR.nil (ag _ _ ?_));refine CW.condp rfl (fun aD=>?_) (fun aD=>?_)
   ·
    refine CW.sr (fun ah=>?_);refine LR.m1 ?_;refine LR.m1 ?_;refine LR.v1 (Y.sslice (0) (k-1) rfl u'9 rfl (.inl ⟨rfl,rfl⟩) (.inr ⟨_,_,_,rfl,rfl,(by omega)⟩) (by omega) (by omega)) ?_;refine LR.an ?_;refine ah _ _ ?_;refine CW.ret (af .ret nofun (by simp) _ _ (ad .ret nofun _ _ (ak .ret nofun _ _ (ax .ret nofun (by simp) _ _ (au .ret nofun _ _ (hret .ret (.inr rfl) _ _ _ (res1 rfl rfl) ?_))))));exact⟨by rw[dirP,if_pos (by simpa using c6),head_at hkl (nat47.1 (by omega)) (fun q h h2=>hno q h (by omega))];simp,hm0⟩
   ·
    refine CW.skip (ae _ _ (ac _ _ (CW.region ?_)));refine LR.m1 ?_;refine LR.v1 (Y.subi rfl rfl rfl (by omega)) ?_;refine LR.an ?_;refine QN.sub (az (k-1) _ ?_ ?_) ⟨rfl,(iv (by omega)),trivial⟩
    ·exact⟨(by omega),fun q h h2=>by
      by_cases h3:k≤q
      ·exact hno q h h3
      ·obtain rfl:q=k-1:=by omega
       rw[getD_at hkl];omega,aa⟩
    ·first|omega|(simp only;omega)|(simp;omega)
  ·
   refine CW.exit (aB (.exit 0) nofun _ _ (ak (.exit 0) nofun _ _ (aw _ _ ?_)));refine ar _ _ (CW.sr (fun ai=>?_));refine LR.an ?_;refine ai _ _ ?_;refine CW.ret (hret .ret (.inr rfl) _ _ _ (res1 rfl rfl) ?_);exact⟨by rw[dirP,if_pos (by simpa using c6),head_no (fun q h=>hno q h (by omega))];rfl,hm0⟩
end SimX

namespace DskA
open E Go.RowKit SimA SimB SimC SimD SimE SimF SimG SimH SimI SimJ SimK SimL SimM SimN SimP SimQ SimR
abbrev fL(fb:List Nat)(x:Pth×Nat):List Value:=[Str x.1,fvl fb x.2]
theorem fL_len(fb:List Nat)(x:Pth×Nat):(fL fb x).length=2:=rfl
theorem fL_one(fb:List Nat)(x:Pth×Nat):∀u∈fL fb x,u.oneCell'=true:=by
 intro u hu;simp only[List.mem_cons,List.not_mem_nil,or_false]at hu;rcases hu with rfl|rfl<;>rfl
abbrev fSv(s:SV):List Value:=[s.v]
theorem fSv_len(s:SV):(fSv s).length=1:=rfl
theorem fSv_one(s:SV):∀u∈fSv s,u.oneCell'=true:=by intro u hu;simp only[List.mem_singleton]at hu;subst hu;rfl
abbrev fDp(x:Pth×Nat):List Value:=[ptr x.2]
theorem fDp_len(x:Pth×Nat):(fDp x).length=1:=rfl
theorem fDp_one(x:Pth×Nat):∀u∈fDp x,u.oneCell'=true:=by intro u hu;simp only[List.mem_singleton]at hu;subst hu;rfl
abbrev fPu(y:Wx):List Value:=[.bool (!y.1.b),y.2.v]
theorem fPu_len(y:Wx):(fPu y).length=2:=rfl
theorem fPu_one(y:Wx):∀u∈fPu y,u.oneCell'=true:=by
 intro u hu;simp only[List.mem_cons,List.not_mem_nil,or_false]at hu;rcases hu with rfl|rfl<;>rfl
theorem rd_congr{α:Type}{F:Nat→Prop}{H:Heap}{f g:α→List Value}{sz:Nat}{v:Value}{l:List α}(h:Rd F H f sz v l)(hfg:∀x∈l,f x=g x):Rd F H g sz v l:=by
 obtain⟨a,cap,h1,h2,h3,h4⟩:=h.ex;refine⟨⟨a,cap,h1,h2,h3,fun hl=>?_⟩⟩;obtain⟨ad,e1,e2,e3,e4,e5⟩:=h4 hl;exact⟨ad,e1,e2,e3,e4,fun i x hx=>by rw[←hfg x (List.mem_of_getElem? hx)];exact e5 i x hx⟩
abbrev dnl(l:Nms)(p:Pth):Nms:=l.filter (fun x=>decide (dirP x.1=p))
theorem mget_dnl(l:Nms)(p q:Pth):mget (dnl l p) q=if dirP q=p then mget l q else none:=by
 rw[mget_filter (f:=fun p'=>decide (dirP p'=p))];by_cases h:dirP q=p<;>simp[h]
theorem dnl_asc{l:Nms}(h:Asc l)(p:Pth):Asc (dnl l p):=h.filter _
theorem dnl_ext{a b:Nms}{p:Pth}(ha:Asc a)(hb:Asc b)(h:∀q,dirP q=p→mget a q=mget b q):dnl a p=dnl b p:=by
 refine asc_ext (dnl_asc ha p) (dnl_asc hb p) (fun q=>?_);rw[mget_dnl,mget_dnl];by_cases e:dirP q=p
 ·rw[if_pos e,if_pos e,h q e]
 ·rw[if_neg e,if_neg e]
theorem dnl_nil{l:Nms}(h:Asc l){p:Pth}(hn:∀q,dirP q=p→mget l q=none):dnl l p=[]:=by
 refine asc_ext (dnl_asc h p) List.Pairwise.nil (fun q=>?_);rw[mget_dnl];by_cases e:dirP q=p
 ·rw[if_pos e,hn q e];rfl
 ·rw[if_neg e];rfl
def Cin(c:Chg)(p:Pth):Prop:=(∀i,c.f=some i→dirP c.n=p)∧(c.g≠[]→dirP c.g=p)
theorem dnl_ap{l:Nms}(h:Asc l){c:Chg}{p:Pth}(hc:Cin c p):dnl (c.ap l) p=c.ap (dnl l p):=by
 refine asc_ext (dnl_asc (asc_ap h c) p) (asc_ap (dnl_asc h p) c) (fun q=>?_);rw[mget_dnl,mget_ap,mget_ap,mget_dnl];by_cases e:dirP q=p
 ·rw[if_pos e,if_pos e]
 ·rw[if_neg e,if_neg e,at_out hc.1 hc.2 e]
theorem dnl_apl{p:Pth}:∀(cs:List Chg) {l:Nms},Asc l→(∀c∈cs,Cin c p)→dnl (apl cs l) p=apl cs (dnl l p)
 |[],_,_,_=>rfl
 |c::cs,l,h,hc=>by
  show dnl (apl cs (c.ap l)) p=apl cs (c.ap (dnl l p));rw[dnl_apl cs (asc_ap h c) (fun d hd=>hc d (List.mem_cons_of_mem _ hd)),dnl_ap h (hc c List.mem_cons_self)]
theorem dnl_merge{now stays:Nms}(h:Asc now)(hs:Asc stays)(n:Pth):dnl (merge now stays n) n=dnl now n:=
 dnl_ext (asc_merge hs n) h (fun q hq=>by rw[mget_merge h,if_pos hq])
theorem cin_of{D:Dk}(hld:∀c∈D.log,∀i,c.f=some i→dirP c.n=c.dir){p:Pth}{c:Chg}(h:c∈D.chgs p):Cin c p:=by
 have:=chgs_mem h;exact⟨fun i hi=>by rw[hld c this.1 i hi];exact this.2,fun hg=>by rw[dir_g hg];exact this.2⟩
theorem mem_nms{l:Nms}(h:Asc l){x:Pth×Nat}(hx:x∈l):mget l x.1=some x.2:=mget_of_mem h.nodup (show(x.1,x.2)∈l from hx)
section
variable {ρ ρ' : Nat → Role} {fb : List Nat} {H H' : Heap} {D D' : Dk} {p : Pth} {db k i b : Nat} {sv nv bv wv : SV} {bl : List SV} {x : Fdt} {l : List Wx} {S : Nat → Prop}
structure RDir (ρ:Nat→Role) (fb:List Nat) (H:Heap) (D:Dk) (p:Pth) (db:Nat) (nv sv bv:SV) (k:Nat) (bl:List SV):Prop where
 rd:ρ db= .dir p
 vd:Var 124 H db [Str p,nv.v,sv.v,bv.v]
 hn:Rd (fun c=>ρ c= .frz) H (fL fb) 2 nv.v (dnl D.now p)
 hs:Rd (fun c=>ρ c= .frz) H (fL fb) 2 sv.v (dnl D.stays p)
 hc:Ow k 121 H fSv 1 bv.v bl
 bn:bl.length=(D.chgs p).length
 hb:∀j (h:j<bl.length),Rd (fun c=>ρ c= .frz) H (fL fb) 2 bl[j].v (apl ((D.chgs p).take (j+1)) (dnl D.stays p))
 na:dnl D.now p=apl (D.chgs p) (dnl D.stays p)
 rc:∀c,c+1=k→ρ c= .chg p
structure RFil (ρ:Nat→Role) (H:Heap) (i b:Nat) (x:Fdt) (nv sv wv:SV) (k:Nat) (l:List Wx):Prop where
 rf:ρ b= .fil i
 vf:Var 132 H b [nv.v,sv.v,wv.v]
 hn:Rd (fun c=>ρ c= .frz) H fB 1 nv.v x.now
 hs:Rd (fun c=>ρ c= .frz) H fB 1 sv.v x.stays
 hw:Ow k 162 H fPu 2 wv.v l
 lw:l.map (·.1)=x.w
 hd:∀y∈l,Rd (fun c=>ρ c= .frz) H fB 1 y.2.v y.1.d
 rk:∀c,c+1=k→ρ c= .wrs i
theorem RDir.tr(h:RDir ρ fb H D p db nv sv bv k bl)(hx:Ext ρ ρ')(s:Mo S H H')(hS:∀c,S c→ρ c≠ .dir p∧ρ c≠ .chg p∧ρ c≠ .frz)
 (hn:dnl D'.now p=dnl D.now p) (hs:dnl D'.stays p=dnl D.stays p) (hc:D'.chgs p=D.chgs p):RDir ρ' fb H' D' p db nv sv bv k bl where
 rd:=hx.of h.rd (by simp)
 vd:=h.vd.up s (fun e=>(hS _ e).1 h.rd)
 hn:=by rw[hn];exact rd_frz h.hn hx s (fun c e=>(hS c e).2.2)
 hs:=by rw[hs];exact rd_frz h.hs hx s (fun c e=>(hS c e).2.2)
 hc:=h.hc.up s (fun b _ e hb=>(hS b hb).2.1 (h.rc b e))
 bn:=by rw[hc];exact h.bn
 hb:=fun j hj=>by rw[hc,hs];exact rd_frz (h.hb j hj) hx s (fun c e=>(hS c e).2.2)
 na:=by rw[hn,hs,hc];exact h.na
 rc:=fun c e=>hx.of (h.rc c e) (by simp)
theorem RFil.tr(h:RFil ρ H i b x nv sv wv k l)(hx:Ext ρ ρ')(s:Mo S H H')(hS:∀c,S c→ρ c≠ .fil i∧ρ c≠ .wrs i∧ρ c≠ .frz):RFil ρ' H' i b x nv sv wv k l where
 rf:=hx.of h.rf (by simp)
 vf:=h.vf.up s (fun e=>(hS _ e).1 h.rf)
 hn:=rd_frz h.hn hx s (fun c e=>(hS c e).2.2)
 hs:=rd_frz h.hs hx s (fun c e=>(hS c e).2.2)
 hw:=h.hw.up s (fun b _ e hb=>(hS b hb).2.1 (h.rk b e))
 lw:=h.lw
 hd:=fun y hy=>rd_frz (h.hd y hy) hx s (fun c e=>(hS c e).2.2)
 rk:=fun c e=>hx.of (h.rk c e) (by simp)
structure Rg where
 ρ:Nat→Role
 fb:List Nat
 dm:Nms
 dv:SV
structure RDk (K:List Nat) (g:Rg) (H:Heap) (b:Nat) (D:Dk):Prop where
 hK:∀c,c+1∈K↔g.ρ c≠ .out
 lt:∀c,g.ρ c≠ .out→c<H.size
 rb:g.ρ b= .fs
 vb:Var 62 H b [.int .i64 D.cap,.int .i64 D.most,g.dv.v,.int .i64 D.ops,.int .i64 D.left,.bool D.dead]
 lvB:D.left≤9223372036854775807
 capB:D.cap≤9223372036854775807
 mostB:D.most≤9223372036854775807
 hd:Rd (fun c=>g.ρ c= .frz) H fDp 1 g.dv.v g.dm
 asc:Asc g.dm
 nms:∀x∈g.dm,x.1.length≤4294967280
 dirs:∀p db,mget g.dm p=some db→∃nv sv bv k bl,RDir g.ρ g.fb H D p db nv sv bv k bl
 abs:∀p,mget g.dm p=none→(∀q,dirP q=p→mget D.now q=none∧mget D.stays q=none)∧D.chgs p=[]
 len:g.fb.length=D.fs.length
 fil:∀i,i<D.fs.length→∃nv sv wv k l,RFil g.ρ H i (g.fb.getD i 0) (fget D.fs i) nv sv wv k l
 ids:(∀p i,mget D.now p=some i→i<D.fs.length)∧(∀p i,mget D.stays p=some i→i<D.fs.length)∧(∀c∈D.log,∀i,c.f=some i→i<D.fs.length)
variable {K K' : List Nat} {g : Rg} {ks : List Nat}
theorem RDk.bk(h:RDk K g H b D):BK K H.size:=fun k hk=>by
 rcases Nat.eq_zero_or_pos k with e|this
 ·omega
 ·have h2:=h.lt (k-1) ((h.hK (k-1)).1 (by rw[Nat.sub_add_cancel this];exact hk))
  omega
theorem RDk.up(h:RDk K g H b D)(s:Mo S H H')(hS:∀c,S c→g.ρ c= .out):RDk K g H' b D:=
 {h with
  lt:=fun c e=>Nat.lt_of_lt_of_le (h.lt c e) s.size
  vb:=h.vb.up s (fun e=>by have:=hS _ e;rw[h.rb]at this;cases this)
  hd:=rd_frz h.hd (Ext.refl _) s (fun c e=>by rw[hS c e];simp)
  dirs:=fun p db e=>by
   obtain⟨nv,sv,bv,k,bl,hd⟩:=h.dirs p db e;exact⟨nv,sv,bv,k,bl,hd.tr (Ext.refl _) s (fun c hc=>by rw[hS c hc];simp) rfl rfl rfl⟩
  fil:=fun i hi=>by
   obtain⟨nv,sv,wv,k,l,hf⟩:=h.fil i hi;exact⟨nv,sv,wv,k,l,hf.tr (Ext.refl _) s (fun c hc=>by rw[hS c hc];simp)⟩}
theorem RDk.nw(h:RDk K g H b D)(s:Nw H H'):RDk K g H' b D:=h.up s (fun c e=>e.elim)
theorem RDk.role(h:RDk K g H b D){c:Nat}(hc:c+1∉K):g.ρ c= .out:=Classical.byContradiction (fun e=>hc ((h.hK c).2 e))
theorem RDk.upL(h:RDk K g H b D)(s:Mo (Ms ks) H H')(d:DKL K ks):RDk K g H' b D:=h.up s (fun c e=>h.role (fun hk=>d (c+1) hk (c+1) e c rfl rfl))
theorem RDk.mem(h:RDk K g H b D){c:Nat}{r:Role}(e:g.ρ c=r)(hr:r≠ .out):c+1∈K:=(h.hK c).2 (by rw[e];exact hr)
theorem RDk.km{r:Role}(h:RDk K g H b D)(hk:∀c,c+1=k→g.ρ c=r)(hr:r≠ .out):KM K k:=fun c e=>h.mem (hk c e) hr
theorem RDk.km1{c:Nat}{r:Role}(h:RDk K g H b D)(e:g.ρ c=r)(hr:r≠ .out):KM K (c+1):=KM.of (h.mem e hr)
theorem RDk.ms(h:RDk K g H b D)(s:Mo S H H')(hS:∀c,S c→g.ρ c≠ .out):Mo (Ms K) H H':=s.weaken (fun c _ e=>(h.hK c).2 (hS c e))
theorem RDk.newk(h:RDk K g H b D)(hk:DL k K):∀c,c+1=k→g.ρ c= .out:=fun c e=>h.role (fun hm=>hk (c+1) hm c e rfl)
theorem RDk.nxk{k2:Nat}(h:RDk K g H b D)(hk:Nx k H.size k2){r:Role}(hr:∀c,c+1=k→g.ρ c=r):∀c,c+1=k2→g.ρ c= .out∨g.ρ c=r:=fun c e=>by
 rcases hk with e2|e2|e2
 ·omega
 ·exact .inr (hr c (by omega))
 ·exact .inl (Classical.byContradiction (fun hq=>by have:=h.lt c hq;omega))
theorem RDk.bfz(h:RDk K g H b D):BF (fun c=>g.ρ c= .frz) H.size:=fun c e=>h.lt c (by rw[e];simp)
theorem RDk.fz{α:Type}{e:TypeId}{f:α→List Value}{sz:Nat}{v:Value}{m:List α}(h:RDk K g H b D)(hl:Ow k e H f sz v m)(hk:DL k K):RDk (k::K) {g with ρ:=uprk g.ρ k .frz} H b D:=by
 have hx:Ext g.ρ (uprk g.ρ k .frz):=Ext.uprk (fun c e=> .inl (h.newk hk c e));have s:Mo (fun _=>False) H H:=Mo.refl _ _
 exact{h with
  hK:=hK_uprk h.hK (by simp),lt:=lt_uprk h.lt (Nat.le_refl _) hl.le,rb:=hx.of h.rb (by simp)
  hd:=rd_frz h.hd hx s (fun c e=>e.elim)
  dirs:=fun p db e=>by
   obtain⟨nv,sv,bv,k,bl,hd⟩:=h.dirs p db e;exact⟨nv,sv,bv,k,bl,hd.tr hx s (fun c hc=>hc.elim) rfl rfl rfl⟩
  fil:=fun i hi=>by
   obtain⟨nv,sv,wv,k,l,hf⟩:=h.fil i hi;exact⟨nv,sv,wv,k,l,hf.tr hx s (fun c hc=>hc.elim)⟩}
theorem ow_frz{α:Type}{e:TypeId}{f:α→List Value}{sz:Nat}{v:Value}{m:List α}(hl:Ow k e H f sz v m):Rd (fun c=>uprk ρ k .frz c= .frz) H f sz v m:=hl.rd.imp (fun c _ e=>uprk_self e)
theorem RDk.setFs(h:RDk K g H b D)(s:Mo (Ms [b+1]) H H')
 (hv:Var 62 H' b [.int .i64 D.cap,.int .i64 D.most,g.dv.v,.int .i64 D'.ops,.int .i64 D'.left,.bool D'.dead]) (hlb:D'.left≤9223372036854775807)
 (hD:D'.cap=D.cap∧D'.most=D.most∧D'.fs=D.fs∧D'.now=D.now∧D'.stays=D.stays∧D'.log=D.log):RDk K g H' b D':=by
 obtain⟨cap,most,fs,now,stays,log,ops,left,dead⟩:=D';obtain⟨rfl,rfl,rfl,rfl,rfl,rfl⟩:=hD
 have hS:∀c,Ms [b+1] c→g.ρ c= .fs:=fun c e=>by
  have:c=b:=by simpa[Ms]using e
  rw[this];exact h.rb
 exact{h with
  lt:=fun c e=>Nat.lt_of_lt_of_le (h.lt c e) s.size,vb:=hv,lvB:=hlb
  hd:=rd_frz h.hd (Ext.refl _) s (fun c e=>by rw[hS c e];simp)
  dirs:=fun p db e=>by
   obtain⟨nv,sv,bv,k,bl,hd⟩:=h.dirs p db e;exact⟨nv,sv,bv,k,bl,hd.tr (Ext.refl _) s (fun c hc=>by rw[hS c hc];simp) rfl rfl rfl⟩
  fil:=fun i hi=>by
   obtain⟨nv,sv,wv,k,l,hf⟩:=h.fil i hi;exact⟨nv,sv,wv,k,l,hf.tr (Ext.refl _) s (fun c hc=>by rw[hS c hc];simp)⟩}
theorem RDk.setDir(h:RDk K g H b D)(s:Mo S H H')(hS:∀c,S c→g.ρ c= .dir p∨g.ρ c= .chg p∨g.ρ c= .out)(hx:Ext g.ρ ρ')(hK:∀c,c+1∈K'↔ρ' c≠ .out)(lt:∀c,ρ' c≠ .out→c<H'.size)
 (hp:mget g.dm p=some db) (hd:∃nv sv bv k bl,RDir ρ' g.fb H' D' p db nv sv bv k bl)
 (hD:D'.cap=D.cap∧D'.most=D.most∧D'.fs=D.fs∧D'.ops=D.ops∧D'.left=D.left∧D'.dead=D.dead)
 (hA:Asc D.now∧Asc D.stays∧Asc D'.now∧Asc D'.stays)
 (hn:∀q,dirP q≠p→mget D'.now q=mget D.now q) (hs:∀q,dirP q≠p→mget D'.stays q=mget D.stays q) (hc:∀n,n≠p→D'.chgs n=D.chgs n)
 (ids:(∀p i,mget D'.now p=some i→i<D'.fs.length)∧(∀p i,mget D'.stays p=some i→i<D'.fs.length)∧(∀c∈D'.log,∀i,c.f=some i→i<D'.fs.length)):RDk K' {g with ρ:=ρ'} H' b D':=by
 obtain⟨cap,most,fs,now,stays,log,ops,left,dead⟩:=D';obtain⟨rfl,rfl,rfl,rfl,rfl,rfl⟩:=hD
 exact{
  hK:=hK,lt:=lt,rb:=hx.of h.rb (by simp)
  vb:=h.vb.up s (fun e=>by have:=hS _ e;rw[h.rb]at this;simp at this)
  lvB:=h.lvB,capB:=h.capB,mostB:=h.mostB
  hd:=rd_frz h.hd hx s (fun c e=>by rcases hS c e with e|e|e<;>(rw[e];simp))
  asc:=h.asc
  nms:=h.nms
  dirs:=fun q db2 e=>by
   by_cases hq:q=p
   ·subst hq
    have:db2=db:=Option.some.inj (e.symm.trans hp);subst this;exact hd
   ·obtain⟨nv,sv,bv,k,bl,hd⟩:=h.dirs q db2 e
    refine⟨nv,sv,bv,k,bl,hd.tr hx s (fun c hc=>?_) (dnl_ext hA.2.2.1 hA.1 (fun r hr=>hn r (by rw[hr];exact hq))) (dnl_ext hA.2.2.2 hA.2.1 (fun r hr=>hs r (by rw[hr];exact hq))) (hc q hq)⟩;rcases hS c hc with e|e|e<;>(rw[e];simp[Ne.symm hq])
  abs:=fun q e=>by
   have hq:q≠p:=fun e2=>by subst e2;rw[hp]at e;cases e
   obtain⟨h1,h2⟩:=h.abs q e;exact⟨fun r hr=>by rw[hn r (by rw[hr];exact hq),hs r (by rw[hr];exact hq)];exact h1 r hr,by rw[hc q hq];exact h2⟩
  len:=h.len
  fil:=fun i hi=>by
   obtain⟨nv,sv,wv,k,l,hf⟩:=h.fil i hi;refine⟨nv,sv,wv,k,l,hf.tr hx s (fun c hc=>?_)⟩;rcases hS c hc with e|e|e<;>(rw[e];simp)
  ids:=ids}
theorem RDk.setFil{y:Fdt}(h:RDk K g H b D)(hi:i<D.fs.length)(s:Mo S H H')(hS:∀c,S c→g.ρ c= .fil i∨g.ρ c= .wrs i∨g.ρ c= .out)(hx:Ext g.ρ ρ')(hK:∀c,c+1∈K'↔ρ' c≠ .out)(lt:∀c,ρ' c≠ .out→c<H'.size)
 (hf:∃nv sv wv k l,RFil ρ' H' i (g.fb.getD i 0) y nv sv wv k l):RDk K' {g with ρ:=ρ'} H' b (D.putF i y):=by
 have hfl:(D.putF i y).fs.length=D.fs.length:=by simp[Dk.putF]
 exact{
  hK:=hK,lt:=lt,rb:=hx.of h.rb (by simp)
  vb:=h.vb.up s (fun e=>by have:=hS _ e;rw[h.rb]at this;simp at this)
  lvB:=h.lvB,capB:=h.capB,mostB:=h.mostB
  hd:=rd_frz h.hd hx s (fun c e=>by rcases hS c e with e|e|e<;>(rw[e];simp))
  asc:=h.asc
  nms:=h.nms
  dirs:=fun q db2 e=>by
   obtain⟨nv,sv,bv,k,bl,hd⟩:=h.dirs q db2 e;refine⟨nv,sv,bv,k,bl,hd.tr hx s (fun c hc=>?_) rfl rfl rfl⟩;rcases hS c hc with e|e|e<;>(rw[e];simp)
  abs:=h.abs,len:=by rw[hfl];exact h.len
  fil:=fun j hj=>by
   rw[hfl]at hj;by_cases hji:j=i
   ·subst hji
    have e:fget (D.putF j y).fs j=y:=by simp[fget,Dk.putF,List.getD,hj]
    rw[e];exact hf
   ·have e:fget (D.putF i y).fs j=fget D.fs j:=by simp[fget,Dk.putF,List.getD,List.getElem?_set,Ne.symm hji]
    rw[e];obtain⟨nv,sv,wv,k,l,hf⟩:=h.fil j hj;refine⟨nv,sv,wv,k,l,hf.tr hx s (fun c hc=>?_)⟩;rcases hS c hc with e|e|e<;>(rw[e];simp[Ne.symm hji])
  ids:=by rw[hfl];exact h.ids}
theorem apl_lt{m:Nat}{cs:List Chg}{l:Nms}(hA:Asc l)(h1:∀p i,mget l p=some i→i<m)(h2:∀c∈cs,∀i,c.f=some i→i<m):∀x∈apl cs l,x.2<m:=fun x hx=>
 apl_ids cs l h1 h2 x.1 x.2 (mem_nms (asc_apl hA cs) hx)
theorem RDk.newFil{x:Nat}(h:RDk K g H b D)(hA:Asc D.now)(hB:Asc D.stays)(hv:Var 132 H x [.slice none 0 0,.slice none 0 0,.slice none 0 0])(hx:DL (x+1) K):
 RDk ((x+1)::K) {g with ρ:=upr g.ρ x (.fil D.fs.length),fb:=g.fb++[x]} H b {D with fs:=D.fs++[⟨[],[],[]⟩]}:=by
 have ho:g.ρ x= .out:=h.role (fun hk=>hx (x+1) hk x rfl rfl);have he:Ext g.ρ (upr g.ρ x (.fil D.fs.length)):=Ext.upr ho;have hg:∀i,i<D.fs.length→(g.fb++[x]).getD i 0=g.fb.getD i 0:=fun i hi=>by simp[List.getD,List.getElem?_append_left (show i<g.fb.length by rw[h.len];exact hi)]
 have s:Mo (fun _=>False) H H:=Mo.refl _ _;have hfl:∀y:Pth×Nat,y.2<D.fs.length→fL g.fb y=fL (g.fb++[x]) y:=fun y hy=>by show[_,fvl _ _]=[_,fvl _ _];rw[fvl,fvl,hg _ hy]
 exact{
  hK:=hK_upr h.hK (by simp),lt:=lt_upr h.lt (Nat.le_refl _) hv.lt,rb:=he.of h.rb (by simp),vb:=h.vb
  lvB:=h.lvB,capB:=h.capB,mostB:=h.mostB,hd:=rd_frz h.hd he s (fun c e=>e.elim),asc:=h.asc,nms:=h.nms
  dirs:=fun q db2 e=>by
   obtain⟨nv,sv,bv,k,bl,hd⟩:=h.dirs q db2 e;have hd2:=hd.tr (D':=D) he s (fun c hc=>hc.elim) rfl rfl rfl;refine⟨nv,sv,bv,k,bl,{hd2 with hn:=rd_congr hd2.hn (fun y hy=>hfl y ?_),hs:=rd_congr hd2.hs (fun y hy=>hfl y ?_),hb:=fun j hj=>rd_congr (hd2.hb j hj) (fun y hy=>hfl y ?_)}⟩
   ·exact h.ids.1 y.1 y.2 (mem_nms hA (List.mem_filter.1 hy).1)
   ·exact h.ids.2.1 y.1 y.2 (mem_nms hB (List.mem_filter.1 hy).1)
   ·refine apl_lt (dnl_asc hB q) (fun p i e=>h.ids.2.1 p i ?_) (fun c hc=>h.ids.2.2 c (chgs_mem (List.mem_of_mem_take hc)).1) y hy
    rw[mget_dnl]at e;split at e
    ·exact e
    ·cases e
  abs:=h.abs
  len:=by simp[h.len]
  fil:=fun j hj=>by
   by_cases hj2:j<D.fs.length
   ·obtain⟨nv,sv,wv,k,l,hf⟩:=h.fil j hj2
    have e:fget (D.fs++[⟨[],[],[]⟩]) j=fget D.fs j:=by simp[fget,List.getD,List.getElem?_append_left hj2]
    rw[hg j hj2];refine⟨nv,sv,wv,k,l,?_⟩;show RFil _ H j _ (fget (D.fs++[⟨[],[],[]⟩]) j) _ _ _ _ _;rw[e];exact hf.tr he s (fun c hc=>hc.elim)
   ·have hj3:j=D.fs.length:=by simp at hj;omega
    subst hj3;have e:fget (D.fs++[⟨[],[],[]⟩]) D.fs.length=⟨[],[],[]⟩:=by simp[fget,List.getD]
    have e2:(g.fb++[x]).getD D.fs.length 0=x:=by rw[←h.len];simp[List.getD]
    refine⟨⟨none,0,0⟩,⟨none,0,0⟩,⟨none,0,0⟩,0,[],?_⟩;show RFil _ H _ ((g.fb++[x]).getD D.fs.length 0) (fget (D.fs++[⟨[],[],[]⟩]) D.fs.length) _ _ _ _ _;rw[e,e2];exact{rf:=upr_self,vf:=hv,hn:=Rd.nil _ _ _ _,hs:=Rd.nil _ _ _ _,hw:=Ow.nil fPu_len fPu_one,lw:=rfl,hd:=fun y hy=>(by cases hy),rk:=fun c e=>(by omega)}
  ids:=by
   have hl:({D with fs:=D.fs++[⟨[],[],[]⟩]}:Dk).fs.length=D.fs.length+1:=by simp
   rw[hl];exact⟨fun p i e=>Nat.lt_succ_of_lt (h.ids.1 p i e),fun p i e=>Nat.lt_succ_of_lt (h.ids.2.1 p i e),fun c hc i e=>Nat.lt_succ_of_lt (h.ids.2.2 c hc i e)⟩}
theorem RDk.newDir{kd:Nat}{dv2:SV}(h:RDk K g H b D)(hA:Asc D.now)(hB:Asc D.stays)(hp:mget g.dm p=none)(hpl:p.length≤4294967280)(hvd:Var 124 H db [Str p,.slice none 0 0,.slice none 0 0,.slice none 0 0])(hl:Ow kd 120 H fDp 1 dv2.v (nput g.dm p db))
 (hxd:DL (db+1) K) (hkd:DL kd K) (hne:Dj (db+1) kd) (s:Mo (Ms [b+1]) H H') (hv:Var 62 H' b [.int .i64 D.cap,.int .i64 D.most,dv2.v,.int .i64 D.ops,.int .i64 D.left,.bool D.dead]):
 RDk (kd::(db+1)::K) {g with ρ:=uprk (upr g.ρ db (.dir p)) kd .frz,dm:=nput g.dm p db,dv:=dv2} H' b D:=by
 have od:g.ρ db= .out:=h.role (fun hk=>hxd (db+1) hk db rfl rfl);have ok:∀c,c+1=kd→g.ρ c= .out∧c≠db:=fun c e=>⟨h.newk hkd c e,fun e2=>hne c (by omega) e⟩;have he1:Ext g.ρ (upr g.ρ db (.dir p)):=Ext.upr od;have he2:Ext (upr g.ρ db (.dir p)) (uprk (upr g.ρ db (.dir p)) kd .frz):=Ext.uprk (fun c e=> .inl (by rw[upr_ne (ok c e).2];exact(ok c e).1));have he:=he1.trans he2
 have hS:∀c,Ms [b+1] c→g.ρ c= .fs:=fun c e=>by
  have:c=b:=by simpa[Ms]using e
  rw[this];exact h.rb
 obtain⟨ab1,ab2⟩:=h.abs p hp;have hlt:∀c,g.ρ c= .out→¬Ms [b+1] c:=fun c e e2=>by have:=hS c e2;rw[e]at this;cases this
 have hz:∀c,Ms [b+1] c→g.ρ c≠ .frz:=fun c e=>by rw[hS c e];simp
 exact{
  hK:=hK_uprk (hK_upr h.hK (by simp)) (by simp),lt:=lt_uprk (lt_upr h.lt s.size (Nat.lt_of_lt_of_le hvd.lt s.size)) (Nat.le_refl _) (Nat.le_trans hl.le s.size),rb:=he.of h.rb (by simp)
  vb:=hv,lvB:=h.lvB,capB:=h.capB,mostB:=h.mostB
  hd:=(hl.up s (fun c _ e=>hlt c (ok c e).1)).rd.imp (fun c _ e=>uprk_self e)
  asc:=asc_nput h.asc _ _
  nms:=fun x hx=>(mem_nput hx).elim (fun e=>by rw[e];exact hpl) (h.nms x)
  dirs:=fun q db2 e=>by
   have e:mget (nput g.dm p db) q=some db2:=e;rw[mget_nput]at e;by_cases hq:q=p
   ·rw[if_pos hq]at e
    have e:=Option.some.inj e;subst e;subst hq;have n1:=dnl_nil hA (fun r hr=>(ab1 r hr).1);have n2:=dnl_nil hB (fun r hr=>(ab1 r hr).2);refine⟨⟨none,0,0⟩,⟨none,0,0⟩,⟨none,0,0⟩,0,[],?_⟩
    exact{rd:=he2.of upr_self (by simp),vd:=hvd.up s (hlt _ od),hn:=by rw[n1];exact Rd.nil _ _ _ _,hs:=by rw[n2];exact Rd.nil _ _ _ _
          hc:=Ow.nil fSv_len fSv_one,bn:=by rw[ab2];rfl,hb:=fun j hj=>absurd hj (Nat.not_lt_zero _),na:=by rw[n1,n2,ab2];rfl,rc:=fun c e=>(by omega)}
   ·rw[if_neg hq]at e
    obtain⟨nv,sv,bv,k,bl,hd⟩:=h.dirs q db2 e;exact⟨nv,sv,bv,k,bl,hd.tr he s (fun c hc=>by rw[hS c hc];simp) rfl rfl rfl⟩
  abs:=fun q e=>by
   have e:mget (nput g.dm p db) q=none:=e;rw[mget_nput]at e;by_cases hq:q=p
   ·rw[if_pos hq]at e;cases e
   ·rw[if_neg hq]at e;exact h.abs q e
  len:=h.len
  fil:=fun i hi=>by
   obtain⟨nv,sv,wv,k,l,hf⟩:=h.fil i hi;exact⟨nv,sv,wv,k,l,hf.tr he s (fun c hc=>by rw[hS c hc];simp)⟩
  ids:=h.ids}
theorem RDk.chg{c:Chg}{k2:Nat}{lv bv2:SV}(h:RDk K g H b D)(hA:Asc D.now)(hB:Asc D.stays)(hp:mget g.dm p=some db)(hd:RDir g.ρ g.fb H D p db nv sv bv k bl)(s:Mo (Ms [db+1,k]) H H')(hv:Var 124 H' db [Str p,lv.v,sv.v,bv2.v])(hc:Ow k2 121 H' fSv 1 bv2.v (bl++[lv]))(hk:Nx k H.size k2)
 (hl:Rd (fun c=>g.ρ c= .frz) H (fL g.fb) 2 lv.v (c.ap (dnl D.now p))) (hcd:c.dir=p) (hci:Cin c p) (hcf:∀i,c.f=some i→i<D.fs.length):RDk (k2::K) {g with ρ:=uprk g.ρ k2 (.chg p)} H' b (D.change c):=by
 have hS:∀x,Ms [db+1,k] x→g.ρ x= .dir p∨g.ρ x= .chg p:=fun x e=>by
  have:x+1=db+1∨x+1=k:=by simpa[Ms]using e
  rcases this with e|e
  ·exact .inl (by rw[show x=db by omega];exact hd.rd)
  ·exact .inr (hd.rc x e)
 have hx:Ext g.ρ (uprk g.ρ k2 (.chg p)):=Ext.uprk (h.nxk hk hd.rc);have hz:∀x,Ms [db+1,k] x→g.ρ x≠ .frz:=fun x e=>by rcases hS x e with e|e<;>(rw[e];simp)
 have hch:(D.change c).chgs p=D.chgs p++[c]:=by simp[Dk.chgs,Dk.change,hcd]
 have hnn:dnl (D.change c).now p=c.ap (dnl D.now p):=dnl_ap hA hci;have hlast:apl (D.chgs p++[c]) (dnl D.stays p)=c.ap (dnl D.now p):=by rw[apl_app,hd.na];rfl
 refine h.setDir s (fun x e=>(hS x e).elim .inl (fun e=> .inr (.inl e))) hx (hK_uprk h.hK (by simp)) (lt_uprk h.lt s.size hc.le) hp ⟨lv,sv,bv2,k2,bl++[lv],?_⟩ ⟨rfl,rfl,rfl,rfl,rfl,rfl⟩ ⟨hA,hB,asc_ap hA c,hB⟩ (fun q hq=>?_) (fun q hq=>rfl) (fun n hn=>?_) ⟨fun q i e=>?_,h.ids.2.1,fun x hxm i e=>?_⟩
 ·exact{rd:=hx.of hd.rd (by simp),vd:=hv,hn:=by rw[hnn];exact rd_frz hl hx s hz,hs:=rd_frz hd.hs hx s hz
        hc:=hc,bn:=by rw[hch];simp[hd.bn]
        hb:=fun j hj=>by
         rw[hch];show Rd _ H' _ 2 _ (apl _ (dnl D.stays p));by_cases hj2:j<bl.length
         ·have e1:(bl++[lv])[j]=bl[j]:=by simp[List.getElem_append_left hj2]
          rw[e1,List.take_append_of_le_length (by rw[←hd.bn];omega)];exact rd_frz (hd.hb j hj2) hx s hz
         ·have hj3:j=bl.length:=by simp at hj;omega
          subst hj3;rw[List.take_of_length_le (by simp[hd.bn]),hlast]
          simpa using rd_frz hl hx s hz
        na:=by rw[hnn,hch];exact hlast.symm
        rc:=fun x e=>uprk_self e}
 ·show mget (c.ap D.now) q=mget D.now q
  rw[mget_ap];exact at_out hci.1 hci.2 hq
 ·simp[Dk.chgs,Dk.change,hcd,Ne.symm hn]
 ·have e:mget (c.ap D.now) q=some i:=e
  exact apl_ids [c] D.now h.ids.1 (fun d hd i hi=>by rw[List.mem_singleton.1 hd]at hi;exact hcf i hi) q i e
 ·rcases List.mem_append.1 hxm with hm|hm
  ·exact h.ids.2.2 x hm i e
  ·rw[List.mem_singleton.1 hm]at e;exact hcf i e
theorem RDk.dsync(h:RDk K g H b D)(hA:Asc D.now)(hB:Asc D.stays)(hp:mget g.dm p=some db)(hd:RDir g.ρ g.fb H D p db nv sv bv k bl)(s:Mo (Ms [db+1]) H H')(hv:Var 124 H' db [Str p,nv.v,nv.v,.slice none 0 0]):RDk K g H' b (D.stayD p):=by
 have hS:∀x,Ms [db+1] x→g.ρ x= .dir p:=fun x e=>by
  have:x=db:=by simpa[Ms]using e
  rw[this];exact hd.rd
 have hz:∀x,Ms [db+1] x→g.ρ x≠ .frz:=fun x e=>by rw[hS x e];simp
 have hst:∀q,mget (D.stayD p).stays q=if dirP q=p then mget D.now q else mget D.stays q:=fun q=>mget_merge hA p q;have hds:dnl (D.stayD p).stays p=dnl D.now p:=dnl_merge hA hB p;have hch:(D.stayD p).chgs p=[]:=by unfold Dk.stayD Dk.chgs;rw[List.filter_filter,List.filter_eq_nil_iff];intro c _;simp
 refine h.setDir (ρ':=g.ρ) s (fun x e=> .inl (hS x e)) (Ext.refl _) h.hK (fun c e=>Nat.lt_of_lt_of_le (h.lt c e) s.size) hp ⟨nv,nv,⟨none,0,0⟩,0,[],?_⟩ ⟨rfl,rfl,rfl,rfl,rfl,rfl⟩ ⟨hA,hB,hA,asc_merge hB p⟩ (fun q hq=>rfl) (fun q hq=>by rw[hst,if_neg hq]) (fun n hn=>?_) ⟨h.ids.1,fun q i e=>?_,fun c hc i e=>h.ids.2.2 c (List.mem_filter.1 hc).1 i e⟩
 ·exact{rd:=hd.rd,vd:=hv,hn:=rd_frz hd.hn (Ext.refl _) s hz,hs:=by rw[hds];exact rd_frz hd.hn (Ext.refl _) s hz,hc:=Ow.nil fSv_len fSv_one,bn:=by rw[hch];rfl,hb:=fun j hj=>absurd hj (Nat.not_lt_zero _),na:=by rw[hds,hch];rfl,rc:=fun c e=>(by omega)}
 ·unfold Dk.stayD Dk.chgs
  rw[List.filter_filter];refine List.filter_congr (fun c _=>?_);by_cases e:c.dir=n
  ·simp[e,hn]
  ·simp[e]
 ·rw[hst]at e
  split at e
  ·exact h.ids.1 q i e
  ·exact h.ids.2.1 q i e
theorem RDk.fput{w:Wr}{nw:List UInt8}{nv2 sd wv2:SV}{kn kd k2 bi:Nat}(h:RDk K g H b D)(hi:i<D.fs.length)(hf:RFil g.ρ H i (g.fb.getD i 0) (fget D.fs i) nv sv wv k l)(e:g.fb.getD i 0=bi)(s:Mo (Ms [bi+1,k]) H H')(hv:Var 132 H' bi [nv2.v,sv.v,wv2.v])(hw:Ow k2 162 H' fPu 2 wv2.v (l++[(w,sd)]))(hk2:Nx k H.size k2)
 (hd:Ow kd 5 H' fB 1 sd.v w.d) (hk:DL kd (k2::K)) (hn:Ow kn 5 H' fB 1 nv2.v nw) (hkn:DL kn (kd::k2::K)):
 RDk (kn::kd::k2::K) {g with ρ:=uprk (uprk (uprk g.ρ k2 (.wrs i)) kd .frz) kn .frz} H' b (D.putF i ⟨nw,(fget D.fs i).stays,(fget D.fs i).w++[w]⟩):=by
 subst e
 have hS:∀x,Ms [g.fb.getD i 0+1,k] x→g.ρ x= .fil i∨g.ρ x= .wrs i:=fun x e=>by
  have:x+1=g.fb.getD i 0+1∨x+1=k:=by simpa[Ms]using e
  rcases this with e|e
  ·exact .inl (by rw[show x=g.fb.getD i 0 by omega];exact hf.rf)
  ·exact .inr (hf.rk x e)
 have hx1:Ext g.ρ (uprk g.ρ k2 (.wrs i)):=Ext.uprk (h.nxk hk2 hf.rk)
 have hkd:∀c,c+1=kd→c+1≠k2∧g.ρ c= .out:=fun c e=>by
  have h1:c+1≠k2:=fun e2=>hk k2 List.mem_cons_self c e e2;exact⟨h1,h.newk (fun k hk2=>hk k (List.mem_cons_of_mem _ hk2)) c e⟩
 have hkn2:∀c,c+1=kn→c+1≠kd∧c+1≠k2∧g.ρ c= .out:=fun c e=>by
  have h1:c+1≠kd:=fun e2=>hkn kd List.mem_cons_self c e e2;have h2:c+1≠k2:=fun e2=>hkn k2 (List.mem_cons_of_mem _ List.mem_cons_self) c e e2;exact⟨h1,h2,h.newk (fun k hk2=>hkn k (List.mem_cons_of_mem _ (List.mem_cons_of_mem _ hk2))) c e⟩
 have hx2:Ext (uprk g.ρ k2 (.wrs i)) (uprk (uprk g.ρ k2 (.wrs i)) kd .frz):=Ext.uprk (fun c e=> .inl (by rw[uprk_ne (hkd c e).1];exact(hkd c e).2));have hx3:Ext (uprk (uprk g.ρ k2 (.wrs i)) kd .frz) (uprk (uprk (uprk g.ρ k2 (.wrs i)) kd .frz) kn .frz):=Ext.uprk (fun c e=> .inl (by rw[uprk_ne (hkn2 c e).1,uprk_ne (hkn2 c e).2.1];exact(hkn2 c e).2.2));have hx:=(hx1.trans hx2).trans hx3;have hfz:∀c,Ms [g.fb.getD i 0+1,k] c→g.ρ c≠ .frz:=fun c e=>by rcases hS c e with e|e<;>(rw[e];simp)
 refine h.setFil hi s (fun x e=>(hS x e).elim .inl (fun e=> .inr (.inl e))) hx (hK_uprk (hK_uprk (hK_uprk h.hK (by simp)) (by simp)) (by simp)) (lt_uprk (lt_uprk (lt_uprk h.lt s.size hw.le) (Nat.le_refl _) hd.le) (Nat.le_refl _) hn.le) ⟨nv2,sv,wv2,k2,l++[(w,sd)],?_⟩
 exact{rf:=hx.of hf.rf (by simp),vf:=hv,hn:=hn.rd.imp (fun c _ e=>uprk_self e),hs:=rd_frz hf.hs hx s hfz,hw:=hw,lw:=by rw[List.map_append,hf.lw];rfl
       hd:=fun y hy=>by
        rcases List.mem_append.1 hy with hy|hy
        ·exact rd_frz (hf.hd y hy) hx s hfz
        ·rw[List.mem_singleton.1 hy];exact hd.rd.imp (fun c _ e=>hx3.of (uprk_self e) (by simp))
       rk:=fun c e=>hx3.of (by rw[uprk_ne (fun e2=>(hkd c e2).1 e)];exact uprk_self e) (by simp)}
theorem RDk.fsync{bi:Nat}(h:RDk K g H b D)(hi:i<D.fs.length)(hf:RFil g.ρ H i (g.fb.getD i 0) (fget D.fs i) nv sv wv k l)(e:g.fb.getD i 0=bi)(s:Mo (Ms [bi+1]) H H')(hv:Var 132 H' bi [nv.v,nv.v,.slice none 0 0]):RDk K g H' b (D.syncF i):=by
 subst e
 have hS:∀x,Ms [g.fb.getD i 0+1] x→g.ρ x= .fil i:=fun x e=>by
  have:x=g.fb.getD i 0:=by simpa[Ms]using e
  rw[this];exact hf.rf
 have hfz:∀c,Ms [g.fb.getD i 0+1] c→g.ρ c≠ .frz:=fun c e=>by rw[hS c e];simp
 refine h.setFil (ρ':=g.ρ) hi s (fun x e=> .inl (hS x e)) (Ext.refl _) h.hK (fun c e=>Nat.lt_of_lt_of_le (h.lt c e) s.size) ⟨nv,nv,⟨none,0,0⟩,0,[],?_⟩;exact{rf:=hf.rf,vf:=hv,hn:=rd_frz hf.hn (Ext.refl _) s hfz,hs:=rd_frz hf.hn (Ext.refl _) s hfz,hw:=Ow.nil fPu_len fPu_one,lw:=rfl,hd:=fun y hy=>(by cases hy),rk:=fun c e=>(by omega)}
theorem RFil.atb{b0 bi:Nat}(h:RFil ρ H i b0 x nv sv wv k l)(e:b0=bi):Var 132 H bi [nv.v,sv.v,wv.v]:=e▸h.vf
theorem RDk.kmf{b0 bi:Nat}(h:RDk K g H b D)(hf:RFil g.ρ H i b0 x nv sv wv k l)(e:b0=bi):KM K (bi+1):=e▸h.km1 hf.rf (by simp)
theorem RFil.ne{b0 bi:Nat}(h:RFil ρ H i b0 x nv sv wv k l)(e:b0=bi):Dj (bi+1) k:=fun c h1 h2=>by
 have h3:=h.rk c h2;rw[show c=b0 by omega,h.rf]at h3;cases h3
theorem RDir.ne(h:RDir ρ fb H D p db nv sv bv k bl):Dj (db+1) k:=fun c h1 h2=>by
 have h3:=h.rc c h2;rw[show c=db by omega,h.rd]at h3;cases h3
theorem RDk.dcrash{picks:List Int}{at_:Nat}{tv:SV}(h:RDk K g H b D)(hA:Asc D.now)(hB:Asc D.stays)(hp:mget g.dm p=some db)(hd:RDir g.ρ g.fb H D p db nv sv bv k bl)(hld:∀c∈D.log,∀i,c.f=some i→dirP c.n=c.dir)(s:Mo (Ms [db+1,k]) H H')
 (hv:Var 124 H' db [Str p,tv.v,tv.v,.slice none 0 0]) (ht:Rd (fun c=>g.ρ c= .frz) H (fL g.fb) 2 tv.v (dnl (crashD picks D (D.stays,at_) p).1 p)):RDk K g H' b (stepM picks D at_ p):=by
 have hS:∀x,Ms [db+1,k] x→g.ρ x= .dir p∨g.ρ x= .chg p:=fun x e=>by
  have:x+1=db+1∨x+1=k:=by simpa[Ms]using e
  rcases this with e|e
  ·exact .inl (by rw[show x=db by omega];exact hd.rd)
  ·exact .inr (hd.rc x e)
 have hz:∀x,Ms [db+1,k] x→g.ρ x≠ .frz:=fun x e=>by rcases hS x e with e|e<;>(rw[e];simp)
 have hall:∀c∈(D.chgs p).take (pickN picks at_ ((D.chgs p).length+1)),c.dir=p∧∀i,c.f=some i→dirP c.n=c.dir:=fun c hc=>by
  have:=chgs_mem (List.mem_of_mem_take hc);exact⟨this.2,hld c this.1⟩
 have hcA:Asc (crashD picks D (D.stays,at_) p).1:=by rw[crashD_st];exact asc_apl hB _
 have hout:∀q,dirP q≠p→mget (crashD picks D (D.stays,at_) p).1 q=mget D.stays q:=fun q hq=>by rw[crashD_st];exact apl_out hq _ _ hall
 have hnw:dnl (stepM picks D at_ p).now p=dnl (crashD picks D (D.stays,at_) p).1 p:=dnl_merge hcA hA p;have hch:(stepM picks D at_ p).chgs p=[]:=by unfold stepM Dk.chgs;rw[List.filter_filter,List.filter_eq_nil_iff];intro c _;simp
 have hid:∀q i,mget (crashD picks D (D.stays,at_) p).1 q=some i→i<D.fs.length:=by
  rw[crashD_st];exact apl_ids _ _ h.ids.2.1 (fun c hc i hi=>h.ids.2.2 c (chgs_mem (List.mem_of_mem_take hc)).1 i hi)
 refine h.setDir (ρ':=g.ρ) s (fun x e=>(hS x e).elim .inl (fun e=> .inr (.inl e))) (Ext.refl _) h.hK (fun c e=>Nat.lt_of_lt_of_le (h.lt c e) s.size) hp ⟨tv,tv,⟨none,0,0⟩,0,[],?_⟩ ⟨rfl,rfl,rfl,rfl,rfl,rfl⟩ ⟨hA,hB,asc_merge hA p,hcA⟩ (fun q hq=>?_) hout (fun n hn=>?_) ⟨fun q i e=>?_,hid,fun c hc i e=>h.ids.2.2 c (List.mem_filter.1 hc).1 i e⟩
 ·exact{rd:=hd.rd,vd:=hv,hn:=by rw[hnw];exact rd_frz ht (Ext.refl _) s hz,hs:=rd_frz ht (Ext.refl _) s hz,hc:=Ow.nil fSv_len fSv_one,bn:=by rw[hch];rfl,hb:=fun j hj=>absurd hj (Nat.not_lt_zero _),na:=by rw[hnw,hch];rfl,rc:=fun c e=>(by omega)}
 ·show mget (merge _ D.now p) q=_
  rw[mget_merge hcA,if_neg hq]
 ·unfold stepM Dk.chgs
  rw[List.filter_filter];refine List.filter_congr (fun c _=>?_);by_cases e:c.dir=n
  ·simp[e,hn]
  ·simp[e]
 ·have e:mget (merge (crashD picks D (D.stays,at_) p).1 D.now p) q=some i:=e
  rw[mget_merge hcA]at e;split at e
  ·exact hid q i e
  ·exact h.ids.1 q i e
theorem RDk.new(cap most:Nat)(hv:Var 62 H b [.int .i64 cap,.int .i64 most,.slice none 0 0,.int .i64 0,.int .i64 0,.bool false])(hc:cap≤9223372036854775807)(hk:most≤9223372036854775807):
 RDk [b+1] ⟨upr (fun _=> .out) b .fs,[],[],⟨none,0,0⟩⟩ H b (Dk.empty cap most) where
 hK:=hK_upr (K:=[]) (ρ:=fun _=> .out) (fun c=>by simp) (by simp)
 lt:=lt_upr (H:=H) (fun c h=>absurd rfl h) (Nat.le_refl _) hv.lt
 rb:=by show upr (fun _=>Role.out) b .fs b=_;exact upr_self
 vb:=hv
 lvB:=by simp[Dk.empty]
 capB:=hc
 mostB:=hk
 hd:=Rd.nil _ _ _ _
 asc:=List.Pairwise.nil
 nms:=nofun
 dirs:=fun p db e=>(by cases e)
 abs:=fun p _=>⟨fun q _=>⟨rfl,rfl⟩,rfl⟩
 len:=rfl
 fil:=fun i hi=>(by simp[Dk.empty]at hi)
 ids:=⟨fun p i e=>(by cases e),fun p i e=>(by cases e),fun c hc=>(by cases hc)⟩
end
end DskA

namespace E
def Sb(l l3:FL):Prop:=∀t v,lk l t=some v→lk l3 t=some v
theorem Sb.c{l l3:FL}{s:Nat}{u:Value}(hn:lk l s=none)(h:Sb l l3):Sb l ((s,u)::l3):=fun t v e=>by
 simp only[lk]
 cases hb:Nat.beq s t with
 |true=>have:=Nat.eq_of_beq_eq_true hb;subst this;rw[hn]at e;cases e
 |false=>exact h t v e
theorem Sb.b{l:FL}{s:Nat}{u v:Value}(hc:lk l s=some v)(hv:u=v):Sb l ((s,u)::l):=fun t w e=>by
 simp only[lk]
 cases hb:Nat.beq s t with
 |true=>have:=Nat.eq_of_beq_eq_true hb;subst this;rw[hc]at e;subst hv;exact e
 |false=>exact e
section
variable {P : Program} {w0 : World} {Q : Exit → Act → World → Prop} {n k : Nat} {dn : List Nat} {l : FL} {H : Heap} {ops : Array Oper} {SH : Heap → Prop} {X : List Nat}
end
section
variable {P : Program} {w0 : World} {Q : Exit → Act → World → Prop} {n : Nat} {l : FL} {H : Heap} {ops : Array Oper} {rest : List Oper} {m : Bool}
theorem LR.join{d:Nat}{v:Value}(k:Nat)(b:(∀l3,lk l3 d=some v→Sb l l3→LR m P w0 ops Q n l3 (rest.drop k) H)→LR m P w0 ops Q n l rest H)(h:LR m P w0 ops Q n ((d,v)::l) (rest.drop k) H):LR m P w0 ops Q n l rest H:=
 b (fun l3 hd hs a w hf ha=>h a w ⟨hf.defers,hf.size,fun t u e=>by
  simp only[lk]at e
  cases hb:Nat.beq d t with
  |true=>have:=Nat.eq_of_beq_eq_true hb;subst this;simp only[hb]at e;exact hf.get _ _ (by rw[hd];exact e)
  |false=>simp only[hb]at e;exact hf.get _ _ (hs _ _ e)⟩ ha)
end
end E

namespace DskB
open E Go.RowKit SimA SimB SimC SimD SimE SimF SimG SimH SimI SimJ SimK SimL SimM SimN SimP SimQ SimR DskA
set_option maxRecDepth 100000 in
theorem inf121:Inf Tryz.prog 121 129 2 24:=⟨Tryz.underlying121,_,_,rfl,rfl,rfl,rfl,rfl⟩
theorem mdel_snoc{l:Nms}{p:Pth}{i:Nat}(h:i<l.length):mdel (l.take (i+1)) p=if l[i].1=p then mdel (l.take i) p else mdel (l.take i) p++[l[i]]:=by
 unfold mdel;rw[List.take_succ_eq_append_getElem h,List.filter_append];by_cases e:l[i].1=p
 ·rw[if_pos e];simp[e]
 ·rw[if_neg e];simp[e]
theorem mget_hit:∀{l:Nms} {p:Pth} {i:Nat} (h:i<l.length),(∀q (h:q<l.length),q<i→¬l[q].1=p)→l[i].1=p→mget l p=some l[i].2
 |x::l,p,0,_,_,e=>by
  have e:x.1=p:=e;show(if p=x.1 then some x.2 else _)=_
  rw[if_pos e.symm];rfl
 |x::l,p,i+1,h,hn,e=>by
  have h0:¬x.1=p:=hn 0 (Nat.zero_lt_succ _) (Nat.zero_lt_succ _);show(if p=x.1 then some x.2 else mget l p)=_;rw[if_neg (fun q=>h0 q.symm)];exact mget_hit (Nat.lt_of_succ_lt_succ h) (fun q hq h2=>hn (q+1) (Nat.succ_lt_succ hq) (Nat.succ_lt_succ h2)) e
theorem mget_no:∀{l:Nms} {p:Pth},(∀q (h:q<l.length),¬l[q].1=p)→mget l p=none
 |[],_,_=>rfl
 |x::l,p,h=>by
  have h0:¬x.1=p:=h 0 (Nat.zero_lt_succ _);show(if p=x.1 then some x.2 else mget l p)=_;rw[if_neg (fun q=>h0 q.symm)];exact mget_no (fun q hq=>h (q+1) (Nat.succ_lt_succ hq))
theorem nput_at:∀{m:Nms} {p:Pth} {i k:Nat},(∀x∈m,¬x.1=p)→k≤m.length→(∀q (h:q<m.length),q<k→blt m[q].1 p)→(∀h:k<m.length,¬blt m[k].1 p)→m.take k++[(p,i)]++m.drop k=nput m p i
 |[],p,i,k,_,hk,_,_=>by simp[nput]
 |x::m,p,i,0,hn,_,_,h2=>by
  have h3:¬blt x.1 p:=h2 (Nat.zero_lt_succ _);have h4:¬x.1=p:=hn x List.mem_cons_self;unfold nput
  rw[if_neg h3,if_neg h4];rfl
 |x::m,p,i,k+1,hn,hk,h1,h2=>by
  have h3:blt x.1 p:=h1 0 (Nat.zero_lt_succ _) (Nat.zero_lt_succ _);have:=nput_at (m:=m) (p:=p) (i:=i) (k:=k) (fun y hy=>hn y (List.mem_cons_of_mem _ hy)) (Nat.le_of_succ_le_succ hk) (fun q hq h=>h1 (q+1) (Nat.succ_lt_succ hq) (Nat.succ_lt_succ h)) (fun h=>h2 (Nat.succ_lt_succ h));unfold nput;rw[if_pos h3,←this];rfl
theorem nput_del{l:Nms}(h:Asc l)(p:Pth)(i:Nat):nput (mdel l p) p i=nput l p i:=by
 refine asc_ext (asc_nput (asc_del h p) p i) (asc_nput h p i) (fun q=>?_);rw[mget_nput,mget_nput];by_cases e:q=p
 ·rw[if_pos e,if_pos e]
 ·rw[if_neg e,if_neg e,mget_del,if_neg e]
theorem mdel_no{l:Nms}{p:Pth}:∀x∈mdel l p,¬x.1=p:=fun x hx=>by
 have:=(List.mem_filter.1 hx).2
 simpa using this
theorem mdel_len(l:Nms)(p:Pth):(mdel l p).length≤l.length:=List.length_filter_le _ _
theorem nput_new:∀{m:Nms} {p:Pth},(∀x∈m,¬x.1=p)→∀i:Nat,(nput m p i).length=m.length+1
 |[],_,_,_=>rfl
 |x::m,p,h,i=>by
  have h4:¬x.1=p:=h x List.mem_cons_self;unfold nput;rw[if_neg h4];split
  ·rw[List.length_cons,nput_new (fun y hy=>h y (List.mem_cons_of_mem _ hy)) i];rfl
  ·rfl
theorem rfind_ct(fb:List Nat)(v:Value)(l:Nms)(p:Pth)(w0:World)(H0:Heap)
 (hl:RdT H0 (fL fb) 2 v l):
 Ct Tryz.prog w0 99 #[v,Str p] H0 (fun r H2=>r= .pointer (fpt fb (mget l p))∧Nw H0 H2):=by
 refine Ct.enter (args:=[v,Str p]) Tryz.func99 rfl rfl rfl ?_;intro Q0 hret;have hm0:Nw H0 H0:=Mo.refl _ _;replace hl:=hl.bnd;have hll:=hl.len;refine CW.sr (fun aj=>?_);refine LR.an ?_;refine aj _ _ (CW.s2 (fun ak al=>CW.sr (fun am=>?_)));refine LR.an ?_;refine am _ _ (CW.block (fun _ _ ao ap=>?_))
 refine CW.loop (fun(i:(Nat))=>[(0,v),(1,Str p),(5,.int .i64 (i:Int))])
  (fun(i:(Nat)) (H:Heap)=>(i≤l.length)∧(∀q (h:q<l.length),q<i→¬l[q].1=p)∧Nw H0 H)
  (fun(i:(Nat))=>l.length-i) 0 ⟨rfl,rfl,rfl,trivial⟩ ?_ ?_
 ·
  exact⟨(by omega),(fun q h h2=>absurd h2 (Nat.not_lt_zero _)),Mo.refl _ _⟩
 intro i aD aq K5 ar ai;obtain⟨hi,hq_,aa⟩:=aq;replace hl:=hl.nw aa;replace hm0:=hm0.tr aa;have aE:=aa.size;refine CW.s2 (fun au av=>CW.sr (fun aw=>?_));refine LR.m1 ?_;refine LR.m1 ?_;refine LR.v1 (Y.len hl rfl u'121 rfl) ?_;refine LR.v1 (Y.lss rfl rfl rfl) (LR.nil (aw _ _ ?_));refine CW.condp rfl (fun c9=>?_) (fun c9=>?_)
 ·
  have hil:i<l.length:=by omega
  obtain⟨y,hey⟩:∃q,q=l[i]:=⟨_,rfl⟩;refine CW.skip (au _ _ (CW.s2 (fun ax ay=>CW.block (fun _ az _ aA=>CW.sr (fun ae=>?_)))));refine LR.m1 ?_;refine LR.m1 ?_;refine LR.e1 (g:=fun ad=> .pointer (some ad)) (Y.iF hl (i) rfl u'121 s'129 rfl rfl) fun aB ab=>?_;refine LR.v1 (Y.FA ab.pt rfl u'129 rfl s'9) ?_;refine LR.v1 (Y.cast (v2:=Str y.1) (Y.load1 (ab.pt.drop 0) rfl a'9 rfl) (by rw[hey])) ?_;refine LR.m1 ?_;refine LR.v1 (Y.seql rfl rfl rfl) (LR.nil (ae _ _ ?_));refine CW.condp rfl (fun af=>?_) (fun af=>?_)
  ·
   refine CW.sr (fun ag=>?_);refine LR.m1 ?_;refine LR.m1 ?_;refine LR.e1 (g:=fun ad=> .pointer (some ad)) (Y.iF hl (i) rfl u'121 s'129 rfl rfl) fun aC ac=>?_;refine LR.v1 (Y.FA ac.pt rfl u'129 rfl s'127) ?_;refine LR.v1 (Y.cast (v2:= .pointer (fpt fb (mget l p))) (Y.load1 (ac.pt.drop 1) rfl a'127 rfl) (by rw[mget_hit hil hq_ (by rw[←hey];exact af)];rfl)) ?_;refine LR.an ?_;refine ag _ _ ?_;refine CW.ret (aA .ret nofun (by simp) _ _ (ay .ret nofun _ _ (ai .ret nofun _ _ (ap .ret nofun (by simp) _ _ (al .ret nofun _ _ (hret .ret (.inr rfl) _ _ _ (res1 rfl rfl) ?_))))));exact⟨rfl,hm0⟩
  ·
   refine CW.skip (az _ _ (ax _ _ (CW.region ?_)));refine LR.m1 ?_;refine LR.v1 (Y.addi rfl rfl rfl (by omega)) ?_;refine LR.an ?_;refine QN.sub (ar (i+1) _ ?_ ?_) ⟨rfl,rfl,(iv (by omega)),trivial⟩
   ·exact⟨(by omega),(fun q h h2=>by rcases Nat.lt_succ_iff_lt_or_eq.1 h2 with h5|rfl;exact hq_ q h h5;rw[←hey];exact af),aa⟩
   ·first|omega|(simp only;omega)|(simp;omega)
 ·
  refine CW.exit (av (.exit 0) nofun _ _ (ai (.exit 0) nofun _ _ (ao _ _ ?_)));refine ak _ _ (CW.sr (fun ah=>?_));refine LR.an ?_;refine ah _ _ ?_;refine CW.ret (hret .ret (.inr rfl) _ _ _ (res1 rfl rfl) ?_);exact⟨by rw[mget_no (fun q hq=>hq_ q hq (by omega))];rfl,hm0⟩
theorem without_ct(fb:List Nat)(v:Value)(l:Nms)(p:Pth)(w0:World)(H0:Heap)
 (hl:RdT H0 (fL fb) 2 v l) (hll:l.length≤1099511627776):
 Ct Tryz.prog w0 94 #[v,Str p] H0 (fun r H2=>∃s2:SV,∃k2:Nat,r=s2.v∧(Ow k2 129 H2 (fL fb) 2 s2.v (mdel l p))∧(Nx 0 H0.size k2)∧Nw H0 H2):=by
 refine Ct.enter (args:=[v,Str p]) Tryz.func94 rfl rfl rfl ?_;intro Q0 hret;have hm0:Nw H0 H0:=Mo.refl _ _;replace hl:=hl.bnd;refine CW.sr (fun az=>?_);refine LR.an ?_;refine az _ _ (CW.sr (fun aA=>?_));refine LR.an ?_;refine aA _ _ (CW.s1 (fun aB=>CW.sr (fun aC=>?_)));refine LR.an ?_;refine aC _ _ (CW.block (fun _ _ aD _=>?_))
 refine CW.loop (fun(s_:(Nat)×(SV)×(Nat))=>match s_ with|(i,s1,k1)=>[(0,v),(1,Str p),(5,s1.v),(6,.int .i64 (i:Int))])
  (fun(i,s1,k1) (H:Heap)=>(i≤l.length)∧(Ow k1 129 H (fL fb) 2 s1.v (mdel (l.take i) p))∧(Nx 0 H0.size k1)∧Nw H0 H)
  (fun(i,s1,k1)=>l.length-i) (0,⟨none,0,0⟩,0) ⟨rfl,rfl,rfl,rfl,trivial⟩ ?_ ?_
 ·
  exact⟨(by omega),Ow.nil (fL_len fb) (fL_one fb),Nx.refl _ _,Mo.refl _ _⟩
 rintro⟨i,s1,k1⟩ aE aF K6 au aG;obtain⟨hi,ow,ab,aa⟩:=aF;have aH:Nx 0 H0.size k1:=Nx.tr (Nx.refl 0 _) ab hm0.size;replace hl:=hl.nw aa;replace hm0:=hm0.tr aa;have aS:=aa.size;have ae:=ow.le;have aj:=ab;have hml:=mdel_len (l.take i) p;rw[List.length_take]at hml;refine CW.s2 (fun aI aJ=>CW.sr (fun aK=>?_));refine LR.m1 ?_;refine LR.m1 ?_;refine LR.v1 (Y.len hl rfl u'121 rfl) ?_;refine LR.v1 (Y.lss rfl rfl rfl) (LR.nil (aK _ _ ?_));refine CW.condp rfl (fun aL=>?_) (fun aL=>?_)
 ·
  have hil:i<l.length:=by omega
  obtain⟨y,hey⟩:∃q,q=l[i]:=⟨_,rfl⟩;refine CW.skip (aI _ _ (CW.s1 (fun av=>CW.block (fun _ ah _ _=>CW.sr (fun ak=>?_)))));refine LR.m1 ?_;refine LR.m1 ?_;refine LR.e1 (g:=fun ad=> .pointer (some ad)) (Y.iF hl (i) rfl u'121 s'129 rfl rfl) fun aM ai=>?_;refine LR.v1 (Y.FA ai.pt rfl u'129 rfl s'9) ?_;refine LR.v1 (Y.cast (v2:=Str y.1) (Y.load1 (ai.pt.drop 0) rfl a'9 rfl) (by rw[hey])) ?_;refine LR.m1 ?_;refine LR.v1 (Y.sneq rfl rfl rfl) (LR.nil (ak _ _ ?_));refine CW.condp rfl (fun al=>?_) (fun al=>?_)
  ·
   refine CW.region ?_;refine LR.m1 ?_;refine LR.m1 ?_;refine LR.m1 ?_;refine LR.e1 (g:=fun ad=> .pointer (some ad)) (Y.iF hl (i) rfl u'121 s'129 rfl rfl) fun aN am=>?_;refine LR.v1 (Y.cast (v2:= .agg (fL fb y).toArray) (Y.loadN am.pt rfl a'129 s'129 ((fL_len _ _)) rfl) (by rw[hey])) ?_;refine LR.z1 (Z.litw _ ([y]) rfl inf121 rfl rfl rfl (by decide) (by decide) (fL_len _) (fL_one _) (rfl)) fun aT aw aO=>?_;obtain⟨nw25,af,aP,ao⟩:=aO;have ax:aw.size=aE.size+1:=by rw[ao];simp
   replace ow:=ow.nw af;replace aa:=aa.tr af;have aU:=af.size;refine LR.z1 (Z.apnd ow nw25.rd rfl inf121 rfl rfl (by simp;omega) (by simp;omega)) fun ay aV aQ=>?_;obtain⟨ap,ow,ag,ac⟩:=aQ;replace ag:Nx k1 aw.size ap:=ag;replace ac:=ac.md;have aq:Nx 0 H0.size ap:=Nx.tr (aj) ag aa.size;replace aa:=aa.tq ac (MIL.o (MI.q aj));have aW:=ac.size;have ae:=ow.le;obtain⟨aR,rfl⟩:∃s:SV,ay=s.v:=⟨toSV ay,ow.sv.symm⟩;refine LR.an ?_;refine ah _ _ (av _ _ (CW.region ?_));refine LR.m1 ?_;refine LR.v1 (Y.addi rfl rfl rfl (by omega)) ?_;refine LR.an ?_;refine QN.sub (au (i+1,aR,ap) _ ?_ ?_) ⟨rfl,rfl,rfl,(iv (by omega)),trivial⟩
   ·exact⟨(by omega),by rw[mdel_snoc hil,←hey,if_neg al];exact ow,aq,aa⟩
   ·first|omega|(simp only;omega)|(simp;omega)
  ·
   refine CW.skip (ah _ _ (av _ _ (CW.region ?_)));refine LR.m1 ?_;refine LR.v1 (Y.addi rfl rfl rfl (by omega)) ?_;refine LR.an ?_;refine QN.sub (au (i+1,s1,k1) _ ?_ ?_) ⟨rfl,rfl,rfl,(iv (by omega)),trivial⟩
   ·exact⟨(by omega),by rw[mdel_snoc hil,←hey,if_pos (by simpa using al)];exact ow,aj,aa⟩
   ·first|omega|(simp only;omega)|(simp;omega)
 ·
  obtain rfl:i=l.length:=by omega
  rw[List.take_length]at ow;refine CW.exit (aJ (.exit 0) nofun _ _ (aG (.exit 0) nofun _ _ (aD _ _ ?_)));refine aB _ _ (CW.sr (fun ar=>?_));refine LR.m1 ?_;refine LR.an ?_;refine ar _ _ ?_;refine CW.ret (hret .ret (.inr rfl) _ _ _ (res1 rfl rfl) ?_);exact⟨s1,k1,rfl,ow,(aH),hm0⟩
theorem with_ct(fb:List Nat)(v:Value)(l:Nms)(p:Pth)(i:Nat)(w0:World)(H0:Heap)
 (hl:RdT H0 (fL fb) 2 v l) (hll:l.length≤549755813888) (hA:Asc l):
 Ct Tryz.prog w0 57 #[v,.agg (fL fb ((p,i):Pth×Nat)).toArray] H0 (fun r H2=>∃s2:SV,∃k2:Nat,r=s2.v∧(Ow k2 129 H2 (fL fb) 2 s2.v (nput l p i))∧(Nx 0 H0.size k2)∧Nw H0 H2):=by
 refine Ct.enter (args:=[v,.agg (fL fb ((p,i):Pth×Nat)).toArray]) Tryz.func57 rfl rfl rfl ?_;intro Q0 hret;have hm0:Nw H0 H0:=Mo.refl _ _;replace hl:=hl.bnd;have hml:=mdel_len l p;refine CW.sr (fun aP=>?_);refine LR.z1 (Z.boxv rfl rfl) ?_;rintro v3 H3 ⟨rfl,vx,av,ba,aQ⟩;have aR:H3.size=H0.size+1:=by rw[aQ];simp
 replace hl:=hl.nw av;replace hm0:=hm0.tr av;have bb:=av.size;replace vx:Var 129 H3 H0.size (fL fb ((p,i):Pth×Nat)):=vx;refine LR.an ?_;refine aP _ _ (CW.sr (fun aS=>?_));refine LR.m1 ?_;refine LR.v1 (Y.FA vx.pt rfl u'129 rfl s'9) ?_;refine LR.v1 (Y.load1 vx.pt rfl a'9 rfl) ?_;refine LR.call rfl c'94 rfl (Wd.u rfl) rfl rfl (without_ct fb v l p w0 _ hl.any (by omega)) (fun bc ar aT=>?_);obtain⟨aG,aU,rfl,ow,aV,ai⟩:=aT;replace vx:=vx.nw ai;replace hm0:=hm0.tr ai;have bd:=ai.size;have aw:=ow.le;refine LR.an ?_;refine aS _ _ (CW.sr (fun aW=>?_));refine LR.an ?_;refine aW _ _ ?_
 refine CW.cut (fun(k:(Nat))=>[(0,aG.v),(3,.pointer (some ⟨H0.size,0,none⟩)),(5,.int .i64 (k:Int))])
  (fun(k:(Nat)) (H:Heap)=>(k≤(mdel l p).length)∧(∀q (h:q<(mdel l p).length),q<k→blt (mdel l p)[q].1 p)∧(∀h:k<(mdel l p).length,¬blt (mdel l p)[k].1 p)∧Nw ar H) (fun _ aH _=>?_) ?_
 ·
  have ae:Nw ar ar:=Mo.refl _ _;refine CW.block (fun _ _ aI _=>?_)
  refine CW.loop (fun(k:(Nat))=>[(0,aG.v),(3,.pointer (some ⟨H0.size,0,none⟩)),(5,.int .i64 (k:Int))])
   (fun(k:(Nat)) (H:Heap)=>(k≤(mdel l p).length)∧(∀q (h:q<(mdel l p).length),q<k→blt (mdel l p)[q].1 p)∧Nw ar H)
   (fun(k:(Nat))=>(mdel l p).length-k) 0 ⟨rfl,rfl,rfl,trivial⟩ ?_ ?_
  ·
   exact⟨(by omega),(fun q h h2=>absurd h2 (Nat.not_lt_zero _)),Mo.refl _ _⟩
  intro k be aX K6 aY aJ;obtain⟨hk_,hkq,ac⟩:=aX;replace vx:=vx.nw ac;replace ow:=ow.nw ac;replace ae:=ae.tr ac;have bf:=ac.size;refine CW.s2 (fun aZ aK=>CW.s1 (fun aL=>?_));refine CW.region_draw rfl (by kernel_rfl) ?_;refine LR.m1 ?_;refine LR.m1 ?_;refine LR.v1 (Y.len ow.rd rfl u'121 rfl) ?_;refine LR.v1 (Y.lss rfl rfl rfl) ?_;refine LR.m1 ?_;refine LR.splitp (d:=15) rfl (fun a0=>?_) (fun a0=>?_)
  ·
   refine LR.wm ?_;refine LR.wm ?_;have hkl:k<(mdel l p).length:=by omega
   refine LR.w1 (Y.owAddr ow (k) rfl u'121 s'129 rfl rfl (by first|rfl|omega) (by first|omega|(simp;omega)|(simp;done))) ?_;refine LR.w1 (Y.fieldAddr (ow.pt (j:=k) (by first|omega|(simp;omega)|(simp;done))) rfl u'129 rfl rfl s'9 (by decide) rfl) ?_;refine LR.w1 (Y.cast (v2:=Str (mdel l p)[k].1) (Y.load1 ((ow.pt (j:=k) (by first|omega|(simp;omega)|(simp;done))).drop 0) rfl a'9 rfl) (rfl)) ?_;refine LR.w1 (Y.FA vx.pt rfl u'129 rfl s'9) ?_;refine LR.w1 (Y.load1 vx.pt rfl a'9 rfl) ?_;refine LR.w1 (Y.slss rfl rfl rfl) ?_;refine LR.pt ?_;refine LR.nil (aL _ _ ?_);refine CW.cond rfl (fun ax=>?_) (fun ax=>?_)
   ·
    refine CW.skip (aZ _ _ (CW.block (fun _ a1 _ _=>CW.region ?_)));refine LR.m1 ?_;refine LR.v1 (Y.addi rfl rfl rfl (by omega)) ?_;refine LR.an ?_;refine a1 _ _ ?_;refine QN.sub (aY (k+1) _ ?_ ?_) ⟨rfl,rfl,(iv (by omega)),trivial⟩
    ·exact⟨(by omega),(fun q h h2=>by rcases Nat.lt_succ_iff_lt_or_eq.1 h2 with h5|rfl;exact hkq q h h5;exact ax),ac⟩
    ·first|omega|(simp only;omega)|(simp;omega)
   ·
    refine CW.exit (aK (.exit 0) nofun _ _ (aJ (.exit 0) nofun _ _ (aI _ _ ?_)));refine QN.sub (aH k _ ?_) ⟨rfl,rfl,(iv (by omega)),trivial⟩;exact⟨(by omega),hkq,(fun _=>by unfold blt;simpa using ax),ae⟩
  ·
   refine LR.g1 ?_;refine LR.g1 ?_;refine LR.g1 ?_;refine LR.g1 ?_;refine LR.g1 ?_;refine LR.g1 ?_;refine LR.g1 ?_;refine LR.g1 ?_;refine LR.pf ?_;refine LR.nil (aL _ _ ?_);refine CW.cond_f rfl ?_;refine CW.exit (aK (.exit 0) nofun _ _ (aJ (.exit 0) nofun _ _ (aI _ _ ?_)));refine QN.sub (aH k _ ?_) ⟨rfl,rfl,(iv (by omega)),trivial⟩;exact⟨(by omega),hkq,(fun h=>absurd h (by omega)),ae⟩
 ·
  intro k ah aj;obtain⟨hk_,hkq,hst,aa⟩:=aj;replace vx:=vx.nw aa;replace ow:=ow.nw aa;replace hm0:=hm0.tr aa;have bg:=aa.size;refine CW.sr (fun ay=>?_);refine LR.an ?_;refine ay _ _ (CW.sr (fun az=>?_));refine LR.m1 ?_;refine LR.m1 ?_;refine LR.m1 ?_;refine LR.e1 (g:=fun v=>v) (Y.slice ow.rd (0) (k) rfl u'121 s'129 rfl (.inl ⟨rfl,rfl⟩) (.inr ⟨_,_,_,rfl,rfl,by first|rfl|omega⟩) (by omega) (by omega)) fun bh rd30=>?_;have nl31:Ow 0 129 ah (fL fb) 2 (.slice none 0 0) []:=Ow.nil (fL_len fb) (fL_one fb);refine LR.z1 (Z.apnd nl31 rd30 rfl inf121 rfl rfl (by simp;omega) (by simp;omega)) fun bi a2 a3=>?_;obtain⟨au,on,af,ab⟩:=a3;replace af:Nx 0 ah.size au:=af;replace ab:=ab.md;have a4:Dj aU au:=Dj.app (Dj.z) ow.le af;have ap:Nx 0 H0.size au:=Nx.tr (Nx.refl 0 _) af hm0.size;replace vx:=vx.upL ab (DL.o Dj.z);replace ow:=ow.upL ab (DL.o Dj.z);replace hm0:=hm0.tq ab (MIL.cons MI.z MIL.nil);have bj:=ab.size;have ak:=on.le;refine LR.an ?_;refine az _ _ (CW.sr (fun aA=>?_));refine LR.m1 ?_;refine LR.v1 (Y.loadN vx.pt rfl a'129 s'129 ((fL_len _ _)) rfl) ?_;refine LR.z1 (Z.litw _ ([((p,i):Pth×Nat)]) rfl inf121 rfl rfl rfl (by decide) (by decide) (fL_len _) (fL_one _) (rfl)) fun bk aM a5=>?_;obtain⟨nw34,ag,a6,aB⟩:=a5;have aN:aM.size=a2.size+1:=by rw[aB];simp
  replace ow:=ow.nw ag;replace on:=on.nw ag;replace hm0:=hm0.tr ag;have bl:=ag.size;refine LR.z1 (Z.apnd on nw34.rd rfl inf121 rfl rfl (by simp;omega) (by simp;omega)) fun bm a7 a8=>?_;obtain⟨aC,on,al,ad⟩:=a8;replace al:Nx au aM.size aC:=al;replace ad:=ad.md;have aq:Nx 0 H0.size aC:=Nx.tr (ap) al hm0.size;replace ow:=ow.upL ad (DL.o a4);replace hm0:=hm0.tq ad (MIL.o (MI.q ap));have bn:=ad.size;have ak:=on.le;refine LR.an ?_;refine aA _ _ (CW.sr (fun aD=>?_));refine LR.m1 ?_;refine LR.m1 ?_;refine LR.m1 ?_;refine LR.e1 (g:=fun v=>v) (Y.slice ow.rd (k) ((mdel l p).length) rfl u'121 s'129 rfl (.inr ⟨_,_,_,rfl,rfl,by first|rfl|omega⟩) (.inl ⟨rfl,rfl⟩) (by omega) (by omega)) fun bo rd39=>?_;refine LR.z1 (Z.apnd on rd39 rfl inf121 rfl rfl (by simp;omega) (by simp;omega)) fun aO bp a9=>?_;obtain⟨aE,on,am,ao⟩:=a9;replace am:Nx aC a7.size aE:=am;replace ao:=ao.md;have aF:Nx 0 H0.size aE:=Nx.tr (aq) am hm0.size;replace hm0:=hm0.tq ao (MIL.o (MI.q aq));rw[List.nil_append,List.drop_zero,List.take_length]at on;obtain⟨a_,rfl⟩:∃s:SV,aO=s.v:=⟨toSV aO,on.sv.symm⟩;refine LR.an ?_;refine aD _ _ ?_;refine CW.ret (hret .ret (.inr rfl) _ _ _ (res1 rfl rfl) ?_);exact⟨a_,aE,rfl,by rw[←nput_del hA,←nput_at mdel_no hk_ hkq hst];exact on,(aF),hm0⟩
end DskB

namespace DskC
open E Go.RowKit SimA SimB SimC SimD SimE SimF SimG SimH SimI SimJ SimK SimL SimM SimN SimP SimQ SimR SimX DskA DskB
set_option maxRecDepth 100000 in
theorem inf60:Inf Tryz.prog 60 120 1 8:=⟨Tryz.underlying60,_,_,rfl,rfl,rfl,rfl,rfl⟩
set_option maxRecDepth 100000 in
theorem inf122:Inf Tryz.prog 122 121 1 24:=⟨Tryz.underlying122,_,_,rfl,rfl,rfl,rfl,rfl⟩
def Gr(g g2:Rg)(p:Pth):Prop:=(mget g.dm p≠none→g2.dm=g.dm)∧g2.dm.length≤g.dm.length+1
theorem dirP_le(p:Pth):(dirP p).length≤p.length:=by
 unfold dirP;split
 ·unfold headP;rw[List.length_take];omega
 ·simp
theorem Gr.refl(g:Rg)(p:Pth):Gr g g p:=⟨fun _=>rfl,Nat.le_succ _⟩
theorem dm_at{m:Nms}{p:Pth}{k:Nat}(hA:Asc m)(hk:k<m.length)(hkq:∀q (h:q<m.length),q<k→blt m[q].1 p)(hst:¬blt m[k].1 p):m[k].1=p↔mget m p≠none:=by
 constructor
 ·intro e h
  rw[←e,mem_nms hA (List.getElem_mem hk)]at h;cases h
 ·intro h
  cases hq:mget m p with
  |none=>exact absurd hq h
  |some z=>
   obtain⟨j,hj,e⟩:=List.getElem_of_mem (mget_mem hq);have e1:m[j].1=p:=by rw[e]
   rcases Nat.lt_trichotomy j k with h1|h1|h1
   ·have:=hkq j hj h1
    rw[e1]at this;exact absurd this (blt_irr p)
   ·subst h1;exact e1
   ·have h2:blt m[k].1 m[j].1:=(List.pairwise_iff_getElem.1 hA) k j hk hj h1
    rw[e1]at h2;exact absurd h2 hst
theorem dm_over{m:Nms}{p:Pth}{k:Nat}(hk:¬k<m.length)(hkq:∀q (h:q<m.length),q<k→blt m[q].1 p):mget m p=none:=by
 cases hq:mget m p with
 |none=>rfl
 |some z=>
  obtain⟨j,hj,e⟩:=List.getElem_of_mem (mget_mem hq);have:=hkq j hj (by omega);have e1:m[j].1=p:=by rw[e]
  rw[e1]at this;exact absurd this (blt_irr p)
theorem dm_no{m:Nms}{p:Pth}(h:mget m p=none):∀x∈m,¬x.1=p:=fun x hx e=>by
 have:(mget m p).isSome=true:=isSome_iff_key.2 (List.mem_map.2 ⟨x,hx,e⟩);rw[h]at this;cases this
section
variable {w0 : World} {n : Nat} {l : FL} {H : Heap} {o : Oper} {K : List Nat} {g : Rg} {b : Nat} {D : Dk} {x y : Operand} {t : TypeId}
theorem rd_left(h:RDk K g H b D)(lv:Nat)(ho:o.op= .store t x y)(hx:opv l x=some (.pointer (some ⟨b,4,none⟩)))(hy:opv l y=some (.int .i64 (lv:Int)))(hs:∀w,(sizeOf t).run Tryz.prog w= .ok 1 w)(hl:lv≤9223372036854775807):
 S Tryz.prog w0 n l H o (fun H'=>RDk K g H' b {D with left:=lv}∧Mo (Ms K) H H'):=
 (S.var1 h.vb 4 _ ho hx hy rfl hs (by simp) rfl).mono fun H' ⟨h1,h2⟩=>⟨h.setFs h2.md1 h1 hl ⟨rfl,rfl,rfl,rfl,rfl,rfl⟩,h.ms h2 (fun c e=>by rw[e,h.rb];simp)⟩
theorem rd_dead(h:RDk K g H b D)(dd:Bool)(ho:o.op= .store t x y)(hx:opv l x=some (.pointer (some ⟨b,5,none⟩)))(hy:opv l y=some (.bool dd))(hs:∀w,(sizeOf t).run Tryz.prog w= .ok 1 w):
 S Tryz.prog w0 n l H o (fun H'=>RDk K g H' b {D with dead:=dd}∧Mo (Ms K) H H'):=
 (S.var1 h.vb 5 _ ho hx hy rfl hs (by simp) rfl).mono fun H' ⟨h1,h2⟩=>⟨h.setFs h2.md1 h1 h.lvB ⟨rfl,rfl,rfl,rfl,rfl,rfl⟩,h.ms h2 (fun c e=>by rw[e,h.rb];simp)⟩
theorem rd_ops(h:RDk K g H b D)(ho:o.op= .store t x y)(hx:opv l x=some (.pointer (some ⟨b,3,none⟩)))(hy:opv l y=some (.int .i64 ((D.ops+1:Nat):Int)))(hs:∀w,(sizeOf t).run Tryz.prog w= .ok 1 w):
 S Tryz.prog w0 n l H o (fun H'=>RDk K g H' b {D with ops:=D.ops+1}∧Mo (Ms K) H H'):=
 (S.var1 h.vb 3 _ ho hx hy rfl hs (by simp) rfl).mono fun H' ⟨h1,h2⟩=>⟨h.setFs h2.md1 h1 h.lvB ⟨rfl,rfl,rfl,rfl,rfl,rfl⟩,h.ms h2 (fun c e=>by rw[e,h.rb];simp)⟩
theorem rbegin_dead(h:D.dead=true):D.begin=(false,D):=by unfold Dk.begin;rw[if_pos h]
theorem rbegin_stop(h:D.dead=false)(h1:D.left=1):D.begin=(false,{D with left:=0,dead:=true}):=by unfold Dk.begin;rw[if_neg (by simp[h]),if_pos h1]
theorem rbegin_go(h:D.dead=false)(h1:D.left≠1):D.begin=(true,{D with left:=D.left-1,ops:=D.ops+1}):=by unfold Dk.begin;rw[if_neg (by simp[h]),if_neg h1]
end
theorem rmk_ct(K:List Nat)(g:Rg)(b:Nat)(D:Dk)(p:Pth)(w0:World)(H0:Heap)
 (hf:RDk K g H0 b D) (hA:Asc D.now) (hB_:Asc D.stays) (hdl:g.dm.length≤1099511627776) (hpl:p.length≤4294967280):
 Ct Tryz.prog w0 100 #[ptr b,Str p] H0 (fun r H2=>∃K2:List Nat,∃g2:Rg,∃db:Nat,r=ptr db∧(RDk K2 g2 H2 b D)∧(NxK K H0.size K2)∧(mget g2.dm p=some db)∧(g2.fb=g.fb)∧(Gr g g2 p)∧Mo (Ms K) H0 H2):=by
 refine Ct.enter (args:=[ptr b,Str p]) Tryz.func100 rfl rfl rfl ?_;intro Q0 hret;have hm0:Mo (Ms K) H0 H0:=Mo.refl _ _;have ab:=NxK.refl K H0.size;have aF:=hf.bk;refine CW.sr (fun bd=>?_);refine LR.an ?_;refine bd _ _ (CW.seq (fun K2 be _=>CW.region ?_));refine LR.an ?_;refine be _ _ ?_
 refine CW.cut (fun(k:(Nat))=>[(0,ptr b),(1,Str p),(5,.int .i64 (k:Int))])
  (fun(k:(Nat)) (H:Heap)=>(k≤g.dm.length)∧(∀q (h:q<g.dm.length),q<k→blt g.dm[q].1 p)∧(∀h:k<g.dm.length,¬blt g.dm[k].1 p)∧Nw H0 H) (fun _ a2 _=>?_) ?_
 ·
  have am:Nw H0 H0:=Mo.refl _ _;refine CW.block (fun _ _ a3 _=>?_)
  refine CW.loop (fun(k:(Nat))=>[(0,ptr b),(1,Str p),(5,.int .i64 (k:Int))])
   (fun(k:(Nat)) (H:Heap)=>(k≤g.dm.length)∧(∀q (h:q<g.dm.length),q<k→blt g.dm[q].1 p)∧Nw H0 H)
   (fun(k:(Nat))=>g.dm.length-k) 0 ⟨rfl,rfl,rfl,trivial⟩ ?_ ?_
  ·
   exact⟨(by omega),(fun q h h2=>absurd h2 (Nat.not_lt_zero _)),Mo.refl _ _⟩
  intro k bC bf K5 bg a4;obtain⟨hk_,hkq,ao⟩:=bf;replace hf:=hf.nw ao;replace am:=am.tr ao;have bD:=ao.size;refine CW.s2 (fun bh a5=>CW.sr (fun a6=>?_));refine LR.m1 ?_;refine LR.m1 ?_;refine LR.n1 ?_;refine LR.v1 (Y.FA hf.vb.pt rfl u'62 rfl s'60) ?_;refine LR.v1 (Y.load1 (hf.vb.pt.drop 2) rfl a'60 rfl) ?_;refine LR.v1 (Y.len hf.hd rfl u'60 rfl) ?_;refine LR.v1 (Y.lss rfl rfl rfl) ?_;refine LR.m1 ?_;refine LR.splitp (d:=15) rfl (fun bi=>?_) (fun bi=>?_)
  ·
   refine LR.wm ?_;refine LR.w1 (Y.nilCheck rfl rfl) ?_;refine LR.w1 (Y.FA hf.vb.pt rfl u'62 rfl s'60) ?_;refine LR.w1 (Y.load1 (hf.vb.pt.drop 2) rfl a'60 rfl) ?_;refine LR.wm ?_;have hkl:k<g.dm.length:=by omega
   obtain⟨y,hey⟩:∃q,q=g.dm[k]:=⟨_,rfl⟩;have hyd:mget g.dm y.1=some y.2:=by rw[hey];exact mem_nms hf.asc (List.getElem_mem hkl)
   obtain⟨nvy,svy,bvy,ky,bly,hdy⟩:=hf.dirs _ _ hyd;refine LR.e (g:=fun ad=> .pointer (some ad)) (Y.indexAddr hf.hd (k) rfl u'60 s'120 rfl rfl (by first|rfl|omega) (by first|omega|(simp;omega)|(simp;done))) (Wd.g rfl rfl rfl) rfl rfl (fun bj aG=>?_);refine LR.w1 (Y.cast (v2:=ptr y.2) (Y.load1 aG rfl a'120 rfl) (by rw[hey])) ?_;refine LR.w1 (Y.nilCheck rfl rfl) ?_;refine LR.w1 (Y.FA hdy.vd.pt rfl u'124 rfl s'9) ?_;refine LR.w1 (Y.load1 (hdy.vd.pt.drop 0) rfl a'9 rfl) ?_;refine LR.wm ?_;refine LR.w1 (Y.slss rfl rfl rfl) ?_;refine LR.pt ?_;refine LR.nil (a6 _ _ ?_);refine CW.cond rfl (fun aH=>?_) (fun aH=>?_)
   ·
    refine CW.skip (bh _ _ (CW.block (fun _ bl _ _=>CW.region ?_)));refine LR.m1 ?_;refine LR.v1 (Y.addi rfl rfl rfl (by omega)) ?_;refine LR.an ?_;refine bl _ _ ?_;refine QN.sub (bg (k+1) _ ?_ ?_) ⟨rfl,rfl,(iv (by omega)),trivial⟩
    ·exact⟨(by omega),(fun q h h2=>by rcases Nat.lt_succ_iff_lt_or_eq.1 h2 with h5|rfl;exact hkq q h h5;rw[←hey];exact aH),ao⟩
    ·first|omega|(simp only;omega)|(simp;omega)
   ·
    refine CW.exit (a5 (.exit 0) nofun _ _ (a4 (.exit 0) nofun _ _ (a3 _ _ ?_)));refine QN.sub (a2 k _ ?_) ⟨rfl,rfl,(iv (by omega)),trivial⟩;exact⟨(by omega),hkq,(fun _=>by rw[←hey];unfold blt;simpa using aH),am⟩
  ·
   refine LR.g1 ?_;refine LR.g1 ?_;refine LR.g1 ?_;refine LR.g1 ?_;refine LR.g1 ?_;refine LR.g1 ?_;refine LR.g1 ?_;refine LR.g1 ?_;refine LR.g1 ?_;refine LR.g1 ?_;refine LR.g1 ?_;refine LR.g1 ?_;refine LR.pf ?_;refine LR.nil (a6 _ _ ?_);refine CW.cond_f rfl ?_;refine CW.exit (a5 (.exit 0) nofun _ _ (a4 (.exit 0) nofun _ _ (a3 _ _ ?_)));refine QN.sub (a2 k _ ?_) ⟨rfl,rfl,(iv (by omega)),trivial⟩;exact⟨(by omega),hkq,(fun h=>absurd h (by omega)),am⟩
 ·
  intro k aa aq;obtain⟨hk_,hkq,hst,ac⟩:=aq;replace hf:=hf.nw ac;replace hm0:=hm0.trN ac;have bE:=ac.size;refine CW.s2 (fun bm bn=>CW.sr (fun aI=>?_));refine LR.m1 ?_;refine LR.m1 ?_;refine LR.n1 ?_;refine LR.v1 (Y.FA hf.vb.pt rfl u'62 rfl s'60) ?_;refine LR.v1 (Y.load1 (hf.vb.pt.drop 2) rfl a'60 rfl) ?_;refine LR.v1 (Y.len hf.hd rfl u'60 rfl) ?_;refine LR.v1 (Y.lss rfl rfl rfl) ?_;refine LR.m1 ?_;refine LR.join (d:=51) (v:= .bool (decide (mget g.dm p≠none))) 13 (fun J38=>?_) ?_
  ·
   refine LR.splitp (d:=38) rfl (fun aJ=>?_) (fun aJ=>?_)
   ·
    refine LR.wm ?_;refine LR.w1 (Y.nilCheck rfl rfl) ?_;refine LR.w1 (Y.FA hf.vb.pt rfl u'62 rfl s'60) ?_;refine LR.w1 (Y.load1 (hf.vb.pt.drop 2) rfl a'60 rfl) ?_;refine LR.wm ?_;have hkl:k<g.dm.length:=by omega
    obtain⟨y,hey⟩:∃q,q=g.dm[k]:=⟨_,rfl⟩;have hyd:mget g.dm y.1=some y.2:=by rw[hey];exact mem_nms hf.asc (List.getElem_mem hkl)
    obtain⟨nvy,svy,bvy,ky,bly,hdy⟩:=hf.dirs _ _ hyd;refine LR.e (g:=fun ad=> .pointer (some ad)) (Y.indexAddr hf.hd (k) rfl u'60 s'120 rfl rfl (by first|rfl|omega) (by first|omega|(simp;omega)|(simp;done))) (Wd.g rfl rfl rfl) rfl rfl (fun bo aK=>?_);refine LR.w1 (Y.cast (v2:=ptr y.2) (Y.load1 aK rfl a'120 rfl) (by rw[hey])) ?_;refine LR.w1 (Y.nilCheck rfl rfl) ?_;refine LR.w1 (Y.FA hdy.vd.pt rfl u'124 rfl s'9) ?_;refine LR.w1 (Y.load1 (hdy.vd.pt.drop 0) rfl a'9 rfl) ?_;refine LR.wm ?_;refine LR.w1 (Y.seql rfl rfl rfl) ?_;refine LR.pt ?_;exact J38 _ (congrArg (fun b=>some (Value.bool b)) (decide_eq_decide.2 (by rw[hey];exact dm_at hf.asc hkl hkq (hst hkl)))) (Sb.c rfl (Sb.c rfl (Sb.c rfl (Sb.c rfl (Sb.c rfl (Sb.c rfl (Sb.c rfl (Sb.c rfl (Sb.c rfl (Sb.c rfl (Sb.c rfl (Sb.c rfl (Sb.c rfl (Sb.b rfl (congrArg Value.bool (decide_eq_true aJ).symm)))))))))))))))
   ·
    refine LR.g1 ?_;refine LR.g1 ?_;refine LR.g1 ?_;refine LR.g1 ?_;refine LR.g1 ?_;refine LR.g1 ?_;refine LR.g1 ?_;refine LR.g1 ?_;refine LR.g1 ?_;refine LR.g1 ?_;refine LR.g1 ?_;refine LR.g1 ?_;refine LR.pf ?_;exact J38 _ (congrArg (fun b=>some (Value.bool b)) (decide_eq_false (fun h=>h (dm_over (by omega) hkq))).symm) (Sb.c rfl (Sb.c rfl (Sb.c rfl (Sb.c rfl (Sb.c rfl (Sb.c rfl (Sb.c rfl (Sb.c rfl (Sb.c rfl (Sb.c rfl (Sb.c rfl (Sb.c rfl (Sb.c rfl (Sb.b rfl (congrArg Value.bool (decide_eq_false aJ).symm)))))))))))))))
  refine LR.nil (aI _ _ ?_);refine CW.condp rfl (fun aC=>?_) (fun aC=>?_)
  ·
   have ar:k<g.dm.length:=Classical.byContradiction (fun h=>aC (dm_over h hkq));have hkp:=(dm_at hf.asc ar hkq (hst ar)).2 aC;have aL:mget g.dm p=some g.dm[k].2:=by rw[←hkp];exact mem_nms hf.asc (List.getElem_mem ar)
   refine CW.sr (fun aM=>?_);refine LR.m1 ?_;refine LR.n1 ?_;refine LR.v1 (Y.FA hf.vb.pt rfl u'62 rfl s'60) ?_;refine LR.v1 (Y.load1 (hf.vb.pt.drop 2) rfl a'60 rfl) ?_;refine LR.m1 ?_;refine LR.e1 (g:=fun ad=> .pointer (some ad)) (Y.indexAddr hf.hd (k) rfl u'60 s'120 rfl rfl (by first|rfl|omega) (by first|omega|(simp;omega)|(simp;done))) fun bp aN=>?_;refine LR.v1 (Y.load1 aN rfl a'120 rfl) ?_;refine LR.an ?_;refine aM _ _ ?_;refine CW.ret (bn .ret nofun _ _ (hret .ret (.inr rfl) _ _ _ (res1 rfl rfl) ?_));exact⟨K,g,g.dm[k].2,rfl,hf,ab,aL,rfl,Gr.refl g p,hm0⟩
  ·
   have hnd:mget g.dm p=none:=Classical.byContradiction aC;refine CW.skip (bm _ _ (CW.sr (fun aO=>?_)));refine LR.m1 ?_;refine LR.v1 (Y.build (v:= .agg #[Str p,.slice none 0 0,.slice none 0 0,.slice none 0 0]) rfl rfl (by intro w;kernel_rfl)) ?_;refine LR.z1 (Z.boxv rfl rfl) fun bF aD bq=>?_;obtain⟨rfl,hvd,au,br,aP⟩:=bq;have a7:aD.size=aa.size+1:=by rw[aP];simp
   have bs:DL (aa.size+1) K:=DL.newK hf.bk;have bt:Nx 0 H0.size (aa.size+1):=Nx.new hm0.size;replace hf:=hf.nw au;replace hm0:=hm0.trN au;have bG:=au.size;replace hvd:Var 124 aD aa.size ([Str p,.slice none 0 0,.slice none 0 0,.slice none 0 0]):=hvd;refine LR.an ?_;refine aO _ _ (CW.sr (fun aQ=>?_));refine LR.an ?_;refine aQ _ _ (CW.sr (fun aR=>?_));refine LR.m1 ?_;refine LR.m1 ?_;refine LR.n1 ?_;refine LR.v1 (Y.FA hf.vb.pt rfl u'62 rfl s'60) ?_;refine LR.v1 (Y.load1 (hf.vb.pt.drop 2) rfl a'60 rfl) ?_;refine LR.m1 ?_;refine LR.e1 (g:=fun v=>v) (Y.slice hf.hd (0) (k) rfl u'60 s'120 rfl (.inl ⟨rfl,rfl⟩) (.inr ⟨_,_,_,rfl,rfl,by first|rfl|omega⟩) (by omega) (by omega)) fun bH rd68=>?_;have nl69:Ow 0 120 aD fDp 1 (.slice none 0 0) []:=Ow.nil fDp_len fDp_one;refine LR.z1 (Z.apnd nl69 rd68 rfl inf60 rfl rfl (by simp;omega) (by simp;omega)) fun bI bu bv=>?_;obtain⟨ax,on,ah,af⟩:=bv;replace ah:Nx 0 aD.size ax:=ah;replace af:=af.md;have a8:DL ax K:=DL.app2 (DL.zK) hf.bk ah;have a9:Dj (aa.size+1) ax:=Dj.app (Dj.z) hvd.lt ah;have a_:Nx 0 H0.size ax:=Nx.tr (Nx.refl 0 _) ah hm0.size;replace hf:=hf.upL af (DKL.cons DL.zK DKL.nil);replace hvd:=hvd.upL af (DL.o Dj.z);replace hm0:=hm0.trL af (MIL.cons MI.z MIL.nil);have bJ:=af.size;have av:=on.le;refine LR.an ?_;refine aR _ _ (CW.sr (fun aS=>?_));refine LR.m1 ?_;refine LR.m1 ?_;refine LR.z1 (Z.litw _ ([((p,aa.size):Pth×Nat)]) rfl inf60 rfl rfl rfl (by decide) (by decide) fDp_len fDp_one (rfl)) fun bK ba bw=>?_;obtain⟨nw72,ai,bx,aT⟩:=bw;have bb:ba.size=bu.size+1:=by rw[aT];simp
   replace hf:=hf.nw ai;replace hvd:=hvd.nw ai;replace on:=on.nw ai;replace hm0:=hm0.trN ai;have bL:=ai.size;refine LR.z1 (Z.apnd on nw72.rd rfl inf60 rfl rfl (by simp;omega) (by simp;omega)) fun bM bz bA=>?_;obtain⟨ay,on,aj,ag⟩:=bA;replace aj:Nx ax ba.size ay:=aj;replace ag:=ag.md;have az:DL ay K:=DL.app2 (a8) hf.bk aj;have aA:Dj (aa.size+1) ay:=Dj.app (a9) hvd.lt aj;have aB:Nx 0 H0.size ay:=Nx.tr (a_) aj hm0.size;replace hf:=hf.upL ag (DKL.cons a8 DKL.nil);replace hvd:=hvd.upL ag (DL.o a9);replace hm0:=hm0.trL ag (MIL.o (MI.q a_));have bN:=ag.size;have av:=on.le;refine LR.an ?_;refine aS _ _ (CW.sr (fun aU=>?_));refine LR.m1 ?_;refine LR.m1 ?_;refine LR.m1 ?_;refine LR.n1 ?_;refine LR.v1 (Y.FA hf.vb.pt rfl u'62 rfl s'60) ?_;refine LR.v1 (Y.load1 (hf.vb.pt.drop 2) rfl a'60 rfl) ?_;refine LR.m1 ?_;refine LR.e1 (g:=fun v=>v) (Y.slice hf.hd (k) (g.dm.length) rfl u'60 s'120 rfl (.inr ⟨_,_,_,rfl,rfl,by first|rfl|omega⟩) (.inl ⟨rfl,rfl⟩) (by omega) (by omega)) fun bO rd81=>?_;refine LR.z1 (Z.apnd on rd81 rfl inf60 rfl rfl (by simp;omega) (by simp;omega)) fun bc bP bB=>?_;obtain⟨aE,on,ak,al⟩:=bB;replace ak:Nx ay bz.size aE:=ak;replace al:=al.md;have aV:DL aE K:=DL.app2 (az) hf.bk ak;have aW:Dj (aa.size+1) aE:=Dj.app (aA) hvd.lt ak;have aX:Nx 0 H0.size aE:=Nx.tr (aB) ak hm0.size;replace hf:=hf.upL al (DKL.cons az DKL.nil);replace hvd:=hvd.upL al (DL.o aA);replace hm0:=hm0.trL al (MIL.o (MI.q aB));rw[List.nil_append,List.drop_zero,List.take_length,nput_at (dm_no hnd) hk_ hkq hst]at on;obtain⟨bQ,rfl⟩:∃s:SV,bc=s.v:=⟨toSV bc,on.sv.symm⟩;refine LR.n1 ?_;refine LR.v1 (Y.FA hf.vb.pt rfl u'62 rfl s'60) ?_;refine LR.s1 (S.var1 hf.vb 2 _ rfl rfl rfl rfl s'60 (by simp) rfl) fun aY aw=>?_;obtain⟨hvb10_11,ae⟩:=aw;have ap:=hf.ms ae (fun c e=>by rw[e,hf.rb];simp);replace hm0:=hm0.trL ap (MIL.ofK (ab) (by intro k hk;simp[hk]));have aZ:=NxK.cons (bt) (ab);have a0:=NxK.cons (aX) (aZ);replace hf:=hf.newDir hA hB_ hnd hpl hvd on (bs) (aV) (aW) ae.md1 hvb10_11;refine LR.nil (aU _ _ (CW.sr (fun a1=>?_)));refine LR.m1 ?_;refine LR.an ?_;refine a1 _ _ ?_;refine CW.ret (hret .ret (.inr rfl) _ _ _ (res1 rfl rfl) ?_);exact⟨_,_,aa.size,rfl,hf,a0,by show mget (nput g.dm p _) p=_;rw[mget_nput,if_pos rfl],rfl,⟨fun h=>absurd hnd h,Nat.le_of_eq (nput_new (dm_no hnd) _)⟩,hm0⟩
theorem rchg_ct(K:List Nat)(g:Rg)(b:Nat)(D:Dk)(p:Pth)(db:Nat)(lv:SV)(c:Chg)(w0:World)(H0:Heap)
 (hf:RDk K g H0 b D) (hA:Asc D.now) (hB_:Asc D.stays) (hdb:mget g.dm p=some db) (hl:Rd (fun c=>g.ρ c= .frz) H0 (fL g.fb) 2 lv.v (c.ap (dnl D.now p))) (hcd:c.dir=p) (hci:Cin c p) (hcf:∀i,c.f=some i→i<D.fs.length) (hll:D.log.length≤1099511627776):
 Ct Tryz.prog w0 119 #[ptr db,lv.v] H0 (fun r H2=>∃K2:List Nat,∃g2:Rg,r= .tuple #[]∧(RDk K2 g2 H2 b (D.change c))∧(NxK K H0.size K2)∧(g2.fb=g.fb∧g2.dm=g.dm)∧Mo (Ms K) H0 H2):=by
 refine Ct.enter (args:=[ptr db,lv.v]) Tryz.func119 rfl rfl rfl ?_;intro Q0 hret;have hm0:Mo (Ms K) H0 H0:=Mo.refl _ _;have aa:=NxK.refl K H0.size;have ak:=hf.bk;refine CW.s1 (fun aC=>?_);obtain⟨nvA,svA,bvA,kcA,blA,hdA⟩:=hf.dirs _ db hdb;have hbn:=hdA.bn;have hll2:(D.chgs p).length≤D.log.length:=List.length_filter_le _ _;have hop:Mo (Ms [(db+1),kcA]) H0 H0:=Mo.refl _ _;have km1:KM K (db+1):=(hf.km1 hdA.rd (by simp));have vd:=hdA.vd;have al:=vd.lt;have av:MI K H0.size (db+1):=MIL.at (MIL.ofK (aa) (by intro k hk;simp[hk])) km1;have aw:=Nx.refl (db+1) H0.size;have km4:KM K kcA:=(hf.km hdA.rc (by simp));have hc:=hdA.hc;have ag:=hc.le;have aD:MI K H0.size kcA:=MIL.at (MIL.ofK (aa) (by intro k hk;simp[hk])) km4;have ax:=Nx.refl kcA H0.size;have am:Dj (db+1) kcA:=hdA.ne;refine CW.region ?_;refine LR.m1 ?_;refine LR.m1 ?_;refine LR.n1 ?_;refine LR.v1 (Y.FA vd.pt rfl u'124 rfl s'121) ?_;refine LR.s1 (S.var1 vd 1 ([Str p,lv.v,svA.v,bvA.v]) rfl rfl rfl (rfl) s'121 (by simp) (rfl)) fun an ao=>?_;obtain⟨vd,ac⟩:=ao;replace ac:=ac.md1;replace hc:=hc.upL ac (DL.o am.symm);replace hm0:=hm0.trL ac (MIL.cons (av) MIL.nil);replace hop:=hop.trL ac (MIL.o (MI.r aw));have aI:=ac.size;refine LR.nil (aC _ _ (CW.region ?_));refine LR.m1 ?_;refine LR.m1 ?_;refine LR.n1 ?_;refine LR.v1 (Y.FA vd.pt rfl u'124 rfl s'122) ?_;refine LR.v1 (Y.load1 (vd.pt.drop 3) rfl a'122 rfl) ?_;refine LR.m1 ?_;refine LR.z1 (Z.litw _ ([lv]) rfl inf122 rfl rfl rfl (by decide) (by decide) fSv_len fSv_one (rfl)) fun aJ ay aE=>?_;obtain⟨nw14,ae,aF,aq⟩:=aE;have az:ay.size=an.size+1:=by rw[aq];simp
 replace vd:=vd.nw ae;replace hc:=hc.nw ae;replace hm0:=hm0.trN ae;replace hop:=hop.trN ae;have aK:=ae.size;refine LR.z1 (Z.apnd hc nw14.rd rfl inf122 rfl rfl (by simp;omega) (by simp;omega)) fun aA aL aG=>?_;obtain⟨aj,hc,af,ad⟩:=aG;replace af:Nx kcA ay.size aj:=af;replace ad:=ad.md;have ar:Dj (db+1) aj:=Dj.app (am) vd.lt af;have ah:Nx kcA H0.size aj:=Nx.tr (ax) af hop.size;replace vd:=vd.upL ad (DL.o am);replace hm0:=hm0.trL ad (MIL.cons (aD) MIL.nil);replace hop:=hop.trL ad (MIL.o (MI.r ax));have aM:=ad.size;have ag:=hc.le;obtain⟨aH,rfl⟩:∃s:SV,aA=s.v:=⟨toSV aA,hc.sv.symm⟩;refine LR.n1 ?_;refine LR.v1 (Y.FA vd.pt rfl u'124 rfl s'122) ?_;refine LR.s1 (S.var1 vd 3 ([Str p,lv.v,svA.v,aH.v]) rfl rfl rfl (rfl) s'122 (by simp) (rfl)) fun aB ai=>?_;obtain⟨vd,ab⟩:=ai;replace ab:=ab.md1;replace hc:=hc.upL ab (DL.o ar.symm);replace hm0:=hm0.trL ab (MIL.cons (av) MIL.nil);replace hop:=hop.trL ab (MIL.o (MI.r aw));have aN:=ab.size;refine LR.nil ?_;have au:NxK K H0.size (aj::K):=(NxK.app (aa) (km4) (ah) (by omega));replace hf:=hf.chg hA hB_ hdb hdA hop vd hc (ah) hl hcd hci hcf;refine hret .normal (.inl rfl) _ _ _ (res0 rfl) ?_;exact⟨_,_,rfl,hf,au,⟨rfl,rfl⟩,hm0⟩
theorem rfile_ct(K:List Nat)(g:Rg)(b:Nat)(D:Dk)(p:Pth)(w0:World)(H0:Heap)
 (hf:RDk K g H0 b D) (hA:Asc D.now) (hB_:Asc D.stays) (hdl:g.dm.length≤1099511627776) (hl:p.length≤4294967280):
 Ct Tryz.prog w0 65 #[ptr b,Str p] H0 (fun r H2=>∃K2:List Nat,∃g2:Rg,r= .pointer (fpt g2.fb (mget D.now p))∧(RDk K2 g2 H2 b (D))∧(NxK K H0.size K2)∧(g2.fb=g.fb)∧(Gr g g2 (dirP p))∧Mo (Ms K) H0 H2):=by
 refine Ct.enter (args:=[ptr b,Str p]) Tryz.func65 rfl rfl rfl ?_;intro Q0 hret;have hm0:Mo (Ms K) H0 H0:=Mo.refl _ _;have aa:=NxK.refl K H0.size;have ac:=hf.bk;refine CW.sr (fun af=>?_);refine LR.an ?_;refine af _ _ (CW.seq (fun K2 ag _=>CW.region ?_));refine LR.m1 ?_;refine LR.m1 ?_;refine LR.call rfl c'92 rfl (Wd.u rfl) rfl rfl (rdir_ct p w0 _ hl) ?_;rintro v7 H7 ⟨rfl,ad⟩;replace hf:=hf.nw ad;replace hm0:=hm0.trN ad;have al:=ad.size;refine LR.call rfl c'100 rfl (Wd.u rfl) rfl rfl (rmk_ct K g b D (dirP p) w0 _ hf hA hB_ hdl (by first|omega|(have:=dirP_le p;omega))) ?_;rintro v8 H8 ⟨Q8,g8,db,rfl,hf,ae,hdb,ah,hgd8,ai⟩;have aj:NxK K H0.size Q8:=NxK.tr (aa) ae hm0.size;replace hm0:=hm0.trL ai (MIL.ofK (aa) (by intro k hk;simp[hk]));obtain⟨nvA,svA,bvA,kcA,blA,hdA⟩:=hf.dirs _ db hdb;refine LR.n1 ?_;refine LR.v1 (Y.FA hdA.vd.pt rfl u'124 rfl s'121) ?_;refine LR.v1 (Y.load1 (hdA.vd.pt.drop 1) rfl a'121 rfl) ?_;refine LR.m1 ?_;refine LR.call rfl c'99 rfl (Wd.u rfl) rfl rfl (rfind_ct g8.fb nvA.v (dnl D.now (dirP p)) p w0 _ hdA.hn.any) (fun am ao ak=>?_);obtain⟨rfl,ab⟩:=ak;replace hf:=hf.nw ab;replace hm0:=hm0.trN ab;refine LR.an ?_;refine ag _ _ ?_;refine CW.ret (hret .ret (.inr rfl) _ _ _ (res1 rfl rfl) ?_);exact⟨_,g8,by rw[mget_dnl,if_pos rfl],hf,aj,ah,hgd8,hm0⟩
theorem rbeg_ct(K:List Nat)(g:Rg)(b:Nat)(D:Dk)(w0:World)(H0:Heap)
 (hf:RDk K g H0 b D) (ho:D.ops≤1099511627776):
 Ct Tryz.prog w0 98 #[ptr b] H0 (fun r H2=>r= .bool D.begin.1∧(RDk K g H2 b D.begin.2)∧Mo (Ms K) H0 H2):=by
 refine Ct.enter (args:=[ptr b]) Tryz.func98 rfl rfl rfl ?_;intro Q0 hret;have hm0:Mo (Ms K) H0 H0:=Mo.refl _ _;have aa:=NxK.refl K H0.size;have ab:=hf.bk;have hlb:=hf.lvB;refine CW.sr (fun aq=>?_);refine LR.an ?_;refine aq _ _ (CW.s2 (fun ar au=>CW.sr (fun av=>?_)));refine LR.m1 ?_;refine LR.n1 ?_;refine LR.v1 (Y.FA hf.vb.pt rfl u'62 rfl s'4) ?_;refine LR.v1 (Y.load1 (hf.vb.pt.drop 5) rfl a'4 rfl) (LR.nil (av _ _ ?_));refine CW.cond rfl (fun c6=>?_) (fun c6=>?_)
 ·
  refine CW.sr (fun aw=>?_);refine LR.an ?_;refine aw _ _ ?_;refine CW.ret (au .ret nofun _ _ (hret .ret (.inr rfl) _ _ _ (res1 rfl rfl) ?_));have hbe:=rbegin_dead (D:=D) c6;exact⟨by rw[hbe],by rw[hbe];exact hf,hm0⟩
 ·
  refine CW.skip (ar _ _ (CW.s2 (fun ap ax=>CW.sr (fun ay=>?_))));refine LR.m1 ?_;refine LR.n1 ?_;refine LR.v1 (Y.FA hf.vb.pt rfl u'62 rfl s'3) ?_;refine LR.v1 (Y.load1 (hf.vb.pt.drop 4) rfl a'3 rfl) ?_;refine LR.v1 (Y.gtr rfl rfl rfl) (LR.nil (ay _ _ ?_));refine CW.condp rfl (fun az=>?_) (fun az=>?_)
  ·
   refine CW.sr (fun aA=>?_);refine LR.m1 ?_;refine LR.n1 ?_;refine LR.v1 (Y.FA hf.vb.pt rfl u'62 rfl s'3) ?_;refine LR.v1 (Y.load1 (hf.vb.pt.drop 4) rfl a'3 rfl) ?_;refine LR.v1 (Y.cast (v2:= .int .i64 ((D.left-1:Nat):Int)) (Y.subi rfl rfl rfl (by omega)) (ivv (by omega))) ?_;refine LR.n1 ?_;refine LR.v1 (Y.FA hf.vb.pt rfl u'62 rfl s'3) ?_;refine LR.s1 (rd_left hf (D.left-1) rfl rfl rfl s'3 (by omega)) fun aB ag=>?_;obtain⟨hf,ad⟩:=ag;replace hm0:=hm0.trL ad (MIL.ofK (aa) (by intro k hk;simp[hk]));have aG:=ad.size;have ab:=hf.bk;refine LR.nil (aA _ _ (CW.sr (fun aC=>?_)));refine LR.m1 ?_;refine LR.n1 ?_;refine LR.v1 (Y.FA hf.vb.pt rfl u'62 rfl s'3) ?_;refine LR.v1 (Y.cast (v2:= .int .i64 ((D.left-1:Nat):Int)) (Y.load1 (hf.vb.pt.drop 4) rfl a'3 rfl) (rfl)) ?_;refine LR.v1 (Y.eql rfl rfl rfl) (LR.nil (aC _ _ ?_));refine CW.condp rfl (fun aD=>?_) (fun aD=>?_)
   ·
    refine CW.sr (fun aE=>?_);refine LR.m1 ?_;refine LR.n1 ?_;refine LR.v1 (Y.FA hf.vb.pt rfl u'62 rfl s'4) ?_;refine LR.s1 (rd_dead hf true rfl rfl rfl s'4) fun aF ah=>?_;obtain⟨hf,ae⟩:=ah;replace hm0:=hm0.trL ae (MIL.ofK (aa) (by intro k hk;simp[hk]));have aH:=ae.size;have ab:=hf.bk;refine LR.nil (aE _ _ (CW.sr (fun ai=>?_)));refine LR.an ?_;refine ai _ _ ?_;refine CW.ret (ax .ret nofun _ _ (hret .ret (.inr rfl) _ _ _ (res1 rfl rfl) ?_));have hbe:=rbegin_stop (D:=D) (by simpa using c6) (by omega);have e9:D.left-1=0:=by omega
    rw[e9]at hf;exact⟨by rw[hbe],by rw[hbe];exact hf,hm0⟩
   ·
    refine CW.skip (ap _ _ (CW.sr (fun aj=>?_)));refine LR.m1 ?_;refine LR.n1 ?_;refine LR.v1 (Y.FA hf.vb.pt rfl u'62 rfl s'3) ?_;refine LR.v1 (Y.cast (v2:= .int .i64 (D.ops:Int)) (Y.load1 (hf.vb.pt.drop 3) rfl a'3 rfl) (rfl)) ?_;refine LR.v1 (Y.cast (v2:= .int .i64 ((D.ops+1:Nat):Int)) (Y.addi rfl rfl rfl (by omega)) (ivv (by omega))) ?_;refine LR.n1 ?_;refine LR.v1 (Y.FA hf.vb.pt rfl u'62 rfl s'3) ?_;refine LR.s1 (rd_ops hf rfl rfl rfl s'3) fun ak af=>?_;obtain⟨hf,ac⟩:=af;replace hm0:=hm0.trL ac (MIL.ofK (aa) (by intro k hk;simp[hk]));have aI:=ac.size;have ab:=hf.bk;refine LR.nil (aj _ _ (CW.sr (fun al=>?_)));refine LR.an ?_;refine al _ _ ?_;refine CW.ret (hret .ret (.inr rfl) _ _ _ (res1 rfl rfl) ?_);have hbe:=rbegin_go (D:=D) (by simpa using c6) (by omega);exact⟨by rw[hbe],by rw[hbe];first|exact hf|(rw[show D.left-1=D.left from by omega];exact hf),hm0⟩
  ·
   refine CW.skip (ap _ _ (CW.sr (fun am=>?_)));refine LR.m1 ?_;refine LR.n1 ?_;refine LR.v1 (Y.FA hf.vb.pt rfl u'62 rfl s'3) ?_;refine LR.v1 (Y.cast (v2:= .int .i64 (D.ops:Int)) (Y.load1 (hf.vb.pt.drop 3) rfl a'3 rfl) (rfl)) ?_;refine LR.v1 (Y.cast (v2:= .int .i64 ((D.ops+1:Nat):Int)) (Y.addi rfl rfl rfl (by omega)) (ivv (by omega))) ?_;refine LR.n1 ?_;refine LR.v1 (Y.FA hf.vb.pt rfl u'62 rfl s'3) ?_;refine LR.s1 (rd_ops hf rfl rfl rfl s'3) fun ak af=>?_;obtain⟨hf,ac⟩:=af;replace hm0:=hm0.trL ac (MIL.ofK (aa) (by intro k hk;simp[hk]));have aJ:=ac.size;have ab:=hf.bk;refine LR.nil (am _ _ (CW.sr (fun ao=>?_)));refine LR.an ?_;refine ao _ _ ?_;refine CW.ret (hret .ret (.inr rfl) _ _ _ (res1 rfl rfl) ?_);have hbe:=rbegin_go (D:=D) (by simpa using c6) (by omega);exact⟨by rw[hbe],by rw[hbe];first|exact hf|(rw[show D.left-1=D.left from by omega];exact hf),hm0⟩
theorem rstop_ct(K:List Nat)(g:Rg)(b:Nat)(D:Dk)(n:Int)(w0:World)(H0:Heap)
 (hf:RDk K g H0 b D) (hn:n≤9223372036854775807):
 Ct Tryz.prog w0 20 #[ptr b,.int .i64 n] H0 (fun r H2=>r= .tuple #[]∧(RDk K g H2 b (D.stop n.toNat))∧Mo (Ms K) H0 H2):=by
 refine Ct.enter (args:=[ptr b,.int .i64 n]) Tryz.func20 rfl rfl rfl ?_;intro Q0 hret;have hm0:Mo (Ms K) H0 H0:=Mo.refl _ _;have aa:=NxK.refl K H0.size;have ac:=hf.bk;refine CW.region ?_;refine LR.m1 ?_;refine LR.m1 ?_;refine LR.v1 (Y.cast (v2:= .int .i64 (n.toNat:Int)) (Y.maxi rfl rfl rfl) (ivv (by omega))) ?_;refine LR.n1 ?_;refine LR.v1 (Y.FA hf.vb.pt rfl u'62 rfl s'3) ?_;refine LR.s1 (rd_left hf n.toNat rfl rfl rfl s'3 (by omega)) fun ae ad=>?_;obtain⟨hf,ab⟩:=ad;replace hm0:=hm0.trL ab (MIL.ofK (aa) (by intro k hk;simp[hk]));refine LR.nil ?_;refine hret .normal (.inl rfl) _ _ _ (res0 rfl) ?_;exact⟨rfl,hf,hm0⟩
theorem rnew_ct(cap most:Nat)(w0:World)(H0:Heap)
 (hc:cap≤9223372036854775807) (hk:most≤9223372036854775807):
 Ct Tryz.prog w0 17 #[.int .i64 (cap:Int),.int .i64 (most:Int)] H0 (fun r H2=>∃K:List Nat,∃g:Rg,∃b:Nat,r= .tuple #[ptr b,.int .i64 0]∧(RDk K g H2 b (Dk.empty cap most))∧(NxK [] H0.size K)∧(g.dm=[])∧Nw H0 H2):=by
 refine Ct.enter (args:=[.int .i64 (cap:Int),.int .i64 (most:Int)]) Tryz.func17 rfl rfl rfl ?_;intro Q0 hret;have hm0:Nw H0 H0:=Mo.refl _ _;refine CW.sr (fun ab=>?_);refine LR.a1 ?_;refine LR.an ?_;refine ab _ _ (CW.s1 (fun ac=>CW.sr (fun ad=>?_)));refine LR.m1 ?_;refine LR.v1 ((Y.lss rfl rfl rfl).isF (by omega)) ?_;refine LR.m1 ?_;refine LR.wm ?_;refine LR.w1 ((Y.lss rfl rfl rfl).isF (by omega)) ?_;refine LR.pf ?_;refine LR.nil (ad _ _ ?_);refine CW.cond_f rfl ?_;refine CW.skip (ac _ _ (CW.sr (fun ae=>?_)));refine LR.m1 ?_;refine LR.m1 ?_;refine LR.v1 (Y.build (v:= .agg #[.int .i64 cap,.int .i64 most,.slice none 0 0,.int .i64 0,.int .i64 0,.bool false]) rfl rfl (by intro w;kernel_rfl)) ?_;refine LR.z1 (Z.boxv rfl rfl) fun al af ag=>?_;obtain⟨rfl,hvb,aa,ah,ai⟩:=ag;have aj:Nx 0 H0.size (H0.size+1):=Nx.new hm0.size;replace hm0:=hm0.tr aa;replace hvb:Var 62 af H0.size ([.int .i64 cap,.int .i64 most,.slice none 0 0,.int .i64 0,.int .i64 0,.bool false]):=hvb;have ak:=NxK.cons (aj) (NxK.refl [] _);have hf:=RDk.new cap most hvb hc hk;refine LR.a1 ?_;refine LR.an ?_;refine ae _ _ ?_;refine CW.ret (hret .ret (.inr rfl) _ _ _ (res2 rfl rfl rfl) ?_);exact⟨_,_,_,rfl,hf,ak,rfl,hm0⟩
end DskC

namespace DskD
open E Go.RowKit SimA SimB SimC SimD SimE SimF SimG SimH SimI SimJ SimK SimL SimM SimN SimP SimQ SimR SimX DskA DskB DskC
set_option maxRecDepth 100000 in
theorem inf34:Inf Tryz.prog 34 5 1 1:=⟨Tryz.underlying34,_,_,rfl,rfl,rfl,rfl,rfl⟩
theorem rread_ct(K:List Nat)(g:Rg)(b:Nat)(D:Dk)(p:Pth)(w0:World)(H0:Heap)
 (hf:RDk K g H0 b D) (hA:Asc D.now) (hB_:Asc D.stays) (hdl:g.dm.length≤1099511627776) (hl:p.length≤4294967280) (hB:∀i,(fget D.fs i).now.length≤1099511627776):
 Ct Tryz.prog w0 24 #[ptr b,Str p] H0 (fun r H2=>∃K2:List Nat,∃g2:Rg,∃s:SV,∃k:Nat,r= .tuple #[s.v,.int .i64 (D.readE p:Int)]∧(RDk K2 g2 H2 b (D))∧(NxK K H0.size K2)∧(Ow k 5 H2 fB 1 s.v (D.readL p))∧(Nx 0 H0.size k)∧(DL k K2)∧(g2.fb=g.fb)∧(Gr g g2 (dirP p))∧Mo (Ms K) H0 H2):=by
 refine Ct.enter (args:=[ptr b,Str p]) Tryz.func24 rfl rfl rfl ?_;intro Q0 hret;have hm0:Mo (Ms K) H0 H0:=Mo.refl _ _;have aa:=NxK.refl K H0.size;have ad:=hf.bk;refine CW.sr (fun aE=>?_);refine LR.a1 ?_;refine LR.an ?_;refine aE _ _ (CW.seq (fun K2 aF aw=>CW.block (fun _ aG _ ax=>CW.sr (fun aH=>?_))));refine LR.m1 ?_;refine LR.n1 ?_;refine LR.v1 (Y.FA hf.vb.pt rfl u'62 rfl s'4) ?_;refine LR.v1 (Y.load1 (hf.vb.pt.drop 5) rfl a'4 rfl) ?_;refine LR.an ?_;refine aH _ _ ?_;refine CW.cond rfl (fun c7=>?_) (fun c7=>?_)
 ·
  refine CW.sr (fun aI=>?_);refine LR.a1 ?_;refine LR.an ?_;refine aI _ _ ?_;refine CW.ret (ax .ret nofun (by simp) _ _ (aw .ret nofun _ _ (hret .ret (.inr rfl) _ _ _ (res2 rfl rfl rfl) ?_)));have hE:D.readE p=11:=by unfold Dk.readE;rw[if_pos c7]
  have hL:D.readL p=[]:=by unfold Dk.readL;rw[if_neg (by omega)]
  exact⟨K,g,⟨none,0,0⟩,0,by rw[hE];rfl,hf,aa,by rw[hL];exact Ow.nil fB_len fB_one,Nx.refl _ _,DL.zK,rfl,Gr.refl g _,hm0⟩
 ·
  refine CW.sr (fun aJ=>?_);refine LR.m1 ?_;refine LR.call rfl c'53 rfl (Wd.u rfl) rfl rfl (rname_ct p w0 _ hl) (fun aW aX aK=>?_);obtain⟨rfl,ae⟩:=aK;replace hf:=hf.nw ae;replace hm0:=hm0.trN ae;have aY:=ae.size;refine LR.v1 (Y.not rfl rfl) ?_;refine LR.an ?_;refine aJ _ _ ?_;refine CW.cond rfl (fun ak=>?_) (fun ak=>?_)
  ·
   refine CW.sr (fun aL=>?_);refine LR.a1 ?_;refine LR.an ?_;refine aL _ _ ?_;refine CW.ret (ax .ret nofun (by simp) _ _ (aw .ret nofun _ _ (hret .ret (.inr rfl) _ _ _ (res2 rfl rfl rfl) ?_)));have hE:D.readE p=7:=by unfold Dk.readE Dk.look;rw[if_neg (by simpa using c7),if_neg (by simpa using ak)]
   have hL:D.readL p=[]:=by unfold Dk.readL;rw[if_neg (by omega)]
   exact⟨K,g,⟨none,0,0⟩,0,by rw[hE];rfl,hf,aa,by rw[hL];exact Ow.nil fB_len fB_one,Nx.refl _ _,DL.zK,rfl,Gr.refl g _,hm0⟩
  ·
   refine CW.skip (aG _ _ (aF _ _ (CW.sr (fun aM=>?_))));refine LR.m1 ?_;refine LR.m1 ?_;refine LR.call rfl c'65 rfl (Wd.u rfl) rfl rfl (rfile_ct K g b D p w0 _ hf hA hB_ hdl hl) (fun aZ al aN=>?_);obtain⟨ao,ap,rfl,hf,ag,ah,hgd18,ai⟩:=aN;have ay:NxK K H0.size ao:=NxK.tr (aa) ag hm0.size;replace hm0:=hm0.trL ai (MIL.ofK (aa) (by intro k hk;simp[hk]));have a0:=ai.size;have ad:=hf.bk;refine LR.an ?_;refine aM _ _ (CW.s2 (fun aO aP=>CW.sr (fun aq=>?_)));refine LR.m1 ?_;refine LR.v1 (Y.peq rfl (by kernel_rfl) (by kernel_rfl) rfl rfl) (LR.nil (aq _ _ ?_));refine CW.cond rfl (fun aj=>?_) (fun aj=>?_)
   ·
    have hno:mget D.now p=none:=by
     cases hq:mget D.now p with
     |none=>rfl
     |some i=>rw[hq]at aj;cases aj
    refine CW.sr (fun ar=>?_);refine LR.a1 ?_;refine LR.an ?_;refine ar _ _ ?_;refine CW.ret (aP .ret nofun _ _ (hret .ret (.inr rfl) _ _ _ (res2 rfl rfl rfl) ?_));have hE:D.readE p=2:=by unfold Dk.readE Dk.look;rw[if_neg (by simpa using c7),if_pos (by simpa using ak),hno];rfl
    have hL:D.readL p=[]:=by unfold Dk.readL;rw[if_neg (by omega)]
    exact⟨_,ap,⟨none,0,0⟩,0,by rw[hE];rfl,hf,ay,by rw[hL];exact Ow.nil fB_len fB_one,Nx.refl _ _,DL.zK,ah,hgd18,hm0⟩
   ·
    obtain⟨i,hi⟩:∃i,mget D.now p=some i:=by
     cases hq:mget D.now p with
     |some i=>exact⟨i,rfl⟩
     |none=>rw[hq]at aj;cases aj
    have hbi:=hB i;refine CW.skip (aO _ _ (CW.sr (fun au=>?_)));refine LR.z1 (Z.litw _ (([]:List UInt8)) rfl inf34 rfl rfl rfl (by decide) (by decide) fB_len fB_one (rfl)) fun a2 az aQ=>?_;obtain⟨ow,af,aR,av⟩:=aQ;have aA:az.size=al.size+1:=by rw[av];simp
    have aB:DL (al.size+1) ao:=DL.newK hf.bk;have aC:Nx 0 H0.size (al.size+1):=Nx.new hm0.size;replace hf:=hf.nw af;replace hm0:=hm0.trN af;have a3:=af.size;obtain⟨nv,sv,wv,kw,lw,hfi⟩:=hf.fil i (hf.ids.1 p i hi);refine LR.v1 (Y.cast (v2:=fvl ap.fb i) (Y.move rfl rfl) (by rw[hi];rfl)) ?_;refine LR.n1 ?_;refine LR.v1 (Y.FA hfi.vf.pt rfl u'132 rfl s'34) ?_;refine LR.v1 (Y.load1 (hfi.vf.pt.drop 0) rfl a'34 rfl) ?_;refine LR.z1 (Z.apnd ow hfi.hn rfl inf34 rfl rfl (by simp;omega) (by simp;omega)) fun aD a4 aS=>?_;obtain⟨am,ow,ab,ac⟩:=aS;replace ab:Nx (al.size+1) az.size am:=ab;replace ac:=ac.md;have aT:DL am ao:=DL.app2 (aB) hf.bk ab;have aU:Nx 0 H0.size am:=Nx.tr (aC) ab hm0.size;replace hf:=hf.upL ac (DKL.cons aB DKL.nil);replace hm0:=hm0.trL ac (MIL.o (MI.q aC));obtain⟨aV,rfl⟩:∃s:SV,aD=s.v:=⟨toSV aD,ow.sv.symm⟩;rw[List.nil_append]at ow;refine LR.a1 ?_;refine LR.an ?_;refine au _ _ ?_;refine CW.ret (hret .ret (.inr rfl) _ _ _ (res2 rfl rfl rfl) ?_);have hE:D.readE p=0:=by unfold Dk.readE Dk.look;rw[if_neg (by simpa using c7),if_pos (by simpa using ak),hi];rfl
    have hL:D.readL p=(fget D.fs i).now:=by unfold Dk.readL Dk.wasL;rw[if_pos hE,hi]
    exact⟨_,ap,aV,am,by rw[hE];rfl,hf,ay,by rw[hL];exact ow,aU,aT,ah,hgd18,hm0⟩
theorem rused_all{K:List Nat}{g:Rg}{H:Heap}{b:Nat}{D:Dk}(hf:RDk K g H b D)(hA:Asc D.now):((g.dm.map (·.1)).map (dirS D)).sum=D.used:=
 dirS_all D.fs _ hf.asc.nodup D.now (fun x hx=>by
  have h1:=mem_nms hA hx;rw[←isSome_iff_key]
  cases hq:mget g.dm (dirP x.1)with
  |some _=>rfl
  |none=>rw[((hf.abs _ hq).1 x.1 rfl).1]at h1;cases h1)
def dmS(D:Dk)(l:Nms):Nat:=((l.map (·.1)).map (dirS D)).sum
theorem dmS_at{D:Dk}{l:Nms}{i:Nat}(h:i<l.length):dmS D (l.drop i)=dirS D l[i].1+dmS D (l.drop (i+1)):=by
 unfold dmS;rw[List.drop_eq_getElem_cons h,List.map_cons,List.map_cons,List.sum_cons]
theorem usedL_at{fs:List Fdt}{l:Nms}{i:Nat}(h:i<l.length):usedL fs (l.drop i)=(fget fs l[i].2).now.length+usedL fs (l.drop (i+1)):=by
 unfold usedL;rw[List.drop_eq_getElem_cons h,List.map_cons,List.sum_cons]
theorem usedL_over{fs:List Fdt}{l:Nms}{i:Nat}(h:¬i<l.length):usedL fs (l.drop i)=0:=by
 unfold usedL;rw[List.drop_of_length_le (by omega)];rfl
theorem dmS_over{D:Dk}{l:Nms}{i:Nat}(h:¬i<l.length):dmS D (l.drop i)=0:=by
 unfold dmS;rw[List.drop_of_length_le (by omega)];rfl
theorem rused_ct(K:List Nat)(g:Rg)(b:Nat)(D:Dk)(w0:World)(H0:Heap)
 (hf:RDk K g H0 b D) (hA:Asc D.now) (hU:D.used≤4611686018427387904):
 Ct Tryz.prog w0 120 #[ptr b] H0 (fun r H2=>r= .int .i64 (D.used:Int)∧Nw H0 H2):=by
 refine Ct.enter (args:=[ptr b]) Tryz.func120 rfl rfl rfl ?_;intro Q0 hret;have hm0:Nw H0 H0:=Mo.refl _ _;have ae:=hf.bk;have hua:=rused_all hf hA;have hdml:=hf.hd.len;refine CW.sr (fun av=>?_);refine LR.an ?_;refine av _ _ (CW.sr (fun aw=>?_));refine LR.an ?_;refine aw _ _ (CW.s1 (fun ax=>CW.sr (fun ay=>?_)));refine LR.an ?_;refine ay _ _ (CW.block (fun _ _ az _=>?_))
 refine CW.loop (fun(s_:(Nat)×(Nat))=>match s_ with|(i,n)=>[(0,ptr b),(3,.int .i64 (n:Int)),(4,.int .i64 (i:Int))])
  (fun(i,n) (H:Heap)=>(i≤g.dm.length)∧(n+dmS D (g.dm.drop i)=D.used)∧Nw H0 H)
  (fun(i,n)=>g.dm.length-i) (0,0) ⟨rfl,rfl,rfl,trivial⟩ ?_ ?_
 ·
  exact⟨(by omega),by rw[List.drop_zero,Nat.zero_add];exact hua,Mo.refl _ _⟩
 rintro⟨i,n⟩ aA aB K6 aC aD;obtain⟨hi,hsum,aa⟩:=aB;replace hf:=hf.nw aa;replace hm0:=hm0.tr aa;have aO:=aa.size;refine CW.s2 (fun aE aF=>CW.sr (fun aG=>?_));refine LR.m1 ?_;refine LR.m1 ?_;refine LR.n1 ?_;refine LR.v1 (Y.FA hf.vb.pt rfl u'62 rfl s'60) ?_;refine LR.v1 (Y.load1 (hf.vb.pt.drop 2) rfl a'60 rfl) ?_;refine LR.v1 (Y.len hf.hd rfl u'60 rfl) ?_;refine LR.v1 (Y.lss rfl rfl rfl) (LR.nil (aG _ _ ?_));refine CW.condp rfl (fun aH=>?_) (fun aH=>?_)
 ·
  have hil:i<g.dm.length:=by omega
  obtain⟨y,hey⟩:∃q,q=g.dm[i]:=⟨_,rfl⟩;have hyd:mget g.dm y.1=some y.2:=by rw[hey];exact mem_nms hf.asc (List.getElem_mem hil)
  have hds:=dmS_at (D:=D) hil;rw[←hey]at hds;refine CW.skip (aE _ _ (CW.s1 (fun aI=>CW.block (fun _ af _ _=>CW.sr (fun ag=>?_)))));refine LR.an ?_;refine ag _ _ (CW.block (fun _ _ ah _=>?_))
  refine CW.loop (fun(s_:(Nat)×(Nat))=>match s_ with|(j,m)=>[(0,ptr b),(3,.int .i64 (m:Int)),(4,.int .i64 (i:Int)),(5,.int .i64 (j:Int))])
   (fun(j,m) (H:Heap)=>(j≤(dnl D.now y.1).length)∧(m+usedL D.fs ((dnl D.now y.1).drop j)+dmS D (g.dm.drop (i+1))=D.used)∧Nw aA H)
   (fun(j,m)=>(dnl D.now y.1).length-j) (0,n) ⟨rfl,rfl,rfl,rfl,trivial⟩ ?_ ?_
  ·
   exact⟨(by omega),by rw[List.drop_zero];have h9:dirS D y.1=usedL D.fs (dnl D.now y.1):=rfl;omega,Mo.refl _ _⟩
  rintro⟨j,m⟩ aP aJ aQ ai aj;obtain⟨hj,hsum2,ab⟩:=aJ;replace hf:=hf.nw ab;replace aa:=aa.tr ab;have aR:=ab.size;refine CW.s2 (fun ak al=>CW.sr (fun am=>?_));refine LR.m1 ?_;refine LR.m1 ?_;refine LR.n1 ?_;refine LR.v1 (Y.FA hf.vb.pt rfl u'62 rfl s'60) ?_;refine LR.v1 (Y.load1 (hf.vb.pt.drop 2) rfl a'60 rfl) ?_;refine LR.m1 ?_;obtain⟨nvy,svy,bvy,ky,bly,hdy⟩:=hf.dirs _ _ hyd;have hdyl:=hdy.hn.len;refine LR.e1 (g:=fun ad=> .pointer (some ad)) (Y.indexAddr hf.hd (i) rfl u'60 s'120 rfl rfl (by first|rfl|omega) (by first|omega|(simp;omega)|(simp;done))) fun aK ao=>?_;refine LR.v1 (Y.cast (v2:=ptr y.2) (Y.load1 ao rfl a'120 rfl) (by rw[hey])) ?_;refine LR.n1 ?_;refine LR.v1 (Y.FA hdy.vd.pt rfl u'124 rfl s'121) ?_;refine LR.v1 (Y.load1 (hdy.vd.pt.drop 1) rfl a'121 rfl) ?_;refine LR.v1 (Y.len hdy.hn rfl u'121 rfl) ?_;refine LR.v1 (Y.lss rfl rfl rfl) (LR.nil (am _ _ ?_));refine CW.condp rfl (fun aL=>?_) (fun aL=>?_)
  ·
   have hjl:j<(dnl D.now y.1).length:=by omega
   obtain⟨z,hez⟩:∃q,q=(dnl D.now y.1)[j]:=⟨_,rfl⟩;have hzm:mget D.now z.1=some z.2:=mem_nms hA (List.mem_filter.1 (by rw[hez];exact List.getElem_mem hjl:z∈(dnl D.now y.1))).1;obtain⟨nvf,svf,wvf,kf,lf,hfi⟩:=hf.fil _ (hf.ids.1 _ _ hzm);have hdz:=usedL_at (fs:=D.fs) hjl;rw[←hez]at hdz;refine CW.skip (ak _ _ (CW.s1 (fun ap=>CW.block (fun _ aq _ _=>CW.region ?_))));refine LR.m1 ?_;refine LR.m1 ?_;refine LR.n1 ?_;refine LR.v1 (Y.FA hf.vb.pt rfl u'62 rfl s'60) ?_;refine LR.v1 (Y.load1 (hf.vb.pt.drop 2) rfl a'60 rfl) ?_;refine LR.m1 ?_;refine LR.e1 (g:=fun ad=> .pointer (some ad)) (Y.indexAddr hf.hd (i) rfl u'60 s'120 rfl rfl (by first|rfl|omega) (by first|omega|(simp;omega)|(simp;done))) fun aM ar=>?_;refine LR.v1 (Y.cast (v2:=ptr y.2) (Y.load1 ar rfl a'120 rfl) (by rw[hey])) ?_;refine LR.n1 ?_;refine LR.v1 (Y.FA hdy.vd.pt rfl u'124 rfl s'121) ?_;refine LR.v1 (Y.load1 (hdy.vd.pt.drop 1) rfl a'121 rfl) ?_;refine LR.m1 ?_;refine LR.e1 (g:=fun ad=> .pointer (some ad)) (Y.indexAddr hdy.hn (j) rfl u'121 s'129 rfl rfl (by first|rfl|omega) (by first|omega|(simp;omega)|(simp;done))) fun aN ac=>?_;refine LR.v1 (Y.FA ac rfl u'129 rfl s'127) ?_;refine LR.v1 (Y.cast (v2:=fvl g.fb z.2) (Y.load1 (ac.drop 1) rfl a'127 rfl) (by rw[hez])) ?_;refine LR.n1 ?_;refine LR.v1 (Y.FA hfi.vf.pt rfl u'132 rfl s'34) ?_;refine LR.v1 (Y.load1 (hfi.vf.pt.drop 0) rfl a'34 rfl) ?_;refine LR.v1 (Y.len hfi.hn rfl u'34 rfl) ?_;refine LR.v1 (Y.cast (v2:= .int .i64 ((m+(fget D.fs z.2).now.length:Nat):Int)) (Y.addi rfl rfl rfl (by omega)) (ivv (by omega))) ?_;refine LR.an ?_;refine aq _ _ (ap _ _ (CW.region ?_));refine LR.m1 ?_;refine LR.v1 (Y.addi rfl rfl rfl (by omega)) ?_;refine LR.an ?_;refine QN.sub (ai (j+1,m+(fget D.fs z.2).now.length) _ ?_ ?_) ⟨rfl,(iv (by omega)),(iv (by omega)),(iv (by omega)),trivial⟩
   ·exact⟨(by omega),by omega,ab⟩
   ·first|omega|(simp only;omega)|(simp;omega)
  ·
   refine CW.exit (al (.exit 2) nofun _ _ (aj (.exit 2) nofun _ _ (ah _ _ ?_)));refine af _ _ (aI _ _ (CW.region ?_));refine LR.m1 ?_;refine LR.v1 (Y.addi rfl rfl rfl (by omega)) ?_;refine LR.an ?_;refine QN.sub (aC (i+1,m) _ ?_ ?_) ⟨rfl,(iv (by omega)),(iv (by omega)),trivial⟩
   ·exact⟨(by omega),by have h9:=usedL_over (fs:=D.fs) (l:=dnl D.now y.1) (i:=j) (by omega);omega,aa⟩
   ·first|omega|(simp only;omega)|(simp;omega)
 ·
  have hd0:=dmS_over (D:=D) (l:=g.dm) (i:=i) (by omega);refine CW.exit (aF (.exit 0) nofun _ _ (aD (.exit 0) nofun _ _ (az _ _ ?_)));refine ax _ _ (CW.sr (fun au=>?_));refine LR.m1 ?_;refine LR.an ?_;refine au _ _ ?_;refine CW.ret (hret .ret (.inr rfl) _ _ _ (res1 rfl rfl) ?_);exact⟨by rw[show n=D.used by omega],hm0⟩
end DskD

namespace DskE
open E Go.RowKit SimA SimB SimC SimD SimE SimF SimG SimH SimI SimJ SimK SimL SimM SimN SimP SimQ SimR SimX DskA DskB DskC DskD
theorem lk0{D:Dk}{p:Pth}{i:Nat}(h:nameB p=true)(h2:mget D.now p=some i):D.look p=0:=by unfold Dk.look;rw[if_pos h,h2];rfl
theorem lk2{D:Dk}{p:Pth}(h:nameB p=true)(h2:mget D.now p=none):D.look p=2:=by unfold Dk.look;rw[if_pos h,h2];rfl
theorem rfindD_ct(fb:List Nat)(v:Value)(l:Nms)(p:Pth)(w0:World)(H0:Heap)(hl:RdT H0 (fL fb) 2 v (dnl l (dirP p))):Ct Tryz.prog w0 99 #[v,Str p] H0 (fun r H2=>r= .pointer (fpt fb (mget l p))∧Nw H0 H2):=by
 have h:=rfind_ct fb v (dnl l (dirP p)) p w0 H0 hl;rwa[mget_dnl,if_pos rfl]at h
theorem lk7{D:Dk}{p:Pth}(h:nameB p=false):D.look p=7:=by unfold Dk.look;rw[if_neg (by simp[h])]
set_option maxHeartbeats 2000000 in
theorem rsync_ct(K:List Nat)(g:Rg)(b:Nat)(D:Dk)(p:Pth)(w0:World)(H0:Heap)
 (hf:RDk K g H0 b D) (hdl:g.dm.length≤549755813888) (hl:p.length≤4294967280) (hB:Bd 274877906944 D):
 Ct Tryz.prog w0 62 #[ptr b,Str p] H0 (fun r H2=>∃K2:List Nat,∃g2:Rg,r= .int .i64 ((D.sync p).1:Int)∧(RDk K2 g2 H2 b ((D.sync p).2))∧(NxK K H0.size K2)∧(g2.dm.length≤g.dm.length+2)∧Mo (Ms K) H0 H2):=by
 refine Ct.enter (args:=[ptr b,Str p]) Tryz.func62 rfl rfl rfl ?_;intro Q0 hret;have hm0:Mo (Ms K) H0 H0:=Mo.refl _ _;have aa:=NxK.refl K H0.size;have ad:=hf.bk;have hop0:=hB.op;obtain⟨D1,hD1⟩:∃D1,D1=D.begin.2:=⟨_,rfl⟩;have hB1:=hB.begin;rw[←hD1]at hB1;refine CW.sr (fun aB=>?_);refine LR.an ?_;refine aB _ _ (CW.seq (fun K2 aC aD=>CW.sr (fun aE=>?_)));refine LR.m1 ?_;refine LR.call rfl c'98 rfl (Wd.u rfl) rfl rfl (rbeg_ct K g b D w0 _ hf (by omega)) ?_;rintro v7 H7 ⟨rfl,hf,ay⟩;replace hm0:=hm0.trL ay (MIL.ofK (aa) (by intro k hk;simp[hk]));have aT:=ay.size;rw[←hD1]at hf;refine LR.v1 (Y.not rfl rfl) (LR.nil (aE _ _ ?_));refine CW.cond rfl (fun c8=>?_) (fun c8=>?_)
 ·
  refine CW.sr (fun aF=>?_);refine LR.an ?_;refine aF _ _ ?_;refine CW.ret (aD .ret nofun _ _ (hret .ret (.inr rfl) _ _ _ (res1 rfl rfl) ?_));have hdd:=sync_dead (p:=p) (show D.begin.1=false by simpa using c8);exact⟨K,g,by rw[hdd];rfl,by rw[hdd];rw[hD1]at hf;exact hf,aa,Nat.le_add_right _ _,hm0⟩
 ·
  have hgo:D.begin.1=true:=by simpa using c8
  have hlay:=sync_go (p:=p) hgo;rw[←hD1]at hlay;refine CW.skip (aC _ _ (CW.s2 (fun aG aH=>CW.sr (fun aI=>?_))));refine LR.m1 ?_;refine LR.call rfl c'53 rfl (Wd.u rfl) rfl rfl (rname_ct p w0 _ hl) (fun aU aV aJ=>?_);obtain⟨rfl,ae⟩:=aJ;replace hf:=hf.nw ae;replace hm0:=hm0.trN ae;have aW:=ae.size;refine LR.v1 (Y.not rfl rfl) (LR.nil (aI _ _ ?_));refine CW.cond rfl (fun ai=>?_) (fun ai=>?_)
  ·
   refine CW.sr (fun aK=>?_);refine LR.an ?_;refine aK _ _ ?_;refine CW.ret (aH .ret nofun _ _ (hret .ret (.inr rfl) _ _ _ (res1 rfl rfl) ?_));have hlk:=lk7 (D:=D1) (p:=p) (by simpa using ai);exact⟨K,g,by rw[hlay,hlk];rfl,by rw[hlay];rw[if_neg (by omega)];exact hf,aa,by omega,hm0⟩
  ·
   refine CW.skip (aG _ _ (CW.sr (fun aL=>?_)));refine LR.m1 ?_;refine LR.m1 ?_;refine LR.call rfl c'65 rfl (Wd.u rfl) rfl rfl (rfile_ct K g b D1 p w0 _ hf hB1.an hB1.ast (by omega) hl) (fun aX al aM=>?_);obtain⟨am,aj,rfl,hf,af,aN,hgd14,ag⟩:=aM;have ao:NxK K H0.size am:=NxK.tr (aa) af hm0.size;replace hm0:=hm0.trL ag (MIL.ofK (aa) (by intro k hk;simp[hk]));have aY:=ag.size;have ad:=hf.bk;have hgl14:=hgd14.2;refine LR.an ?_;refine aL _ _ (CW.s2 (fun aO aP=>CW.sr (fun ap=>?_)));refine LR.m1 ?_;refine LR.v1 (Y.peq rfl (by kernel_rfl) (by kernel_rfl) rfl rfl) (LR.nil (ap _ _ ?_));refine CW.cond rfl (fun ah=>?_) (fun ah=>?_)
   ·
    have hno:mget D1.now p=none:=by
     cases hq:mget D1.now p with
     |none=>rfl
     |some i=>rw[hq]at ah;cases ah
    refine CW.sr (fun aq=>?_);refine LR.an ?_;refine aq _ _ ?_;refine CW.ret (aP .ret nofun _ _ (hret .ret (.inr rfl) _ _ _ (res1 rfl rfl) ?_));have hlk:=lk2 (by simpa using ai) hno;exact⟨_,aj,by rw[hlay,hlk];rfl,by rw[hlay];rw[if_neg (by omega)];exact hf,ao,by omega,hm0⟩
   ·
    obtain⟨i,hnow⟩:∃i,mget D1.now p=some i:=by
     cases hq:mget D1.now p with
     |some i=>exact⟨i,rfl⟩
     |none=>rw[hq]at ah;cases ah
    have hil:=hf.ids.1 p i hnow;obtain⟨bi,hbi,hbv⟩:∃bi,aj.fb.getD i 0=bi∧ .pointer (fpt aj.fb (mget D1.now p))=ptr bi:=⟨_,rfl,by rw[hnow];rfl⟩;refine CW.skip (aO _ _ (CW.s1 (fun ar=>?_)));obtain⟨nvB,svB,wvB,kwB,lwB,hfiB⟩:=hf.fil i hil;have hop:Mo (Ms [(bi+1)]) al al:=Mo.refl _ _;have km3:KM am (bi+1):=(hf.kmf hfiB hbi);have vf2:=hfiB.atb hbi;have ak:=vf2.lt;have az:MI K H0.size (bi+1):=MIL.at (MIL.ofK (ao) (by intro k hk;simp[hk])) km3;have aA:=Nx.refl (bi+1) al.size;refine CW.region ?_;refine LR.v1 (Y.cast (v2:=ptr bi) (Y.move rfl rfl) (hbv)) ?_;refine LR.v1 (Y.cast (v2:=ptr bi) (Y.move rfl rfl) (hbv)) ?_;refine LR.n1 ?_;refine LR.v1 (Y.FA vf2.pt rfl u'132 rfl s'34) ?_;refine LR.v1 (Y.load1 vf2.pt rfl a'34 rfl) ?_;refine LR.n1 ?_;refine LR.v1 (Y.FA vf2.pt rfl u'132 rfl s'34) ?_;refine LR.s1 (S.var1 vf2 1 ([nvB.v,nvB.v,wvB.v]) rfl rfl rfl (rfl) s'34 (by simp) (rfl)) fun aQ au=>?_;obtain⟨vf2,ab⟩:=au;replace ab:=ab.md1;replace hm0:=hm0.trL ab (MIL.cons (az) MIL.nil);replace hop:=hop.trL ab (MIL.o (MI.r aA));have aZ:=ab.size;refine LR.nil (ar _ _ (CW.sr (fun av=>?_)));refine LR.v1 (Y.cast (v2:=ptr bi) (Y.move rfl rfl) (hbv)) ?_;refine LR.n1 ?_;refine LR.v1 (Y.FA vf2.pt rfl u'132 rfl s'130) ?_;refine LR.s1 (S.var1 vf2 2 ([nvB.v,nvB.v,.slice none 0 0]) rfl rfl rfl (rfl) s'130 (by simp) (rfl)) fun aR aw=>?_;obtain⟨vf2,ac⟩:=aw;replace ac:=ac.md1;replace hm0:=hm0.trL ac (MIL.cons (az) MIL.nil);replace hop:=hop.trL ac (MIL.o (MI.r aA));have a0:=ac.size;refine LR.nil ?_;have aS:NxK K H0.size am:=ao;replace hf:=hf.fsync hil hfiB hbi hop vf2;have ad:=hf.bk;refine av _ _ (CW.sr (fun ax=>?_));refine LR.an ?_;refine ax _ _ ?_;refine CW.ret (hret .ret (.inr rfl) _ _ _ (res1 rfl rfl) ?_);have hlk:=lk0 (by simpa using ai) hnow;exact⟨_,aj,by rw[hlay,hlk];rfl,by rw[hlay];simp only[hlk,if_true,hnow,Option.getD_some];exact hf,aS,by omega,hm0⟩
set_option maxHeartbeats 2000000 in
theorem rsyncDir_ct(K:List Nat)(g:Rg)(b:Nat)(D:Dk)(p:Pth)(w0:World)(H0:Heap)
 (hf:RDk K g H0 b D) (hdl:g.dm.length≤549755813888) (hl:p.length≤4294967280) (hB:Bd 274877906944 D):
 Ct Tryz.prog w0 91 #[ptr b,Str p] H0 (fun r H2=>∃K2:List Nat,∃g2:Rg,r= .int .i64 ((D.syncDir p).1:Int)∧(RDk K2 g2 H2 b ((D.syncDir p).2))∧(NxK K H0.size K2)∧(g2.dm.length≤g.dm.length+2)∧Mo (Ms K) H0 H2):=by
 refine Ct.enter (args:=[ptr b,Str p]) Tryz.func91 rfl rfl rfl ?_;intro Q0 hret;have hm0:Mo (Ms K) H0 H0:=Mo.refl _ _;have aa:=NxK.refl K H0.size;have ae:=hf.bk;have hop0:=hB.op;obtain⟨D1,hD1⟩:∃D1,D1=D.begin.2:=⟨_,rfl⟩;have hB1:=hB.begin;rw[←hD1]at hB1;refine CW.sr (fun aD=>?_);refine LR.an ?_;refine aD _ _ (CW.seq (fun K2 aE aF=>CW.sr (fun aG=>?_)));refine LR.m1 ?_;refine LR.call rfl c'98 rfl (Wd.u rfl) rfl rfl (rbeg_ct K g b D w0 _ hf (by omega)) ?_;rintro v7 H7 ⟨rfl,hf,ax⟩;replace hm0:=hm0.trL ax (MIL.ofK (aa) (by intro k hk;simp[hk]));have aT:=ax.size;rw[←hD1]at hf;refine LR.v1 (Y.not rfl rfl) (LR.nil (aG _ _ ?_));refine CW.cond rfl (fun c8=>?_) (fun c8=>?_)
 ·
  refine CW.sr (fun aH=>?_);refine LR.an ?_;refine aH _ _ ?_;refine CW.ret (aF .ret nofun _ _ (hret .ret (.inr rfl) _ _ _ (res1 rfl rfl) ?_));have hdd:=sd_dead (p:=p) (show D.begin.1=false by simpa using c8);exact⟨K,g,by rw[hdd];rfl,by rw[hdd];rw[hD1]at hf;exact hf,aa,Nat.le_add_right _ _,hm0⟩
 ·
  have hgo:D.begin.1=true:=by simpa using c8
  have hlay:=sd_go (p:=p) hgo;rw[←hD1]at hlay;refine CW.skip (aE _ _ ?_)
  refine CW.cut (fun(_:Unit)=>[(0,ptr b),(1,Str p)])
   (fun(_:Unit) (H:Heap)=>(dirE p=0)∧Nw H7 H) (fun _ ay aI=>?_) ?_
  ·
   have ag:Nw H7 H7:=Mo.refl _ _;refine CW.sr (fun az=>?_);refine LR.m1 ?_;refine LR.v1 (Y.sneq rfl rfl rfl) ?_;refine LR.m1 ?_;refine LR.splitp (d:=11) rfl (fun al=>?_) (fun al=>?_)
   ·
    refine LR.wm ?_;refine LR.call rfl c'53 rfl (Wd.g rfl rfl rfl) rfl rfl (rname_ct p w0 _ hl) (fun aU aV aJ=>?_);obtain⟨rfl,ah⟩:=aJ;replace hf:=hf.nw ah;replace hm0:=hm0.trN ah;replace ag:=ag.tr ah;have aW:=ah.size;refine LR.w1 (Y.not rfl rfl) ?_;refine LR.pt ?_;refine LR.nil (az _ _ ?_);refine CW.cond rfl (fun ai=>?_) (fun ai=>?_)
    ·
     refine CW.sr (fun aK=>?_);refine LR.an ?_;refine aK _ _ ?_;refine CW.ret (aI .ret nofun _ _ (hret .ret (.inr rfl) _ _ _ (res1 rfl rfl) ?_));have hE:dirE p=7:=by unfold dirE;rw[if_pos ⟨al,by simpa using ai⟩]
     exact⟨K,g,by rw[hlay,hE];rfl,by rw[hlay,hE];exact hf,aa,by omega,hm0⟩
    ·
     refine CW.skip ?_;refine QN.sub (ay () _ ?_) ⟨rfl,rfl,trivial⟩;exact⟨dirE_cases (fun h=>by first|exact absurd h.1 al|(rw[h.2]at ai;cases ai)),ag⟩
   ·
    refine LR.g1 ?_;refine LR.g1 ?_;refine LR.g1 ?_;refine LR.pf ?_;refine LR.nil (az _ _ ?_);refine CW.cond_f rfl ?_;refine CW.skip ?_;refine QN.sub (ay () _ ?_) ⟨rfl,rfl,trivial⟩;exact⟨dirE_cases (fun h=>by first|exact absurd h.1 al|(rw[h.2]at ai;cases ai)),ag⟩
  ·
   intro _ am af;obtain⟨hE,ab⟩:=af;replace hf:=hf.nw ab;replace hm0:=hm0.trN ab;have aX:=ab.size;refine CW.sr (fun aL=>?_);refine LR.m1 ?_;refine LR.m1 ?_;refine LR.call rfl c'100 rfl (Wd.u rfl) rfl rfl (rmk_ct K g b D1 p w0 _ hf hB1.an hB1.ast (by omega) (by first|omega|(have:=dirP_le p;omega))) (fun aY ao aM=>?_);obtain⟨ap,aN,db,rfl,hf,aj,hdb,aO,hgd18,ak⟩:=aM;have aA:NxK K H0.size ap:=NxK.tr (aa) aj hm0.size;replace hm0:=hm0.trL ak (MIL.ofK (aa) (by intro k hk;simp[hk]));have aZ:=ak.size;have ae:=hf.bk;have hgl18:=hgd18.2;refine LR.an ?_;refine aL _ _ (CW.s1 (fun aP=>?_));obtain⟨nvA,svA,bvA,kcA,blA,hdA⟩:=hf.dirs _ db hdb;have hop:Mo (Ms [(db+1)]) ao ao:=Mo.refl _ _;have km3:KM ap (db+1):=(hf.km1 hdA.rd (by simp));have vd:=hdA.vd;have aq:=vd.lt;have aB:MI K H0.size (db+1):=MIL.at (MIL.ofK (aA) (by intro k hk;simp[hk])) km3;have aC:=Nx.refl (db+1) ao.size;refine CW.region ?_;refine LR.m1 ?_;refine LR.m1 ?_;refine LR.n1 ?_;refine LR.v1 (Y.FA vd.pt rfl u'124 rfl s'121) ?_;refine LR.v1 (Y.load1 (vd.pt.drop 1) rfl a'121 rfl) ?_;refine LR.n1 ?_;refine LR.v1 (Y.FA vd.pt rfl u'124 rfl s'121) ?_;refine LR.s1 (S.var1 vd 2 ([Str p,nvA.v,nvA.v,bvA.v]) rfl rfl rfl (rfl) s'121 (by simp) (rfl)) fun aQ ar=>?_;obtain⟨vd,ac⟩:=ar;replace ac:=ac.md1;replace hm0:=hm0.trL ac (MIL.cons (aB) MIL.nil);replace hop:=hop.trL ac (MIL.o (MI.r aC));have a0:=ac.size;refine LR.nil (aP _ _ (CW.sr (fun au=>?_)));refine LR.m1 ?_;refine LR.n1 ?_;refine LR.v1 (Y.FA vd.pt rfl u'124 rfl s'122) ?_;refine LR.s1 (S.var1 vd 3 ([Str p,nvA.v,nvA.v,.slice none 0 0]) rfl rfl rfl (rfl) s'122 (by simp) (rfl)) fun aR av=>?_;obtain⟨vd,ad⟩:=av;replace ad:=ad.md1;replace hm0:=hm0.trL ad (MIL.cons (aB) MIL.nil);replace hop:=hop.trL ad (MIL.o (MI.r aC));have a1:=ad.size;refine LR.nil ?_;have aS:NxK K H0.size ap:=aA;replace hf:=hf.dsync hB1.an hB1.ast hdb hdA hop vd;have ae:=hf.bk;refine au _ _ (CW.sr (fun aw=>?_));refine LR.an ?_;refine aw _ _ ?_;refine CW.ret (hret .ret (.inr rfl) _ _ _ (res1 rfl rfl) ?_);exact⟨_,aN,by rw[hlay,hE];rfl,by rw[hlay,hE];exact hf,aS,by omega,hm0⟩
end DskE

namespace DskF
open E Go.RowKit SimA SimB SimC SimD SimE SimF SimG SimH SimI SimJ SimK SimL SimM SimN SimP SimQ SimR SimX DskA DskB DskC DskD DskE
set_option maxRecDepth 100000 in
theorem inf34:Inf Tryz.prog 34 5 1 1:=⟨Tryz.underlying34,_,_,rfl,rfl,rfl,rfl,rfl⟩
set_option maxRecDepth 100000 in
theorem inf130:Inf Tryz.prog 130 162 2 32:=⟨Tryz.underlying130,_,_,rfl,rfl,rfl,rfl,rfl⟩
set_option maxHeartbeats 2000000 in
theorem rrename_ct(K:List Nat)(g:Rg)(b:Nat)(D:Dk)(p q:Pth)(w0:World)(H0:Heap)
 (hf:RDk K g H0 b D) (hdl:g.dm.length≤549755813888) (hl:p.length≤4294967280) (hl2:q.length≤4294967280) (hB:Bd 274877906944 D):
 Ct Tryz.prog w0 90 #[ptr b,Str p,Str q] H0 (fun r H2=>∃K2:List Nat,∃g2:Rg,r= .int .i64 ((D.rename p q).1:Int)∧(RDk K2 g2 H2 b ((D.rename p q).2))∧(NxK K H0.size K2)∧(g2.dm.length≤g.dm.length+2)∧Mo (Ms K) H0 H2):=by
 refine Ct.enter (args:=[ptr b,Str p,Str q]) Tryz.func90 rfl rfl rfl ?_;intro Q0 hret;have hm0:Mo (Ms K) H0 H0:=Mo.refl _ _;have aa:=NxK.refl K H0.size;have ac:=hf.bk;have hop0:=hB.op;obtain⟨D1,hD1⟩:∃D1,D1=D.begin.2:=⟨_,rfl⟩;have hB1:=hB.begin;rw[←hD1]at hB1;refine CW.sr (fun a3=>?_);refine LR.an ?_;refine a3 _ _ (CW.seq (fun K2 a4 a5=>CW.sr (fun a6=>?_)));refine LR.m1 ?_;refine LR.call rfl c'98 rfl (Wd.u rfl) rfl rfl (rbeg_ct K g b D w0 _ hf (by omega)) (fun bD aE a7=>?_);obtain⟨rfl,hf,ao⟩:=a7;replace hm0:=hm0.trL ao (MIL.ofK (aa) (by intro k hk;simp[hk]));have bE:=ao.size;rw[←hD1]at hf;refine LR.v1 (Y.not rfl rfl) (LR.nil (a6 _ _ ?_));refine CW.cond rfl (fun aF=>?_) (fun aF=>?_)
 ·
  refine CW.sr (fun a8=>?_);refine LR.an ?_;refine a8 _ _ ?_;refine CW.ret (a5 .ret nofun _ _ (hret .ret (.inr rfl) _ _ _ (res1 rfl rfl) ?_));have hdd:=ren_dead (p:=p) (q:=q) (show D.begin.1=false by simpa using aF);exact⟨K,g,by rw[hdd];rfl,by rw[hdd];rw[hD1]at hf;exact hf,aa,Nat.le_add_right _ _,hm0⟩
 ·
  have hgo:D.begin.1=true:=by simpa using aF
  have hlay:=ren_go (p:=p) (q:=q) hgo;rw[←hD1]at hlay;refine CW.skip (a4 _ _ ?_)
  refine CW.cut (fun(_:Unit)=>[(0,ptr b),(1,Str p),(2,Str q)])
   (fun(_:Unit) (H:Heap)=>(nameB p=true∧nameB q=true)∧Nw aE H) (fun _ a9 a0=>?_) ?_
  ·
   have ad:Nw aE aE:=Mo.refl _ _;refine CW.sr (fun a1=>?_);refine LR.m1 ?_;refine LR.call rfl c'53 rfl (Wd.u rfl) rfl rfl (rname_ct p w0 _ hl) (fun bF bG a_=>?_);obtain⟨rfl,af⟩:=a_;replace hf:=hf.nw af;replace hm0:=hm0.trN af;replace ad:=ad.tr af;have bH:=af.size;refine LR.v1 (Y.not rfl rfl) ?_;refine LR.m1 ?_;refine LR.split (d:=15) rfl (fun ba=>?_) (fun ba=>?_)
   ·
    refine LR.g1 ?_;refine LR.g1 ?_;refine LR.g1 ?_;refine LR.pt ?_;refine LR.nil (a1 _ _ ?_);refine CW.cond_t rfl ?_;refine CW.sr (fun bb=>?_);refine LR.an ?_;refine bb _ _ ?_;refine CW.ret (a0 .ret nofun _ _ (hret .ret (.inr rfl) _ _ _ (res1 rfl rfl) ?_));have hE:=renE_7 (D:=D1) (p:=p) (q:=q) (by cases h1:nameB p<;>cases h2:nameB q<;>simp_all);exact⟨K,g,by rw[hlay,hE];rfl,by rw[hlay,hE];exact hf,aa,by omega,hm0⟩
   ·
    refine LR.wm ?_;refine LR.call rfl c'53 rfl (Wd.g rfl rfl rfl) rfl rfl (rname_ct q w0 _ hl2) (fun bI bJ bc=>?_);obtain⟨rfl,ag⟩:=bc;replace hf:=hf.nw ag;replace hm0:=hm0.trN ag;replace ad:=ad.tr ag;have bK:=ag.size;refine LR.w1 (Y.not rfl rfl) ?_;refine LR.pf ?_;refine LR.nil (a1 _ _ ?_);refine CW.cond rfl (fun bd=>?_) (fun bd=>?_)
    ·
     refine CW.sr (fun be=>?_);refine LR.an ?_;refine be _ _ ?_;refine CW.ret (a0 .ret nofun _ _ (hret .ret (.inr rfl) _ _ _ (res1 rfl rfl) ?_));have hE:=renE_7 (D:=D1) (p:=p) (q:=q) (by cases h1:nameB p<;>cases h2:nameB q<;>simp_all);exact⟨K,g,by rw[hlay,hE];rfl,by rw[hlay,hE];exact hf,aa,by omega,hm0⟩
    ·
     refine CW.skip ?_;refine QN.sub (a9 () _ ?_) ⟨rfl,rfl,rfl,trivial⟩;exact⟨by cases h1:nameB p<;>cases h2:nameB q<;>simp_all,ad⟩
  ·
   intro _ aB ae;obtain⟨hnn,ab⟩:=ae;replace hf:=hf.nw ab;replace hm0:=hm0.trN ab;have bL:=ab.size;refine CW.s2 (fun bf bg=>CW.sr (fun aG=>?_));refine LR.m1 ?_;refine LR.call rfl c'92 rfl (Wd.u rfl) rfl rfl (rdir_ct p w0 _ hl) (fun bM bN bh=>?_);obtain⟨rfl,ai⟩:=bh;replace hf:=hf.nw ai;replace hm0:=hm0.trN ai;have bO:=ai.size;refine LR.m1 ?_;refine LR.call rfl c'92 rfl (Wd.u rfl) rfl rfl (rdir_ct q w0 _ hl2) (fun bP bQ bi=>?_);obtain⟨rfl,aj⟩:=bi;replace hf:=hf.nw aj;replace hm0:=hm0.trN aj;have bR:=aj.size;refine LR.v1 (Y.sneq rfl rfl rfl) (LR.nil (aG _ _ ?_));refine CW.condp rfl (fun aH=>?_) (fun aH=>?_)
   ·
    refine CW.sr (fun aI=>?_);refine LR.an ?_;refine aI _ _ ?_;refine CW.ret (bg .ret nofun _ _ (hret .ret (.inr rfl) _ _ _ (res1 rfl rfl) ?_));have hE:=renE_13 (D:=D1) (p:=p) (q:=q) hnn.1 hnn.2 (by simpa using aH);exact⟨K,g,by rw[hlay,hE];rfl,by rw[hlay,hE];exact hf,aa,by omega,hm0⟩
   ·
    have hdq:dirP p=dirP q:=by simpa using aH
    have hrl:=renE_l (D:=D1) hnn.1 hnn.2 hdq;refine CW.skip (bf _ _ (CW.sr (fun aJ=>?_)));refine LR.m1 ?_;refine LR.m1 ?_;refine LR.call rfl c'65 rfl (Wd.u rfl) rfl rfl (rfile_ct K g b D1 p w0 _ hf hB1.an hB1.ast (by omega) hl) (fun bS bT bj=>?_);obtain⟨a2,aK,rfl,hf,ap,bl,hgd27,aq⟩:=bj;have aC:NxK K H0.size a2:=NxK.tr (aa) ap hm0.size;replace hm0:=hm0.trL aq (MIL.ofK (aa) (by intro k hk;simp[hk]));have bU:=aq.size;have ac:=hf.bk;have hgl27:=hgd27.2;refine LR.an ?_;refine aJ _ _ (CW.s2 (fun aL aM=>CW.sr (fun aN=>?_)));refine LR.m1 ?_;refine LR.v1 (Y.peq rfl (by kernel_rfl) (by kernel_rfl) rfl rfl) (LR.nil (aN _ _ ?_));refine CW.cond rfl (fun ar=>?_) (fun ar=>?_)
    ·
     have hno:mget D1.now p=none:=by
      cases hq:mget D1.now p with
      |none=>rfl
      |some i=>rw[hq]at ar;cases ar
     refine CW.sr (fun aO=>?_);refine LR.an ?_;refine aO _ _ ?_;refine CW.ret (aM .ret nofun _ _ (hret .ret (.inr rfl) _ _ _ (res1 rfl rfl) ?_));have hlk:=lk2 hnn.1 hno;exact⟨_,aK,by rw[hlay,hrl,hlk];rfl,by rw[hlay,hrl];rw[if_neg (fun h=>by omega)];exact hf,aC,by omega,hm0⟩
    ·
     obtain⟨i,hnow⟩:∃i,mget D1.now p=some i:=by
      cases hq:mget D1.now p with
      |some i=>exact⟨i,rfl⟩
      |none=>rw[hq]at ar;cases ar
     have hil:=hf.ids.1 p i hnow;refine CW.skip (aL _ _ (CW.s1 (fun au=>CW.sr (fun aP=>?_))));refine LR.m1 ?_;refine LR.m1 ?_;refine LR.v1 (Y.sneq rfl rfl rfl) (LR.nil (aP _ _ ?_));refine CW.condp rfl (fun aQ=>?_) (fun aQ=>?_)
     ·
      refine CW.sr (fun aR=>?_);refine LR.m1 ?_;refine LR.m1 ?_;refine LR.call rfl c'92 rfl (Wd.u rfl) rfl rfl (rdir_ct p w0 _ hl) (fun bV bW bm=>?_);obtain⟨rfl,ak⟩:=bm;replace hf:=hf.nw ak;replace hm0:=hm0.trN ak;have bX:=ak.size;refine LR.call rfl c'100 rfl (Wd.u rfl) rfl rfl (rmk_ct a2 aK b D1 (dirP p) w0 _ hf hB1.an hB1.ast (by omega) (by first|omega|(have:=dirP_le p;omega))) (fun bY bZ bn=>?_);obtain⟨aS,ah,db,rfl,hf,av,hdb,aT,hgd36,aw⟩:=bn;have bo:NxK K H0.size aS:=NxK.tr (aC) av hm0.size;replace hm0:=hm0.trL aw (MIL.ofK (aC) (by intro k hk;simp[hk]));have b0:=aw.size;have ac:=hf.bk;have hgl36:=hgd36.2;refine LR.an ?_;refine aR _ _ (CW.region ?_);refine LR.m1 ?_;refine LR.m1 ?_;obtain⟨nvA,svA,bvA,kcA,blA,hdA⟩:=hf.dirs _ db hdb;have hxl:(dnl D1.now (dirP p)).length≤D1.now.length:=List.length_filter_le _ _;have hml:=mdel_len (dnl D1.now (dirP p)) p;have hnl:=hB1.nl;have hgl:=hB1.lg;have hpn:p≠[]:=name_ne hnn.1;refine LR.n1 ?_;refine LR.v1 (Y.FA hdA.vd.pt rfl u'124 rfl s'121) ?_;refine LR.v1 (Y.load1 (hdA.vd.pt.drop 1) rfl a'121 rfl) ?_;refine LR.m1 ?_;refine LR.call rfl c'94 rfl (Wd.u rfl) rfl rfl (without_ct ah.fb nvA.v (dnl D1.now (dirP p)) p w0 _ hdA.hn.any (by omega)) (fun b1 b2 bp=>?_);obtain⟨bq,b3,rfl,ow,br,al⟩:=bp;replace hf:=hf.nw al;replace hm0:=hm0.trN al;have bs:=al.size;have aU:=ow.le;refine LR.m1 ?_;refine LR.v1 (Y.cast (v2:=fvl ah.fb i) (Y.move rfl rfl) (by rw[hnow,aT];rfl)) ?_;refine LR.v1 (Y.build (v:= .agg (fL ah.fb ((q,i):Pth×Nat)).toArray) rfl rfl (by intro w;kernel_rfl)) ?_;refine LR.call rfl c'57 rfl (Wd.u rfl) rfl rfl (with_ct ah.fb bq.v (mdel (dnl D1.now (dirP p)) p) q i w0 _ ow.rd.any (by omega) (asc_del (dnl_asc hB1.an _) p)) (fun b4 b5 bt=>?_);obtain⟨bu,aD,rfl,on,ax,am⟩:=bt;have bv:DL aD aS:=DL.app2 (DL.zK) hf.bk ax;have bw:Nx 0 H0.size aD:=Nx.tr (Nx.refl 0 _) ax hm0.size;replace hf:=hf.nw am;replace hm0:=hm0.trN am;have bx:=am.size;have aV:=on.le;have hlz:=ow_frz (ρ:=ah.ρ) on;have ay:=NxK.cons (bw) (bo);replace hf:=hf.fz on (bv);have ac:=hf.bk;refine LR.call rfl c'119 rfl (Wd.u rfl) rfl rfl (rchg_ct (aD::aS) {ah with ρ:=uprk ah.ρ aD .frz} b D1 (dirP p) db bu ⟨p,q,some i⟩ w0 _ hf hB1.an hB1.ast hdb (by show Rd _ _ _ _ _ (nput (if p=[]then _ else _) q i);rw[if_neg hpn];exact hlz) (by simp[Chg.dir,hpn]) ⟨fun j hj=>hdq.symm,fun _=>rfl⟩ (fun j hj=>by cases hj;exact hil) (by omega)) (fun b6 b7 bz=>?_);obtain⟨bA,bB,rfl,hf,az,aW,aA⟩:=bz;have aX:NxK K H0.size bA:=NxK.tr (ay) az hm0.size;replace hm0:=hm0.trL aA (MIL.ofK (ay) (by intro k hk;simp[hk]));have bC:=aA.size;have ac:=hf.bk;refine LR.nil (au _ _ (CW.sr (fun aY=>?_)));refine LR.an ?_;refine aY _ _ ?_;refine CW.ret (hret .ret (.inr rfl) _ _ _ (res1 rfl rfl) ?_);have hlk:=lk0 hnn.1 hnow;exact⟨_,bB,by rw[hlay,hrl,hlk];rfl,by rw[hlay,hrl];rw[if_pos ⟨hlk,by simpa using aQ⟩,hnow];exact hf,aX,by rw[aW.2];show ah.dm.length≤_;omega,hm0⟩
     ·
      refine CW.skip (au _ _ (CW.sr (fun aZ=>?_)));refine LR.an ?_;refine aZ _ _ ?_;refine CW.ret (hret .ret (.inr rfl) _ _ _ (res1 rfl rfl) ?_);have hlk:=lk0 hnn.1 hnow;exact⟨_,aK,by rw[hlay,hrl,hlk];rfl,by rw[hlay,hrl];rw[if_neg (fun h=>h.2 (by simpa using aQ))];exact hf,aC,by omega,hm0⟩
theorem on_t(d b:List UInt8):Wr.on ⟨true,d⟩ b d.length=b++d:=by simp[Wr.on]
theorem on_f(d b:List UInt8):Wr.on ⟨false,d⟩ b d.length=d:=by simp[Wr.on]
theorem rwrite_some{D:Dk}{p:Pth}{i:Nat}{w:Wr}(h:mget D.now p=some i)(hi:i<D.fs.length):D.putF i ⟨w.on (D.wasL p) w.d.length,(fget D.fs i).stays,(fget D.fs i).w++[w]⟩=D.write p w:=by
 rw[was_some h];unfold Dk.write Dk.make;rw[h]
theorem rwrite_none{D:Dk}{p:Pth}{w:Wr}(h:mget D.now p=none):(mk1 D p).putF D.fs.length ⟨w.on (D.wasL p) w.d.length,(fget (mk1 D p).fs D.fs.length).stays,(fget (mk1 D p).fs D.fs.length).w++[w]⟩=D.write p w:=by
 rw[was_none h];unfold Dk.write Dk.make;rw[h];show(mk1 D p).putF D.fs.length _=(mk1 D p).putF D.fs.length _;have e:=mk1_get D p;simp only[mk1]at e⊢;simp[e]
set_option maxHeartbeats 2000000 in
theorem rput_ct(K:List Nat)(g:Rg)(b:Nat)(D:Dk)(p:Pth)(sd:SV)(d:List UInt8)(bb:Bool)(F:Nat→Prop)(w0:World)(H0:Heap)
 (hf:RDk K g H0 b D) (hd:Rd F H0 fB 1 sd.v d) (bf_hd:BF F H0.size) (dfd:DFL F K) (hdl:g.dm.length≤549755813888) (hl:p.length≤4294967280) (hB:Bd 274877906944 D) (hdl2:d.length≤274877906944):
 Ct Tryz.prog w0 95 #[ptr b,Str p,sd.v,.bool (!bb)] H0 (fun r H2=>∃K2:List Nat,∃g2:Rg,r= .int .i64 ((D.lay p (⟨bb,d⟩:Wr)).1:Int)∧(RDk K2 g2 H2 b ((D.lay p (⟨bb,d⟩:Wr)).2))∧(NxK K H0.size K2)∧(g2.dm.length≤g.dm.length+2)∧Mo (Ms K) H0 H2):=by
 refine Ct.enter (args:=[ptr b,Str p,sd.v,.bool (!bb)]) Tryz.func95 rfl rfl rfl ?_;intro Q0 hret;have hm0:Mo (Ms K) H0 H0:=Mo.refl _ _;have ad:=NxK.refl K H0.size;have am:=hf.bk;have hop0:=hB.op;obtain⟨D1,hD1⟩:∃D1,D1=D.begin.2:=⟨_,rfl⟩;have hB1:=hB.begin;rw[←hD1]at hB1;refine CW.sr (fun da=>?_);refine LR.an ?_;refine da _ _ (CW.seq (fun K2 dc dd=>CW.sr (fun de=>?_)));refine LR.m1 ?_;refine LR.call rfl c'98 rfl (Wd.u rfl) rfl rfl (rbeg_ct K g b D w0 _ hf (by omega)) (fun d9 d_ df=>?_);obtain⟨rfl,hf,a4⟩:=df;replace hd:=hd.upL a4 (dfd);replace hm0:=hm0.trL a4 (MIL.ofK (ad) (by intro k hk;simp[hk]));have ea:=a4.size;rw[←hD1]at hf;refine LR.v1 (Y.not rfl rfl) (LR.nil (de _ _ ?_));refine CW.cond rfl (fun bX=>?_) (fun bX=>?_)
 ·
  refine CW.sr (fun dg=>?_);refine LR.an ?_;refine dg _ _ ?_;refine CW.ret (dd .ret nofun _ _ (hret .ret (.inr rfl) _ _ _ (res1 rfl rfl) ?_));have hdd:=lay_dead (p:=p) (w:=(⟨bb,d⟩:Wr)) (show D.begin.1=false by simpa using bX);exact⟨K,g,by rw[hdd];rfl,by rw[hdd];rw[hD1]at hf;exact hf,ad,Nat.le_add_right _ _,hm0⟩
 ·
  have hgo:D.begin.1=true:=by simpa using bX
  have hlay:=lay_go (p:=p) (w:=(⟨bb,d⟩:Wr)) hgo;rw[←hD1]at hlay;refine CW.skip (dc _ _ (CW.s2 (fun dh di=>CW.sr (fun dj=>?_))));refine LR.m1 ?_;refine LR.call rfl c'53 rfl (Wd.u rfl) rfl rfl (rname_ct p w0 _ hl) (fun eb ec dk=>?_);obtain⟨rfl,aS⟩:=dk;replace hf:=hf.nw aS;replace hd:=hd.nw aS;replace hm0:=hm0.trN aS;have ed:=aS.size;refine LR.v1 (Y.not rfl rfl) (LR.nil (dj _ _ ?_));refine CW.cond rfl (fun bY=>?_) (fun bY=>?_)
  ·
   refine CW.sr (fun dl=>?_);refine LR.an ?_;refine dl _ _ ?_;refine CW.ret (di .ret nofun _ _ (hret .ret (.inr rfl) _ _ _ (res1 rfl rfl) ?_));have hE:D1.layE p (⟨bb,d⟩:Wr)=7:=layE_7 (by simpa using bY);exact⟨K,g,by rw[hlay,hE];rfl,by rw[hlay];simp only[hE];exact hf,ad,by omega,hm0⟩
  ·
   refine CW.skip (dh _ _ (CW.sr (fun dn=>?_)));refine LR.m1 ?_;refine LR.m1 ?_;refine LR.call rfl c'92 rfl (Wd.u rfl) rfl rfl (rdir_ct p w0 _ hl) (fun ee ef dp=>?_);obtain⟨rfl,aT⟩:=dp;replace hf:=hf.nw aT;replace hd:=hd.nw aT;replace hm0:=hm0.trN aT;have eg:=aT.size;refine LR.call rfl c'100 rfl (Wd.u rfl) rfl rfl (rmk_ct K g b D1 (dirP p) w0 _ hf hB1.an hB1.ast (by omega) (by first|omega|(have:=dirP_le p;omega))) (fun eh ei dq=>?_);obtain⟨aF,ay,db,rfl,hf,aY,hdb,dr,hgd22,a5⟩:=dq;have cQ:=DFL.appK (dfd) (bf_hd.mono hm0.size) aY;have bU:NxK K H0.size aF:=NxK.tr (ad) aY hm0.size;replace hd:=hd.upL a5 (dfd);replace hm0:=hm0.trL a5 (MIL.ofK (ad) (by intro k hk;simp[hk]));have ej:=a5.size;have am:=hf.bk;have hgl22:=hgd22.2;refine LR.an ?_;refine dn _ _ (CW.sr (fun ds=>?_));refine LR.m1 ?_;obtain⟨nvA,svA,bvA,kcA,blA,hdA⟩:=hf.dirs _ db hdb;have hxl:(dnl D1.now (dirP p)).length≤D1.now.length:=List.length_filter_le _ _;have hnl:=hB1.nl;have hgl:=hB1.lg;have hnm:nameB p=true:=by simpa using bY
   refine LR.n1 ?_;refine LR.v1 (Y.FA hdA.vd.pt rfl u'124 rfl s'121) ?_;refine LR.v1 (Y.load1 (hdA.vd.pt.drop 1) rfl a'121 rfl) ?_;refine LR.m1 ?_;refine LR.call rfl c'99 rfl (Wd.u rfl) rfl rfl (rfindD_ct ay.fb nvA.v D1.now p w0 _ hdA.hn.any) (fun ek bZ dt=>?_);obtain⟨rfl,aU⟩:=dt;replace hf:=hf.nw aU;replace hd:=hd.nw aU;replace hm0:=hm0.trN aU;have el:=aU.size;refine LR.an ?_;refine ds _ _ (CW.sr (fun b0=>?_));refine LR.an ?_;refine b0 _ _ ?_
   refine CW.cut (fun(ws:(SV))=>[(0,ptr b),(1,Str p),(2,sd.v),(3,.bool (!bb)),(9,ptr db),(10,.pointer (fpt ay.fb (mget D1.now p))),(11,ws.v)])
    (fun(ws:(SV)) (H:Heap)=>(Rd (fun c=>ay.ρ c= .frz) H fB 1 ws.v (D1.wasL p))∧((D1.wasL p).length≤274877906945)∧Nw bZ H) (fun _ bg _=>?_) ?_
   ·
    have aZ:Nw bZ bZ:=Mo.refl _ _;refine CW.sr (fun b1=>?_);refine LR.m1 ?_;refine LR.v1 (Y.pne rfl (by kernel_rfl) (by kernel_rfl) rfl rfl) (LR.nil (b1 _ _ ?_));refine CW.cond rfl (fun bh=>?_) (fun bh=>?_)
    ·
     obtain⟨i,hnow⟩:∃i,mget D1.now p=some i:=by
      cases hq:mget D1.now p with
      |some i=>exact⟨i,rfl⟩
      |none=>rw[hq]at bh;cases bh
     have hil:=hf.ids.1 p i hnow;refine CW.region ?_;obtain⟨nvW,svW,wvW,kwW,lwW,hfiW⟩:=hf.fil i hil;refine LR.v1 (Y.cast (v2:=fvl ay.fb i) (Y.move rfl rfl) (by rw[hnow];rfl)) ?_;refine LR.n1 ?_;refine LR.v1 (Y.FA hfiW.vf.pt rfl u'132 rfl s'34) ?_;refine LR.v1 (Y.load1 (hfiW.vf.pt.drop 0) rfl a'34 rfl) ?_;refine LR.an ?_;refine QN.sub (bg nvW _ ?_) ⟨rfl,rfl,rfl,rfl,rfl,rfl,rfl,trivial⟩;exact⟨by rw[was_some hnow];exact hfiW.hn,by rw[was_some hnow];exact hB1.nw i,aZ⟩
    ·
     have hno:mget D1.now p=none:=by
      cases hq:mget D1.now p with
      |none=>rfl
      |some i=>rw[hq]at bh;cases bh
     refine CW.skip ?_;refine QN.sub (bg ⟨none,0,0⟩ _ ?_) ⟨rfl,rfl,rfl,rfl,rfl,rfl,rfl,trivial⟩;exact⟨by rw[was_none hno];exact Rd.nil _ _ _ _,by rw[was_none hno];simp,aZ⟩
   ·
    intro ws af aK;obtain⟨hws,hwsl,ak⟩:=aK;replace hf:=hf.nw ak;replace hd:=hd.nw ak;replace hm0:=hm0.trN ak;have em:=ak.size;refine CW.sr (fun b2=>?_);have hwz:=hws;have aL:BF (fun c=>ay.ρ c= .frz) af.size:=hf.bfz;refine LR.z1 (Z.litw _ (([]:List UInt8)) rfl inf34 rfl rfl rfl (by decide) (by decide) fB_len fB_one (rfl)) fun en cR du=>?_;obtain⟨oa,aM,dv,b3⟩:=du;have cS:cR.size=af.size+1:=by rw[b3];simp
    have cT:DL (af.size+1) aF:=DL.newK hf.bk;have cU:=(DF.new (bf_hd.mono hm0.size):DF _ (af.size+1));have cV:=(DF.new (aL.mono (by omega)):DF _ (af.size+1));have cW:Nx 0 H0.size (af.size+1):=Nx.new hm0.size;replace hf:=hf.nw aM;replace hd:=hd.nw aM;replace hwz:=hwz.nw aM;replace hm0:=hm0.trN aM;have eo:=aM.size;refine LR.m1 ?_;refine LR.z1 (Z.apnd oa hd rfl inf34 rfl rfl (by simp;omega) (by simp;omega)) fun cX aI dw=>?_;obtain⟨a0,oa,aG,aA⟩:=dw;replace aG:Nx (af.size+1) cR.size a0:=aG;replace aA:=aA.md;have cY:DL a0 aF:=DL.app2 (cT) hf.bk aG;have dx:=DF.app (cU) (bf_hd.mono hm0.size) aG;have b4:=DF.app (cV) (aL.mono (by omega)) aG;have bj:Nx 0 H0.size a0:=Nx.tr (cW) aG hm0.size;replace hf:=hf.upL aA (DKL.cons cT DKL.nil);replace hd:=hd.upL aA (DFL.o cU);replace hwz:=hwz.upL aA (DFL.o cV);replace hm0:=hm0.trL aA (MIL.o (MI.q cW));have ep:=aA.size;have a6:=oa.le;obtain⟨dy,rfl⟩:∃s:SV,cX=s.v:=⟨toSV cX,oa.sv.symm⟩;rw[List.nil_append]at oa;refine LR.an ?_;refine b2 _ _ ?_
    refine CW.cut (fun(s_:(SV)×(Nat))=>match s_ with|(sn,kn)=>[(0,ptr b),(1,Str p),(2,sd.v),(3,.bool (!bb)),(9,ptr db),(10,.pointer (fpt ay.fb (mget D1.now p))),(11,ws.v),(12,sn.v)])
     (fun(sn,kn) (H:Heap)=>(Ow kn 5 H fB 1 sn.v (Wr.on (⟨bb,d⟩:Wr) (D1.wasL p) d.length))∧(Nx a0 aI.size kn)∧Mo (Ms [a0]) aI H) (fun _ bl _=>?_) ?_
    ·
     have ah:Mo (Ms [a0]) aI aI:=Mo.refl _ _;have au:=Nx.refl a0 aI.size;refine CW.sr (fun b5=>?_);refine LR.m1 ?_;refine LR.v1 (Y.not rfl rfl) (LR.nil (b5 _ _ ?_));refine CW.cond rfl (fun b6=>?_) (fun b6=>?_)
     ·
      refine CW.region ?_;refine LR.z1 (Z.litw _ (([]:List UInt8)) rfl inf34 rfl rfl rfl (by decide) (by decide) fB_len fB_one (rfl)) fun er cZ dz=>?_;obtain⟨o2,aV,dA,b7⟩:=dz;have c0:cZ.size=aI.size+1:=by rw[b7];simp
      have b8:=(DF.new (bf_hd.mono hm0.size):DF _ (aI.size+1));have bm:Nx 0 aI.size (aI.size+1):=Nx.new ah.size;replace hd:=hd.nw aV;replace hwz:=hwz.nw aV;replace ah:=ah.trN aV;have es:=aV.size;refine LR.m1 ?_;refine LR.z1 (Z.apnd o2 hwz rfl inf34 rfl rfl (by simp;omega) (by simp;omega)) fun c1 dB dC=>?_;obtain⟨b9,o2,a7,aN⟩:=dC;replace a7:Nx (aI.size+1) cZ.size b9:=a7;replace aN:=aN.md;have bn:Nx 0 aI.size b9:=Nx.tr (bm) a7 ah.size;replace hd:=hd.upL aN (DFL.o b8);replace ah:=ah.trL aN (MIL.o (MI.q bm));have dD:=aN.size;have a8:=o2.le;obtain⟨et,rfl⟩:∃s:SV,c1=s.v:=⟨toSV c1,o2.sv.symm⟩;rw[List.nil_append]at o2;refine LR.m1 ?_;refine LR.z1 (Z.apnd o2 hd rfl inf34 rfl rfl (by omega) (by omega)) fun c2 eu dE=>?_;obtain⟨b_,o2,a9,aW⟩:=dE;replace a9:Nx b9 dB.size b_:=a9;replace aW:=aW.md;have ca:Nx 0 aI.size b_:=Nx.tr (bn) a9 ah.size;replace ah:=ah.trL aW (MIL.o (MI.q bn));have dF:=aW.size;have a8:=o2.le;obtain⟨dG,rfl⟩:∃s:SV,c2=s.v:=⟨toSV c2,o2.sv.symm⟩;refine LR.an ?_;refine QN.sub (bl (dG,b_) _ ?_) ⟨rfl,rfl,rfl,rfl,rfl,rfl,rfl,rfl,trivial⟩;exact⟨by have hb1:bb=true:=(by simpa using b6);subst hb1;rw[on_t];exact o2,(Nx.z (ca)),ah⟩
     ·
      refine CW.skip ?_;refine QN.sub (bl (dy,a0) _ ?_) ⟨rfl,rfl,rfl,rfl,rfl,rfl,rfl,rfl,trivial⟩;exact⟨by have hb1:bb=false:=(by simpa using b6);subst hb1;rw[on_f];exact oa,au,ah⟩
    ·
     rintro⟨sn,kn⟩ aD aO;obtain⟨oa,aP,ae⟩:=aO;have bo:DL kn aF:=DL.app2 (cY) hf.bk aP;have cb:Nx 0 H0.size kn:=Nx.tr (bj) aP hm0.size;replace hf:=hf.upL ae (DKL.cons cY DKL.nil);replace hd:=hd.upL ae (DFL.o dx);replace hwz:=hwz.upL ae (DFL.o b4);replace hm0:=hm0.trL ae (MIL.o (MI.q bj));have dH:=ae.size;have a6:=oa.le;have hus:=hB1.us;have honl:(Wr.on (⟨bb,d⟩:Wr) (D1.wasL p) d.length).length≤274877906945+274877906944:=by have h9:=on_le (⟨bb,d⟩:Wr) (D1.wasL p) d.length;omega
     refine CW.s2 (fun cc cd=>CW.sr (fun ce=>?_));refine LR.m1 ?_;refine LR.v1 (Y.len oa.rd rfl u'34 rfl) ?_;refine LR.m1 ?_;refine LR.n1 ?_;refine LR.v1 (Y.FA hf.vb.pt rfl u'62 rfl s'3) ?_;refine LR.v1 (Y.load1 (hf.vb.pt.drop 1) rfl a'3 rfl) ?_;refine LR.v1 (Y.gtr rfl rfl rfl) (LR.nil (ce _ _ ?_));refine CW.condp rfl (fun dI=>?_) (fun dI=>?_)
     ·
      refine CW.sr (fun cf=>?_);refine LR.an ?_;refine cf _ _ ?_;refine CW.ret (cd .ret nofun _ _ (hret .ret (.inr rfl) _ _ _ (res1 rfl rfl) ?_));have hE:D1.layE p (⟨bb,d⟩:Wr)=5:=layE_5 hnm (show D1.most<(Wr.on (⟨bb,d⟩:Wr) (D1.wasL p) d.length).length by omega);exact⟨_,ay,by rw[hlay,hE];rfl,by rw[hlay];simp only[hE];exact hf,bU,by omega,hm0⟩
     ·
      refine CW.skip (cc _ _ (CW.s2 (fun cg ch=>CW.s1 (fun ci=>?_))));refine CW.region_any (fun Hq=>Nw aD Hq) [] rfl ?_;have hqs:=Nw.refl aD;refine LH.m1 0 rfl hqs ?_;refine LH.m1 2 rfl hqs ?_;refine LH.t1 3 rfl (fun Hq hq=>Y.len (hwz.nw hq) rfl u'34 rfl) hqs ?_;refine LH.m1 5 rfl hqs ?_;refine LH.t1 6 rfl (fun Hq hq=>Y.len (oa.rd.nw hq) rfl u'34 rfl) hqs ?_;refine LH.m1 8 rfl hqs ?_;refine LH.n1 9 rfl hqs ?_;refine LH.t1 10 rfl (fun Hq hq=>Y.FA (hf.vb.pt.nw hq) rfl u'62 rfl s'3) hqs ?_;refine LH.t1 11 rfl (fun Hq hq=>Y.load1 ((hf.vb.pt.drop 0).nw hq) rfl a'3 rfl) hqs ?_;refine LH.o1 1 ?_;refine LO.call rfl rfl c'120 rfl (Wd.u rfl) rfl rfl (rused_ct aF ay b D1 w0 _ hf hB1.an (by omega)) (fun ev ap dJ=>?_);obtain⟨rfl,aH⟩:=dJ;replace hf:=hf.nw aH;replace hd:=hd.nw aH;replace oa:=oa.nw aH;replace hm0:=hm0.trN aH;have dK:=aH.size;have bp:=hqs.tr aH;refine⟨.inr bp,LH.narrow (SH2:=fun Hq=>Nw ap Hq) (fun Hq hq=>bp.tr hq) ?_⟩;have aE:=Nw.refl ap;refine LH.t1 4 rfl (fun Hq hq=>Y.subi rfl rfl rfl (by omega)) aE ?_;refine LH.t1 7 rfl (fun Hq hq=>Y.addi rfl rfl rfl (by omega)) aE ?_;refine LH.t1 12 rfl (fun Hq hq=>Y.gtr rfl rfl rfl) aE ?_;refine LH.done (by kernel_rfl) ?_;have hqe:=aE;refine ci _ _ ?_;refine CW.condp rfl (fun dL=>?_) (fun dL=>?_)
      ·
       refine CW.sr (fun cj=>?_);refine LR.an ?_;refine cj _ _ ?_;refine CW.ret (ch .ret nofun _ _ (hret .ret (.inr rfl) _ _ _ (res1 rfl rfl) ?_));have hE:D1.layE p (⟨bb,d⟩:Wr)=12:=layE_12 hnm (show ¬D1.most<(Wr.on (⟨bb,d⟩:Wr) (D1.wasL p) d.length).length by omega) (show D1.cap+(D1.wasL p).length<D1.used+(Wr.on (⟨bb,d⟩:Wr) (D1.wasL p) d.length).length by omega);exact⟨_,ay,by rw[hlay,hE];rfl,by rw[hlay];simp only[hE];exact hf,bU,by omega,hm0⟩
      ·
       refine CW.skip (cg _ _ ?_)
       refine CW.cut (fun(s_:(List Nat)×(Rg)×(Dk)×(Nat)×(Nat))=>match s_ with|(Kx,gx,Dz,i,bi)=>[(2,sd.v),(3,.bool (!bb)),(10,ptr bi),(12,sn.v)])
        (fun(Kx,gx,Dz,i,bi) (H:Heap)=>(RDk Kx gx H b Dz)∧(i<Dz.fs.length)∧(gx.fb.getD i 0=bi)∧((fget Dz.fs i).w.length≤274877906945)∧(Dz.putF i ⟨(Wr.on (⟨bb,d⟩:Wr) (D1.wasL p) d.length),(fget Dz.fs i).stays,(fget Dz.fs i).w++[(⟨bb,d⟩:Wr)]⟩=D1.write p (⟨bb,d⟩:Wr))∧(gx.dm.length≤ay.dm.length)∧(NxK aF ap.size Kx)∧Mo (Ms aF) ap H) (fun _ bq _=>?_) ?_
       ·
        have ai:Mo (Ms aF) ap ap:=Mo.refl _ _;have ao:=NxK.refl aF ap.size;refine CW.sr (fun ck=>?_);refine LR.m1 ?_;refine LR.v1 (Y.peq rfl (by kernel_rfl) (by kernel_rfl) rfl rfl) (LR.nil (ck _ _ ?_));refine CW.cond rfl (fun br=>?_) (fun br=>?_)
        ·
         have hno:mget D1.now p=none:=by
          cases hq:mget D1.now p with
          |none=>rfl
          |some i=>rw[hq]at br;cases br
         have hlen1:=hf.len;refine CW.sr (fun cl=>?_);refine LR.v1 (Y.build (v:= .agg #[.slice none 0 0,.slice none 0 0,.slice none 0 0]) rfl rfl (by intro w;kernel_rfl)) ?_;refine LR.z1 (Z.boxv rfl rfl) fun ew c3 dM=>?_;obtain⟨rfl,vf,a_,dN,cm⟩:=dM;have c4:c3.size=ap.size+1:=by rw[cm];simp
         have cn:DL (ap.size+1) aF:=DL.newK hf.bk;have co:Nx 0 ap.size (ap.size+1):=Nx.new ai.size;replace hf:=hf.nw a_;replace ai:=ai.trN a_;have dO:=a_.size;replace vf:Var 132 c3 ap.size ([.slice none 0 0,.slice none 0 0,.slice none 0 0]):=vf;have cp:=NxK.cons (co) (ao);replace hf:=hf.newFil hB1.an hB1.ast vf (cn);have am:=hf.bk;refine LR.an ?_;refine cl _ _ (CW.region ?_);refine LR.m1 ?_;refine LR.m1 ?_;obtain⟨nvB,svB,bvB,kcB,blB,hdB⟩:=hf.dirs _ db hdb;refine LR.n1 ?_;refine LR.v1 (Y.FA hdB.vd.pt rfl u'124 rfl s'121) ?_;refine LR.v1 (Y.load1 (hdB.vd.pt.drop 1) rfl a'121 rfl) ?_;refine LR.m1 ?_;refine LR.m1 ?_;refine LR.v1 (Y.cast (v2:= .agg (fL (ay.fb++[ap.size]) ((p,D1.fs.length):Pth×Nat)).toArray) (Y.build (v:= .agg #[Str p,ptr ap.size]) rfl rfl (by intro w;kernel_rfl)) (by simp[fL,List.getD,←hlen1])) ?_;refine LR.call rfl c'57 rfl (Wd.u rfl) rfl rfl (with_ct (ay.fb++[ap.size]) nvB.v (dnl D1.now (dirP p)) p D1.fs.length w0 _ hdB.hn.any (by omega) (dnl_asc hB1.an _)) (fun ex ey dP=>?_);obtain⟨dQ,c5,rfl,on77,bs,ba⟩:=dP;have cq:DL c5 ((ap.size+1)::aF):=DL.app2 (DL.zK) hf.bk bs;have cr:Nx 0 ap.size c5:=Nx.tr (Nx.refl 0 _) bs ai.size;replace hf:=hf.nw ba;replace ai:=ai.trN ba;have dR:=ba.size;have bt:=on77.le;have hlz:=ow_frz (ρ:=upr ay.ρ ap.size (.fil D1.fs.length)) on77;have bu:=NxK.cons (cr) (cp);replace hf:=hf.fz on77 (cq);have am:=hf.bk;refine LR.call rfl c'119 rfl (Wd.u rfl) rfl rfl (rchg_ct _ _ b _ (dirP p) db dQ ⟨[],p,some D1.fs.length⟩ w0 _ hf hB1.an hB1.ast hdb hlz (by simp[Chg.dir]) ⟨fun j hj=>rfl,fun h=>absurd rfl h⟩ (fun j hj=>by cases hj;simp) (by show D1.log.length≤_;omega)) (fun ez dS dT=>?_);obtain⟨cs,bV,rfl,hf,bv,bw,bx⟩:=dT;have ct:NxK aF ap.size cs:=NxK.tr (bu) bv ai.size;replace ai:=ai.trL bx (MIL.ofK (bu) (by intro k hk;simp[hk]));have dU:=bx.size;have am:=hf.bk;obtain⟨i,hie⟩:∃i,i=D1.fs.length:=⟨_,rfl⟩;have hil:i<(mk1 D1 p).fs.length:=by rw[hie];exact mk1_len D1 p
         have hbi0:bV.fb.getD i 0=ap.size:=by rw[bw.1,hie];simp[List.getD,←hlen1]
         obtain⟨bi,hbi,hbv⟩:∃bi,bV.fb.getD i 0=bi∧ptr ap.size=ptr bi:=⟨_,hbi0,rfl⟩;have hwi:(fget (mk1 D1 p).fs i).w.length≤274877906945:=by rw[hie,mk1_get];simp
         replace hf:RDk cs bV dS b (mk1 D1 p):=hf;refine LR.nil ?_;refine QN.sub (bq (cs,bV,mk1 D1 p,i,bi) _ ?_) ⟨rfl,rfl,(by first|rfl|exact congrArg some hbv),rfl,trivial⟩;exact⟨hf,hil,hbi,hwi,by subst hie;exact rwrite_none hno,by rw[bw.2];exact Nat.le_refl _,ct,ai⟩
        ·
         obtain⟨i,hnow⟩:∃i,mget D1.now p=some i:=by
          cases hq:mget D1.now p with
          |some i=>exact⟨i,rfl⟩
          |none=>rw[hq]at br;cases br
         have hil:=hf.ids.1 p i hnow;have hwas:=was_some hnow;obtain⟨bi,hbi,hbv⟩:∃bi,ay.fb.getD i 0=bi∧ .pointer (fpt ay.fb (mget D1.now p))=ptr bi:=⟨_,rfl,by rw[hnow];rfl⟩;have hwi:=hB1.w i;refine CW.skip ?_;refine QN.sub (bq (aF,ay,D1,i,bi) _ ?_) ⟨rfl,rfl,(by first|rfl|exact congrArg some hbv),rfl,trivial⟩;exact⟨hf,hil,hbi,hwi,rwrite_some hnow hil,Nat.le_refl _,ao,ai⟩
       ·
        rintro⟨Kx,gx,Dz,i,bi⟩ ag aQ;obtain⟨hf,hil,hbi,hwi,hfin,hgx,aB,al⟩:=aQ;have cu:=DFL.appK (cQ) (bf_hd.mono hm0.size) aB;have bc:DL kn Kx:=DL.appK (bo) oa.le aB;have bd:NxK K H0.size Kx:=NxK.tr (bU) aB hm0.size;replace hd:=hd.upL al (cQ);replace oa:=oa.upL al (bo);replace hm0:=hm0.trL al (MIL.ofK (bU) (by intro k hk;simp[hk]));have dV:=al.size;have am:=hf.bk;refine CW.s1 (fun cv=>?_);obtain⟨nvC,svC,wvC,kwC,lwC,hfiC⟩:=hf.fil i hil;have hlw:lwC.length≤274877906945:=by have h9:=congrArg List.length hfiC.lw;rw[List.length_map]at h9;rw[h9];exact hwi
        have hop:Mo (Ms [(bi+1),kwC]) ag ag:=Mo.refl _ _;have km65:KM Kx (bi+1):=(hf.kmf hfiC hbi);have vf2:=hfiC.atb hbi;have bW:=vf2.lt;have cw:=DFL.at (cu) km65;have bz:Dj kn (bi+1):=DL.at (bc) km65;have bA:MI K H0.size (bi+1):=MIL.at (MIL.ofK (bd) (by intro k hk;simp[hk])) km65;have bB:=Nx.refl (bi+1) ag.size;have km70:KM Kx kwC:=(hf.km hfiC.rk (by simp));have hw:=hfiC.hw;have be:=hw.le;have bC:Dj kn kwC:=DL.at (bc) km70;have cx:MI K H0.size kwC:=MIL.at (MIL.ofK (bd) (by intro k hk;simp[hk])) km70;have bD:=Nx.refl kwC ag.size;have aR:Dj (bi+1) kwC:=hfiC.ne hbi;refine CW.region ?_;refine LR.m1 ?_;refine LR.m1 ?_;refine LR.n1 ?_;refine LR.v1 (Y.FA vf2.pt rfl u'132 rfl s'34) ?_;refine LR.s1 (S.var1 vf2 0 ([sn.v,svC.v,wvC.v]) rfl rfl rfl (rfl) s'34 (by simp) (rfl)) fun ab bE=>?_;obtain⟨vf2,aj⟩:=bE;replace aj:=aj.md1;replace hd:=hd.upL aj (DFL.o cw);replace oa:=oa.upL aj (DL.o bz);replace hw:=hw.upL aj (DL.o aR.symm);replace hm0:=hm0.trL aj (MIL.cons (bA) MIL.nil);replace hop:=hop.trL aj (MIL.o (MI.r bB));have dW:=aj.size;refine LR.nil (cv _ _ (CW.s1 (fun cy=>?_)));refine CW.region_any (fun Hq=>Mo (Ms [kwC]) ab Hq) [12,13,14] rfl ?_;have aa:Mo (Ms [kwC]) ab ab:=Mo.refl _ _;have cz:=Nx.refl kwC ab.size;refine LH.m1 0 rfl aa ?_;refine LH.m1 1 rfl aa ?_;refine LH.n1 2 rfl aa ?_;refine LH.t1 3 rfl (fun Hq hq=>Y.fieldAddr (vf2.upL hq (DL.o aR)).pt rfl u'132 rfl rfl s'130 (by decide) rfl) aa ?_;refine LH.t1 4 rfl (fun Hq hq=>Y.load1 ((vf2.upL hq (DL.o aR)).pt.drop 2) rfl a'130 rfl) aa ?_;refine LH.m1 5 rfl aa ?_;refine LH.m1 7 rfl aa ?_;refine LH.o1 6 ?_;refine LO.z rfl (Z.litw _ (([]:List UInt8)) rfl inf34 rfl rfl rfl (by decide) (by decide) fB_len fB_one (rfl)) (Wd.u rfl) rfl rfl (fun eA a1 dX=>?_);obtain⟨od,av,dY,cA⟩:=dX;have c6:a1.size=ab.size+1:=by rw[cA];simp
        have bF:Dj kn (ab.size+1):=Dj.new oa.le;have bG:Dj (bi+1) (ab.size+1):=Dj.new vf2.lt;have bH:Dj kwC (ab.size+1):=Dj.new hw.le;have bI:Nx 0 H0.size (ab.size+1):=Nx.new hm0.size;have bJ:Nx 0 ag.size (ab.size+1):=Nx.new hop.size;have cB:Nx 0 ab.size (ab.size+1):=Nx.new aa.size;replace hd:=hd.nw av;replace oa:=oa.nw av;replace vf2:=vf2.nw av;replace hw:=hw.nw av;replace hm0:=hm0.trN av;replace hop:=hop.trN av;replace aa:=aa.trN av;have dZ:=av.size;refine⟨.inr aa,LH.narrow (SH2:=fun Hq=>Mo (Ms [kwC,(ab.size+1)]) a1 Hq) (fun Hq hq=>aa.trL hq (MIL.cons (MI.r cz) (MIL.o (MI.q cB)))) ?_⟩;have aa:Mo (Ms [kwC,(ab.size+1)]) a1 a1:=Mo.refl _ _;have cC:=Nx.refl kwC a1.size;have bK:=Nx.refl (ab.size+1) a1.size;refine LH.o1 8 ?_;refine LO.z rfl (Z.apnd od hd rfl inf34 rfl rfl (by first|omega|(simp;omega)) (by first|omega|(simp;omega))) (Wd.u rfl) rfl rfl (fun c7 aJ d0=>?_);obtain⟨az,od,aw,aq⟩:=d0;replace aw:Nx (ab.size+1) a1.size az:=aw;replace aq:=aq.md;have cD:Dj kn az:=Dj.app (bF) oa.le aw;have cE:Dj (bi+1) az:=Dj.app (bG) vf2.lt aw;have bL:Dj kwC az:=Dj.app (bH) hw.le aw;have cF:Nx 0 H0.size az:=Nx.tr (bI) aw hm0.size;have cG:Nx 0 ag.size az:=Nx.tr (bJ) aw hop.size;have cH:Nx (ab.size+1) a1.size az:=Nx.tr (bK) aw aa.size;replace oa:=oa.upL aq (DL.o bF);replace vf2:=vf2.upL aq (DL.o bG);replace hw:=hw.upL aq (DL.o bH);replace hm0:=hm0.trL aq (MIL.o (MI.q bI));replace hop:=hop.trL aq (MIL.o (MI.q bJ));replace aa:=aa.trL aq (MIL.o (MI.r bK));have d1:=aq.size;have cI:=od.le;obtain⟨c8,rfl⟩:∃s:SV,c7=s.v:=⟨toSV c7,od.sv.symm⟩;rw[List.nil_append]at od;refine⟨.inr aa,LH.narrow (SH2:=fun Hq=>Mo (Ms [kwC,az]) aJ Hq) (fun Hq hq=>aa.trL hq (MIL.cons (MI.r cC) (MIL.o (MI.r cH)))) ?_⟩;have aa:Mo (Ms [kwC,az]) aJ aJ:=Mo.refl _ _;have cJ:=Nx.refl kwC aJ.size;have cK:=Nx.refl az aJ.size;refine LH.t1 9 rfl (fun Hq hq=>Y.build (v:= .agg (fPu ((⟨bb,d⟩:Wr),c8)).toArray) rfl rfl (by intro w;kernel_rfl)) aa ?_;refine LH.o1 10 ?_;refine LO.z rfl (Z.litw _ ([((⟨bb,d⟩:Wr),c8)]) rfl inf130 rfl rfl rfl (by decide) (by decide) fPu_len fPu_one (rfl)) (Wd.u rfl) rfl rfl (fun eB aX d2=>?_);obtain⟨cL,ax,d3,cM⟩:=d2;have c9:aX.size=aJ.size+1:=by rw[cM];simp
        have bM:Nx 0 aJ.size (aJ.size+1):=Nx.new aa.size;replace oa:=oa.nw ax;replace vf2:=vf2.nw ax;replace hw:=hw.nw ax;replace od:=od.nw ax;replace hm0:=hm0.trN ax;replace hop:=hop.trN ax;replace aa:=aa.trN ax;have d4:=ax.size;refine⟨.inr aa,LH.narrow (SH2:=fun Hq=>Mo (Ms [kwC,az,(aJ.size+1)]) aX Hq) (fun Hq hq=>aa.trL hq (MIL.cons (MI.r cJ) (MIL.cons (MI.r cK) (MIL.o (MI.q bM))))) ?_⟩;have aa:Mo (Ms [kwC,az,(aJ.size+1)]) aX aX:=Mo.refl _ _;have a2:=Nx.refl kwC aX.size;have bN:=Nx.refl az aX.size;have bO:=Nx.refl (aJ.size+1) aX.size;refine LH.o1 11 ?_;refine LO.z rfl (Z.apnd hw cL.rd rfl inf130 rfl rfl (by first|omega|(simp;omega)) (by first|omega|(simp;omega))) (Wd.u rfl) rfl rfl (fun cN d5 d6=>?_);obtain⟨kw2,hw,aC,ar⟩:=d6;replace aC:Nx kwC aX.size kw2:=aC;replace ar:=ar.md;have bP:Dj kn kw2:=Dj.app (bC) oa.le aC;have bQ:Dj (bi+1) kw2:=Dj.app (aR) vf2.lt aC;have bR:Dj az kw2:=Dj.app (bL.symm) od.le aC;have a3:Nx kwC ag.size kw2:=Nx.tr (bD) aC hop.size;have bS:Nx kwC aX.size kw2:=Nx.tr (a2) aC aa.size;replace oa:=oa.upL ar (DL.o bC);replace vf2:=vf2.upL ar (DL.o aR);replace od:=od.upL ar (DL.o bL.symm);replace hm0:=hm0.trL ar (MIL.cons (cx) MIL.nil);replace hop:=hop.trL ar (MIL.o (MI.r bD));replace aa:=aa.trL ar (MIL.o (MI.r a2));have d7:=ar.size;have be:=hw.le;refine⟨.inr aa,LH.narrow (SH2:=fun Hq=>Mo (Ms [kw2,az,(aJ.size+1)]) d5 Hq) (fun Hq hq=>aa.trL hq (MIL.cons (MI.r bS) (MIL.cons (MI.r bN) (MIL.o (MI.r bO))))) ?_⟩;refine LH.o1 12 ?_;refine LO.v rfl (Y.nilCheck rfl rfl) (Wd.u rfl) rfl rfl (.inl rfl) ?_;refine LH.o1 13 ?_;refine LO.v rfl (Y.FA vf2.pt rfl u'132 rfl s'130) (Wd.u rfl) rfl rfl (.inl rfl) ?_;refine LH.o1 14 ?_;refine LO.s rfl (S.var1 vf2 2 ([sn.v,svC.v,cN]) rfl rfl rfl (hw.rd.oneCell) s'130 (by simp) (rfl)) (Wd.u rfl) rfl (fun cO bf=>?_);obtain⟨vf2,ac⟩:=bf;replace ac:=ac.md1;replace oa:=oa.upL ac (DL.o bz);replace hw:=hw.upL ac (DL.o bQ.symm);replace od:=od.upL ac (DL.o cE.symm);replace hm0:=hm0.trL ac (MIL.cons (bA) MIL.nil);replace hop:=hop.trL ac (MIL.o (MI.r bB));have d8:=ac.size;refine⟨.inl rfl,?_⟩;refine LH.done (by kernel_rfl) ?_;obtain⟨wv2,rfl⟩:∃s:SV,cN=s.v:=⟨toSV cN,hw.sv.symm⟩;have bT:NxK K H0.size (kn::(az::(kw2::Kx))):=(NxK.cons (cb) ((NxK.cons (cF) ((NxK.app (bd) (km70) (a3) (by omega))))));replace hf:=hf.fput hil hfiC hbi hop vf2 hw (a3) od (DL.cons (bR) (DL.nxK hf.bk (cG))) oa (DL.cons (cD) (DL.cons (bP) (bc)));have am:=hf.bk;refine cy _ _ (CW.sr (fun cP=>?_));refine LR.an ?_;refine cP _ _ ?_;refine CW.ret (hret .ret (.inr rfl) _ _ _ (res1 rfl rfl) ?_);have c_:D1.layE p (⟨bb,d⟩:Wr)=0:=layE_0 hnm (show ¬D1.most<(Wr.on (⟨bb,d⟩:Wr) (D1.wasL p) d.length).length by omega) (show ¬D1.cap+(D1.wasL p).length<D1.used+(Wr.on (⟨bb,d⟩:Wr) (D1.wasL p) d.length).length by omega);exact⟨_,_,by rw[hlay,c_];rfl,by rw[hlay];simp only[c_,if_true];rw[←hfin];exact hf,bT,by show gx.dm.length≤_;omega,hm0⟩
theorem rwrite_ct(K:List Nat)(g:Rg)(b:Nat)(D:Dk)(p:Pth)(sd:SV)(d:List UInt8)(F:Nat→Prop)(w0:World)(H0:Heap)
 (hf:RDk K g H0 b D) (hd:Rd F H0 fB 1 sd.v d) (bf_hd:BF F H0.size) (dfd:DFL F K) (hdl:g.dm.length≤549755813888) (hl:p.length≤4294967280) (hB:Bd 274877906944 D) (hdl2:d.length≤274877906944):
 Ct Tryz.prog w0 88 #[ptr b,Str p,sd.v] H0 (fun r H2=>∃K2:List Nat,∃g2:Rg,r= .int .i64 ((D.lay p ⟨false,d⟩).1:Int)∧(RDk K2 g2 H2 b ((D.lay p ⟨false,d⟩).2))∧(NxK K H0.size K2)∧(g2.dm.length≤g.dm.length+2)∧Mo (Ms K) H0 H2):=by
 refine Ct.enter (args:=[ptr b,Str p,sd.v]) Tryz.func88 rfl rfl rfl ?_;intro Q0 hret;have hm0:Mo (Ms K) H0 H0:=Mo.refl _ _;have aa:=NxK.refl K H0.size;have ac:=hf.bk;refine CW.sr (fun af=>?_);refine LR.an ?_;refine af _ _ (CW.seq (fun K2 ag _=>CW.region ?_));refine LR.m1 ?_;refine LR.m1 ?_;refine LR.m1 ?_;refine LR.call rfl c'95 rfl (Wd.u rfl) rfl rfl (rput_ct K g b D p sd d false F w0 _ hf hd (bf_hd.mono (by omega)) dfd hdl hl hB hdl2) (fun al am ah=>?_);obtain⟨ai,aj,rfl,hf,ab,ad,ae⟩:=ah;have ak:NxK K H0.size ai:=NxK.tr (aa) ab hm0.size;replace hm0:=hm0.trL ae (MIL.ofK (aa) (by intro k hk;simp[hk]));refine LR.an ?_;refine ag _ _ ?_;refine CW.ret (hret .ret (.inr rfl) _ _ _ (res1 rfl rfl) ?_);exact⟨_,aj,rfl,hf,ak,ad,hm0⟩
theorem rappend_ct(K:List Nat)(g:Rg)(b:Nat)(D:Dk)(p:Pth)(sd:SV)(d:List UInt8)(F:Nat→Prop)(w0:World)(H0:Heap)
 (hf:RDk K g H0 b D) (hd:Rd F H0 fB 1 sd.v d) (bf_hd:BF F H0.size) (dfd:DFL F K) (hdl:g.dm.length≤549755813888) (hl:p.length≤4294967280) (hB:Bd 274877906944 D) (hdl2:d.length≤274877906944):
 Ct Tryz.prog w0 60 #[ptr b,Str p,sd.v] H0 (fun r H2=>∃K2:List Nat,∃g2:Rg,r= .int .i64 ((D.lay p ⟨true,d⟩).1:Int)∧(RDk K2 g2 H2 b ((D.lay p ⟨true,d⟩).2))∧(NxK K H0.size K2)∧(g2.dm.length≤g.dm.length+2)∧Mo (Ms K) H0 H2):=by
 refine Ct.enter (args:=[ptr b,Str p,sd.v]) Tryz.func60 rfl rfl rfl ?_;intro Q0 hret;have hm0:Mo (Ms K) H0 H0:=Mo.refl _ _;have aa:=NxK.refl K H0.size;have ac:=hf.bk;refine CW.sr (fun af=>?_);refine LR.an ?_;refine af _ _ (CW.seq (fun K2 ag _=>CW.region ?_));refine LR.m1 ?_;refine LR.m1 ?_;refine LR.m1 ?_;refine LR.call rfl c'95 rfl (Wd.u rfl) rfl rfl (rput_ct K g b D p sd d true F w0 _ hf hd (bf_hd.mono (by omega)) dfd hdl hl hB hdl2) (fun al am ah=>?_);obtain⟨ai,aj,rfl,hf,ab,ad,ae⟩:=ah;have ak:NxK K H0.size ai:=NxK.tr (aa) ab hm0.size;replace hm0:=hm0.trL ae (MIL.ofK (aa) (by intro k hk;simp[hk]));refine LR.an ?_;refine ag _ _ ?_;refine CW.ret (hret .ret (.inr rfl) _ _ _ (res1 rfl rfl) ?_);exact⟨_,aj,rfl,hf,ak,ad,hm0⟩
end DskF
end Go.Proofs.YtdliddjkacbggaaGreatDoor
