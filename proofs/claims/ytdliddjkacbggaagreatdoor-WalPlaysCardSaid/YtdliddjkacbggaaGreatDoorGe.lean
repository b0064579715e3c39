/-
  Contracts of functions of the program, and plain laws: put together of several texts.
-/
import Derived.Test.YtdliddjkacbggaaGreatDoorGd
import Derived.Test.YtdliddjkacbggaaGreatDoorGa
import Derived.SizedLaws
set_option linter.unusedVariables false
set_option linter.unusedSimpArgs false
set_option linter.unusedSectionVars false
set_option linter.defProp false
set_option maxHeartbeats 8000000
set_option maxRecDepth 20000
namespace Go.Proofs.YtdliddjkacbggaaGreatDoor

namespace DskG
open E Go.RowKit SimA SimB SimC SimD SimE SimF SimG SimH SimI SimJ SimK SimL SimM SimN SimP SimQ SimR SimX DskA DskB DskC DskD DskE DskF
set_option maxRecDepth 100000 in
theorem inf34:Inf Tryz.prog 34 5 1 1:=⟨Tryz.underlying34,_,_,rfl,rfl,rfl,rfl,rfl⟩
theorem pk_wi{picks:List Int}{n m:Nat}(hn:n<picks.length):pickN picks n m=wiN picks[n] m:=by
 unfold pickN wiN;rw[if_pos hn,List.getD_eq_getElem?_getD,List.getElem?_eq_getElem hn,Option.getD_some]
theorem part_nil{w:Wr}{b:List UInt8}{k:Nat}(h:w.d.length=0):w.part b k=(if w.b=true then b else[]):=by
 unfold Wr.part Wr.on;rw[if_pos (.inr h),List.eq_nil_of_length_eq_zero h];simp
theorem part_lt{w:Wr}{b:List UInt8}{k:Nat}(h:k<w.d.length):w.part b k=(if w.b=true then b else[])++w.d.take (k+1):=by
 unfold Wr.part Wr.on;rw[if_pos (.inl h),Nat.min_eq_left (by omega)]
theorem part_ge{w:Wr}{b:List UInt8}{k:Nat}(h:¬k<w.d.length)(h0:¬w.d.length=0):w.part b k=(if w.b=true then b else[])++w.d.take (k-w.d.length)++List.replicate (2*w.d.length-k) 0:=by
 unfold Wr.part Wr.on;rw[if_neg (fun e=>e.elim h h0),show w.d.length-(k-w.d.length)=2*w.d.length-k by omega]
theorem ow_eq{α:Type}{k:Nat}{e:TypeId}{H:Heap}{f:α→List Value}{sz:Nat}{v:Value}{l m:List α}(h:Ow k e H f sz v l)(q:l=m):Ow k e H f sz v m:=q▸h
section
variable {H : Heap} {D : Dk} {k b kn n : Nat} {K : List Nat} {g : Rg}
theorem fzq{α:Type}{f:α→List Value}{sz:Nat}{v:Value}{m:List α}(h:RDk K g H b D)(hl:Qr k H f sz v m)(hk:∀c,c+1=k→g.ρ c= .frz∨g.ρ c= .out):RDk (k::K) {g with ρ:=uprk g.ρ k .frz} H b D:=by
 have hx:Ext g.ρ (uprk g.ρ k .frz):=Ext.uprk (fun c e=>(hk c e).symm);have s:Mo (fun _=>False) H H:=Mo.refl _ _
 exact{h with
  hK:=hK_uprk h.hK (by simp),lt:=lt_uprk h.lt (Nat.le_refl _) hl.le,rb:=hx.of h.rb (by simp)
  hd:=rd_frz h.hd hx s (fun c e=>e.elim)
  dirs:=fun p db e=>by
   obtain⟨nv,sv,bv,k,bl,hd⟩:=h.dirs p db e;exact⟨nv,sv,bv,k,bl,hd.tr hx s (fun c hc=>hc.elim) rfl rfl rfl⟩
  fil:=fun i hi=>by
   obtain⟨nv,sv,wv,k,l,hf⟩:=h.fil i hi;exact⟨nv,sv,wv,k,l,hf.tr hx s (fun c hc=>hc.elim)⟩}
theorem fr9(hlt0:∀c,g.ρ c≠ .out→c<n)(hb:∀c,c+1=kn→g.ρ c= .frz∨n≤c):∀c,c+1=kn→g.ρ c= .frz∨g.ρ c= .out:=
 fun c e=>(hb c e).imp id (fun h=>Classical.byContradiction (fun q=>by have:=hlt0 c q;omega))
theorem nx9(h:RDk K g H b D)(hb:∀c,c+1=kn→g.ρ c= .frz∨n≤c):NxK K n (kn::K):=NxK.consE (NxK.refl _ _) (by
 rcases Nat.eq_zero_or_pos kn with e|e
 ·exact .inl e
 ·rcases hb (kn-1) (by omega)with h2|h2
  ·have:=h.mem h2 (by simp)
   rw[show kn-1+1=kn by omega]at this;exact .inr (.inl this)
  ·exact .inr (.inr (by omega)))
end
theorem rnext_ct(n:Nat)(pv:SV)(picks:List Int)(m:Nat)(w0:World)(H0:Heap)
 (hpk:RdT H0 fI 1 pv.v picks) (hm:0<m∧m≤4611686018427387904) (hpw:∀x∈picks,-9223372036854775808≤x∧x≤9223372036854775807):
 Ct Tryz.prog w0 56 #[pv.v,.int .i64 (n:Int),.int .i64 (m:Int)] H0 (fun r H2=>r= .int .i64 ((pickN picks n m:Nat):Int)∧Nw H0 H2):=by
 refine Ct.enter (args:=[pv.v,.int .i64 (n:Int),.int .i64 (m:Int)]) Tryz.func56 rfl rfl rfl ?_;intro Q0 hret;have hm0:Nw H0 H0:=Mo.refl _ _;replace hpk:=hpk.bnd;have hpl:=hpk.len;refine CW.sr (fun ac=>?_);refine LR.an ?_;refine ac _ _ (CW.s2 (fun ae af=>CW.sr (fun ag=>?_)));refine LR.m1 ?_;refine LR.m1 ?_;refine LR.v1 (Y.len hpk rfl u'39 rfl) ?_;refine LR.v1 (Y.geq rfl rfl rfl) (LR.nil (ag _ _ ?_));refine CW.condp rfl (fun ah=>?_) (fun ah=>?_)
 ·
  refine CW.sr (fun ai=>?_);refine LR.an ?_;refine ai _ _ ?_;refine CW.ret (af .ret nofun _ _ (hret .ret (.inr rfl) _ _ _ (res1 rfl rfl) ?_));exact⟨by rw[pickN_over (by omega)];rfl,hm0⟩
 ·
  have hnl:n<picks.length:=by omega
  have hxb:=hpw picks[n] (List.getElem_mem hnl);have aq:=Int.lt_tmod_of_pos picks[n] (show(0:Int)<m by omega);have ar:=Int.tmod_lt_of_pos picks[n] (show(0:Int)<m by omega);have hpw2:=pk_wi (m:=m) hnl;refine CW.skip (ae _ _ (CW.sr (fun aj=>?_)));refine LR.m1 ?_;refine LR.m1 ?_;refine LR.e1 (g:=fun ad=> .pointer (some ad)) (Y.iF hpk (n) rfl u'39 s'3 rfl rfl) fun ak aa=>?_;refine LR.v1 (Y.load1 aa.pt rfl a'3 rfl) ?_;refine LR.m1 ?_;refine LR.v1 (Y.rem rfl rfl rfl (by omega)) ?_;refine LR.an ?_;refine aj _ _ (CW.s1 (fun ab=>CW.sr (fun al=>?_)));refine LR.m1 ?_;refine LR.v1 (Y.lss rfl rfl rfl) (LR.nil (al _ _ ?_));refine CW.condp rfl (fun am=>?_) (fun am=>?_)
  ·
   refine CW.region ?_;refine LR.m1 ?_;refine LR.m1 ?_;refine LR.v1 (Y.addi rfl rfl rfl (by omega)) ?_;refine LR.an ?_;refine ab _ _ (CW.sr (fun ao=>?_));refine LR.m1 ?_;refine LR.an ?_;refine ao _ _ ?_;refine CW.ret (hret .ret (.inr rfl) _ _ _ (res1 rfl rfl) ?_);exact⟨by rw[hpw2,wiN_neg hm.1 (by omega)],hm0⟩
  ·
   refine CW.skip (ab _ _ (CW.sr (fun ap=>?_)));refine LR.m1 ?_;refine LR.an ?_;refine ap _ _ ?_;refine CW.ret (hret .ret (.inr rfl) _ _ _ (res1 rfl rfl) ?_);exact⟨by rw[hpw2,wiN_pos hm.1 (by omega)],hm0⟩
theorem rways_ct(K:List Nat)(g:Rg)(b:Nat)(D:Dk)(i:Nat)(w0:World)(H0:Heap)
 (hf:RDk K g H0 b D) (hi:i<D.fs.length) (hwl:(fget D.fs i).w.length≤549755813888) (hwd:∀y∈(fget D.fs i).w,y.d.length≤549755813888) (hwy:waysF (fget D.fs i).w≤2305843009213693952):
 Ct Tryz.prog w0 59 #[fvl g.fb i] H0 (fun r H2=>r= .int .i64 ((waysF (fget D.fs i).w:Nat):Int)∧Nw H0 H2):=by
 refine Ct.enter (args:=[fvl g.fb i]) Tryz.func59 rfl rfl rfl ?_;intro Q0 hret;have hm0:Nw H0 H0:=Mo.refl _ _;have ac:=hf.bk;have hlt0:∀c,g.ρ c≠ .out→c<H0.size:=hf.lt;obtain⟨nv,sv,wv,kw,lw,hfi⟩:=hf.fil i hi;have hlw:=hfi.lw;have hlwl:lw.length=(fget D.fs i).w.length:=by rw[←hlw,List.length_map]
 have hwys:=ways_sum lw;rw[hlw]at hwys;refine CW.sr (fun ag=>?_);have hdR:=hfi.hd;have hvf:=hfi.vf;have ab:=hvf.lt;have hw:=hfi.hw;have ad:=hw.le;refine LR.an ?_;refine ag _ _ (CW.sr (fun ah=>?_));refine LR.an ?_;refine ah _ _ (CW.s1 (fun ai=>CW.sr (fun aj=>?_)));refine LR.an ?_;refine aj _ _ (CW.block (fun _ _ ak _=>?_))
 refine CW.loop (fun(i1:(Nat))=>[(0,fvl g.fb i),(3,.int .i64 ((1+((lw.take i1).map (fun y=>y.1.ways)).sum:Nat):Int)),(4,.int .i64 (i1:Int))])
  (fun(i1:(Nat)) (H:Heap)=>(i1≤lw.length)∧Nw H0 H)
  (fun(i1:(Nat))=>lw.length-i1) 0 ⟨rfl,rfl,rfl,trivial⟩ ?_ ?_
 ·
  exact⟨(by omega),Mo.refl _ _⟩
 intro i1 aw al K6 am ao;obtain⟨hi1,aa⟩:=al;replace hdR:=fun y hy=>(hdR y hy).nw aa;replace hvf:=hvf.nw aa;replace hw:=hw.nw aa;replace hm0:=hm0.tr aa;have ax:=aa.size;refine CW.s2 (fun ap aq=>CW.sr (fun ar=>?_));refine LR.m1 ?_;refine LR.m1 ?_;refine LR.n1 ?_;refine LR.v1 (Y.FA hvf.pt rfl u'132 rfl s'130) ?_;refine LR.v1 (Y.load1 (hvf.pt.drop 2) rfl a'130 rfl) ?_;refine LR.v1 (Y.len hw.rd rfl u'130 rfl) ?_;refine LR.v1 (Y.lss rfl rfl rfl) (LR.nil (ar _ _ ?_));refine CW.condp rfl (fun au=>?_) (fun au=>?_)
 ·
  have hil:i1<lw.length:=by omega
  have hwt:=ways_take hil;have hwt2:=ways_le lw (i1+1);have hdl1:=hwd lw[i1].1 (by rw[←hlw];exact List.mem_map.2 ⟨_,List.getElem_mem hil,rfl⟩);refine CW.skip (ap _ _ (CW.s1 (fun av=>CW.block (fun _ ae _ _=>CW.region ?_))));refine LR.m1 ?_;refine LR.m1 ?_;refine LR.n1 ?_;refine LR.v1 (Y.FA hvf.pt rfl u'132 rfl s'130) ?_;refine LR.v1 (Y.load1 (hvf.pt.drop 2) rfl a'130 rfl) ?_;refine LR.m1 ?_;refine LR.v1 (Y.owAddr hw (i1) rfl u'130 s'162 rfl rfl (by first|rfl|omega) (by first|omega|(simp;omega)|(simp;done))) ?_;refine LR.v1 (Y.fieldAddr (hw.pt (j:=i1) (by first|omega|(simp;omega)|(simp;done))) rfl u'162 rfl rfl s'34 (by decide) rfl) ?_;refine LR.v1 (Y.load1 ((hw.pt (j:=i1) (by first|omega|(simp;omega)|(simp;done))).drop 1) rfl a'34 rfl) ?_;refine LR.v1 (Y.len (hdR lw[i1] (List.getElem_mem hil)) rfl u'34 rfl) ?_;refine LR.v1 (Y.cast (v2:= .int .i64 ((2*lw[i1].1.d.length:Nat):Int)) (Y.muli rfl rfl rfl (by omega)) (ivv (by omega))) ?_;refine LR.v1 (Y.cast (v2:= .int .i64 (lw[i1].1.ways:Int)) (Y.maxi rfl rfl rfl) (ivv (by unfold Wr.ways;omega))) ?_;refine LR.v1 (Y.cast (v2:= .int .i64 ((1+((lw.take (i1+1)).map (fun y=>y.1.ways)).sum:Nat):Int)) (Y.addi rfl rfl rfl (by omega)) (ivv (by omega))) ?_;refine LR.an ?_;refine ae _ _ (av _ _ (CW.region ?_));refine LR.m1 ?_;refine LR.v1 (Y.addi rfl rfl rfl (by omega)) ?_;refine LR.an ?_;refine QN.sub (am (i1+1) _ ?_ ?_) ⟨rfl,(iv (by omega)),(iv (by omega)),trivial⟩
  ·exact⟨(by omega),aa⟩
  ·first|omega|(simp only;omega)|(simp;omega)
 ·
  obtain rfl:i1=lw.length:=by omega
  refine CW.exit (aq (.exit 0) nofun _ _ (ao (.exit 0) nofun _ _ (ak _ _ ?_)));refine ai _ _ (CW.sr (fun af=>?_));refine LR.m1 ?_;have hdR:=hfi.hd;have hvf:=hfi.vf;have hw:=hfi.hw;refine LR.an ?_;refine af _ _ ?_;refine CW.ret (hret .ret (.inr rfl) _ _ _ (res1 rfl rfl) ?_);exact⟨by rw[hwys,List.take_length],hm0⟩
theorem rway_ct(K:List Nat)(g:Rg)(b:Nat)(D:Dk)(i k0:Nat)(w0:World)(H0:Heap)
 (hf:RDk K g H0 b D) (hi:i<D.fs.length) (hk0:k0≤4611686018427387904) (hwl:(fget D.fs i).w.length≤549755813888) (hwd:∀y∈(fget D.fs i).w,y.d.length≤549755813888) (hpf:∀j,(onAll ((fget D.fs i).w.take j) (fget D.fs i).stays).length≤549755813888):
 Ct Tryz.prog w0 58 #[fvl g.fb i,.int .i64 (k0:Int)] H0 (fun r H2=>∃K2:List Nat,∃g2:Rg,∃s:SV,r=s.v∧(RDk K2 g2 H2 b (D))∧(NxK K H0.size K2)∧(Rd (fun c=>g2.ρ c= .frz) H2 fB 1 s.v (wayW (fget D.fs i).w (fget D.fs i).stays k0))∧(g2.fb=g.fb∧g2.dm=g.dm)∧Mo (Ms K) H0 H2):=by
 refine Ct.enter (args:=[fvl g.fb i,.int .i64 (k0:Int)]) Tryz.func58 rfl rfl rfl ?_;intro Q0 hret;have hm0:Mo (Ms K) H0 H0:=Mo.refl _ _;have bc:=hf.bk;have hlt0:∀c,g.ρ c≠ .out→c<H0.size:=hf.lt;obtain⟨nv,sv,wv,kw,lw,hfi⟩:=hf.fil i hi;have hlw:=hfi.lw;have hlwl:lw.length=(fget D.fs i).w.length:=by rw[←hlw,List.length_map]
 obtain⟨kq,hq,hqF⟩:=rd_q hfi.hs;obtain⟨T,hT⟩:∃T,T=wayW (fget D.fs i).w (fget D.fs i).stays k0:=⟨_,rfl⟩;refine CW.sr (fun b9=>?_);refine LR.an ?_;refine b9 _ _ (CW.seq (fun K2 b_ _=>CW.region ?_));have hdR:=hfi.hd;have ae:BF (fun c=>g.ρ c= .frz) H0.size:=hf.bfz;have hvf:=hfi.vf;have ba:=hvf.lt;have hw:=hfi.hw;have bd:=hw.le;have hb:=hq;have aE:=hb.le;refine LR.m1 ?_;refine LR.n1 ?_;refine LR.v1 (Y.FA hvf.pt rfl u'132 rfl s'34) ?_;refine LR.v1 (Y.load1 (hvf.pt.drop 1) rfl a'34 rfl) ?_;refine LR.an ?_;refine b_ _ _ (CW.s2 (fun ca cb=>CW.sr (fun cc=>?_)));refine LR.m1 ?_;refine LR.v1 (Y.eql rfl rfl rfl) (LR.nil (cc _ _ ?_));refine CW.condp rfl (fun cd=>?_) (fun cd=>?_)
 ·
  refine CW.sr (fun ce=>?_);refine LR.m1 ?_;refine LR.an ?_;refine ce _ _ ?_;refine CW.ret (cb .ret nofun _ _ (hret .ret (.inr rfl) _ _ _ (res1 rfl rfl) ?_));have hTe:T=(fget D.fs i).stays:=by rw[hT,show k0=0 by omega,wayW_0]
  exact⟨(kq::K),{g with ρ:=uprk g.ρ (kq) .frz},sv,rfl,fzq hf ((by rw[hTe];exact hb:Qr kq _ fB 1 sv.v T)) (fr9 hlt0 (fun c e=> .inl (hqF c e))),nx9 hf (fun c e=> .inl (hqF c e)),by rw[←hT];exact((by rw[hTe];exact hb:Qr kq _ fB 1 sv.v T)).rd.imp (fun c _ e=>uprk_self e),⟨rfl,rfl⟩,hm0⟩
 ·
  refine CW.skip (ca _ _ (CW.sr (fun cf=>?_)));refine LR.m1 ?_;refine LR.v1 (Y.cast (v2:= .int .i64 ((k0-1:Nat):Int)) (Y.subi rfl rfl rfl (by omega)) (ivv (by omega))) ?_;refine LR.an ?_;refine cf _ _ (CW.s2 (fun cg be=>CW.sr (fun ch=>?_)));refine LR.an ?_;refine ch _ _ (CW.block (fun _ _ ci bf=>?_))
  refine CW.loop (fun(s_:(Nat)×(Nat)×(SV)×(Nat)×(List UInt8))=>match s_ with|(i2,k,s8,kb,bl)=>[(0,fvl g.fb i),(1,.int .i64 (k:Int)),(5,s8.v),(6,.int .i64 (i2:Int))])
   (fun(i2,k,s8,kb,bl) (H:Heap)=>(i2≤lw.length)∧(Qr kb H fB 1 s8.v bl)∧(∀c,c+1=kb→g.ρ c= .frz∨H0.size≤c)∧(bl=onAll ((fget D.fs i).w.take i2) (fget D.fs i).stays)∧(wayW ((fget D.fs i).w.drop i2) bl (k+1)=T)∧(k≤k0)∧(Nx kq H0.size kb)∧Nw H0 H)
   (fun(i2,k,s8,kb,bl)=>lw.length-i2) (0,k0-1,sv,kq,(fget D.fs i).stays) ⟨rfl,rfl,rfl,rfl,trivial⟩ ?_ ?_
  ·
   exact⟨(by omega),hb,fun c e=> .inl (hqF c e),rfl,by rw[show k0-1+1=k0 by omega];exact hT.symm,by omega,Nx.refl _ _,Mo.refl _ _⟩
  rintro⟨i2,k,s8,kb,bl⟩ aC cj cK bg az;obtain⟨hi2,hb,hbF,hbl,hwk,hkl,bh,ac⟩:=cj;replace hf:=hf.nw ac;replace hdR:=fun y hy=>(hdR y hy).nw ac;replace hvf:=hvf.nw ac;replace hw:=hw.nw ac;replace hm0:=hm0.trN ac;have cL:=ac.size;have aE:=hb.le;have hble:=hpf i2;rw[←hbl]at hble;refine CW.s2 (fun bi bj=>CW.sr (fun bm=>?_));refine LR.m1 ?_;refine LR.m1 ?_;refine LR.n1 ?_;refine LR.v1 (Y.FA hvf.pt rfl u'132 rfl s'130) ?_;refine LR.v1 (Y.load1 (hvf.pt.drop 2) rfl a'130 rfl) ?_;refine LR.v1 (Y.len hw.rd rfl u'130 rfl) ?_;refine LR.v1 (Y.lss rfl rfl rfl) (LR.nil (bm _ _ ?_));refine CW.condp rfl (fun ck=>?_) (fun ck=>?_)
  ·
   have hi2l:i2<lw.length:=by omega
   have hi2w:i2<(fget D.fs i).w.length:=by omega
   have hgw:(fget D.fs i).w[i2]=lw[i2].1:=by simp only[←hlw,List.getElem_map]
   have hdl2:=hwd lw[i2].1 (by rw[←hlw];exact List.mem_map.2 ⟨_,List.getElem_mem hi2l,rfl⟩);refine CW.skip (bi _ _ (CW.s2 (fun bn aF=>CW.block (fun _ bo _ aG=>CW.sr (fun bp=>?_)))));refine LR.m1 ?_;refine LR.n1 ?_;refine LR.v1 (Y.FA hvf.pt rfl u'132 rfl s'130) ?_;refine LR.v1 (Y.load1 (hvf.pt.drop 2) rfl a'130 rfl) ?_;refine LR.m1 ?_;refine LR.v1 (Y.owAddr hw (i2) rfl u'130 s'162 rfl rfl (by first|rfl|omega) (by first|omega|(simp;omega)|(simp;done))) ?_;refine LR.v1 (Y.loadN (hw.pt (j:=i2) (by first|omega|(simp;omega)|(simp;done))) rfl a'162 s'162 (fPu_len _) rfl) ?_;refine LR.z1 (Z.allocv rfl z'162) ?_;rintro v7 H7 ⟨rfl,v7,aT,cM,cl⟩;have cm:H7.size=aC.size+1:=by rw[cl];simp
   have cn:DL (aC.size+1) K:=DL.newK hf.bk;have co:=(DF.new (ae.mono (by omega)):DF _ (aC.size+1));have cp:Dj kb (aC.size+1):=Dj.new hb.le;have cq:Nx 0 H0.size (aC.size+1):=Nx.new hm0.size;have cr:Nx 0 H0.size (aC.size+1):=Nx.new ac.size;replace hf:=hf.nw aT;replace hdR:=fun y hy=>(hdR y hy).nw aT;replace hb:=hb.nw aT;replace hm0:=hm0.trN aT;replace ac:=ac.tr aT;have cN:=aT.size;refine LR.s1 (S.var v7 (_) (fPu lw[i2]) rfl rfl rfl rfl (fPu_one lw[i2]) s'162 (fPu_len _) (by decide) ((splice_all2 (fPu_len _).symm))) fun aH bq=>?_;obtain⟨v7,af⟩:=bq;replace af:=af.md1;replace hf:=hf.upL af (DKL.cons cn DKL.nil);replace hdR:=fun y hy=>(hdR y hy).upL af (DFL.o co);replace hb:=hb.upL af (DL.o cp);replace hm0:=hm0.trL af (MIL.o (MI.q cq));replace ac:=ac.tq af (MIL.o (MI.q cr));have cO:=af.size;refine LR.nil (bp _ _ (CW.sr (fun br=>?_)));refine LR.v1 (Y.FA v7.pt rfl u'162 rfl s'34) ?_;refine LR.v1 (Y.load1 (v7.pt.drop 1) rfl a'34 rfl) ?_;refine LR.v1 (Y.len (hdR lw[i2] (List.getElem_mem hi2l)) rfl u'34 rfl) ?_;refine LR.an ?_;refine br _ _ (CW.sr (fun bs=>?_));refine LR.an ?_;refine bs _ _ ?_
   refine CW.cut (fun(s_:(SV)×(List UInt8)×(Nat→Prop))=>match s_ with|(sz,pz,Gz)=>[(0,fvl g.fb i),(1,.int .i64 (k:Int)),(6,.int .i64 (i2:Int)),(7,.pointer (some ⟨aC.size,0,none⟩)),(8,.int .i64 (lw[i2].1.d.length:Int)),(9,sz.v)])
    (fun(sz,pz,Gz) (H:Heap)=>(∀u:Unit,Rd Gz H fB 1 sz.v pz)∧(BF Gz H.size)∧((lw[i2].1.b=true∧pz=bl)∨(lw[i2].1.b=false∧pz=[]))∧(pz.length≤bl.length)∧Nw aH H) (fun _ aX _=>?_) ?_
   ·
    have aD:Nw aH aH:=Mo.refl _ _;refine CW.sr (fun bt=>?_);refine LR.v1 (Y.FA v7.pt rfl u'162 rfl s'4) ?_;refine LR.v1 (Y.load1 v7.pt rfl a'4 rfl) ?_;refine LR.v1 (Y.not rfl rfl) (LR.nil (bt _ _ ?_));refine CW.cond rfl (fun bu=>?_) (fun bu=>?_)
    ·
     have hb1:lw[i2].1.b=true:=by simpa using bu
     refine CW.region ?_;refine LR.m1 ?_;refine LR.an ?_;refine QN.sub (aX (s8,bl,fun c=>c+1=kb) _ ?_) ⟨rfl,(iv (by omega)),(iv (by omega)),rfl,(iv (by omega)),rfl,trivial⟩;exact⟨(fun _=>hb.rd),(BF.of hb.le),.inl ⟨hb1,rfl⟩,Nat.le_refl _,aD⟩
    ·
     have hb1:lw[i2].1.b=false:=by simpa using bu
     refine CW.skip ?_;refine QN.sub (aX (⟨none,0,0⟩,[],fun _=>False) _ ?_) ⟨rfl,(iv (by omega)),(iv (by omega)),rfl,(iv (by omega)),rfl,trivial⟩;exact⟨(fun _=>Rd.nil _ _ _ _),nofun,.inr ⟨hb1,rfl⟩,Nat.zero_le _,aD⟩
   ·
    rintro⟨sz,pz,Gz⟩ aa ax;obtain⟨hz,ag,hpz,hpzl,ab⟩:=ax;replace hf:=hf.nw ab;replace hdR:=fun y hy=>(hdR y hy).nw ab;replace v7:=v7.nw ab;replace hm0:=hm0.trN ab;replace ac:=ac.tr ab;have cP:=ab.size;refine CW.s2 (fun bv aI=>CW.sr (fun bw=>?_));refine LR.m1 ?_;refine LR.m1 ?_;refine LR.v1 (Y.cast (v2:= .int .i64 ((2*lw[i2].1.d.length:Nat):Int)) (Y.muli rfl rfl rfl (by omega)) (ivv (by omega))) ?_;refine LR.v1 (Y.cast (v2:= .int .i64 (lw[i2].1.ways:Int)) (Y.maxi rfl rfl rfl) (ivv (by unfold Wr.ways;omega))) ?_;refine LR.v1 (Y.lss rfl rfl rfl) (LR.nil (bw _ _ ?_));refine CW.condp rfl (fun cs=>?_) (fun cs=>?_)
    ·
     refine CW.sr (fun bx=>?_);refine LR.z1 (Z.litw _ (([]:List UInt8)) rfl inf34 rfl rfl rfl (by decide) (by decide) fB_len fB_one (rfl)) fun cQ bZ ct=>?_;obtain⟨ox,aq,cu,bz⟩:=ct;have b0:bZ.size=aa.size+1:=by rw[bz];simp
     have b1:DL (aa.size+1) K:=DL.newK hf.bk;have aY:=(DF.new (ae.mono (by omega)):DF _ (aa.size+1));have bA:Dj (aC.size+1) (aa.size+1):=Dj.new v7.lt;have aZ:=(DF.new (ag.mono (by omega)):DF _ (aa.size+1));have a0:Nx 0 H0.size (aa.size+1):=Nx.new hm0.size;replace hf:=hf.nw aq;replace hdR:=fun y hy=>(hdR y hy).nw aq;replace v7:=v7.nw aq;replace hz:=fun u=>(hz u).nw aq;replace hm0:=hm0.trN aq;have cR:=aq.size;refine LR.m1 ?_;refine LR.z1 (Z.apnd ox (hz ()) rfl inf34 rfl rfl (by simp<;>omega) (by simp<;>omega)) fun b2 b3 cv=>?_;obtain⟨aA,ox,ar,ah⟩:=cv;replace ar:Nx (aa.size+1) bZ.size aA:=ar;replace ah:=ah.md;have aJ:DL aA K:=DL.app2 (b1) hf.bk ar;have aK:=DF.app (aY) (ae.mono (by omega)) ar;have aL:=DF.app (aZ) (ag.mono (by omega)) ar;have au:Nx 0 H0.size aA:=Nx.tr (a0) ar hm0.size;replace hf:=hf.upL ah (DKL.cons b1 DKL.nil);replace hdR:=fun y hy=>(hdR y hy).upL ah (DFL.o aY);replace v7:=v7.upL ah (DL.o bA);replace hz:=fun u=>(hz u).upL ah (DFL.o aZ);replace hm0:=hm0.trL ah (MIL.o (MI.q a0));have cS:=ah.size;have aj:=ox.le;obtain⟨bB,rfl⟩:∃s:SV,b2=s.v:=⟨toSV b2,ox.sv.symm⟩;refine LR.an ?_;refine bx _ _ (CW.s1 (fun aM=>CW.block (fun _ aN _ _=>CW.sr (fun bC=>?_))));refine LR.m1 ?_;refine LR.v1 (Y.eql rfl rfl rfl) ?_;refine LR.an ?_;refine bC _ _ ?_;refine CW.condp rfl (fun cw=>?_) (fun cw=>?_)
     ·
      refine CW.skip (aN _ _ (aM _ _ (CW.sr (fun bD=>?_))));refine LR.m1 ?_;refine LR.an ?_;refine bD _ _ ?_;refine CW.ret (aI .ret nofun _ _ (aG .ret nofun (by simp) _ _ (aF .ret nofun _ _ (az .ret nofun _ _ (bf .ret nofun (by simp) _ _ (be .ret nofun _ _ (hret .ret (.inr rfl) _ _ _ (res1 rfl rfl) ?_)))))));have hTe:T=lw[i2].1.part bl k:=by rw[←hwk,wayW_drop hi2w,if_neg (by omega),if_pos (by simp only[hgw];omega),Nat.add_sub_cancel];simp only[hgw]
      exact⟨(aA::K),{g with ρ:=uprk g.ρ (aA) .frz},bB,rfl,fzq hf ((ow_eq ox (by rw[hTe,part_nil (by omega)];(rcases hpz with⟨hb1,e9⟩|⟨hb1,e9⟩<;>rw[e9]<;>simp[hb1])):Ow (aA) 5 _ fB 1 bB.v T).q) (fr9 hlt0 (fun c e=> .inr (by have q9:=(au);unfold Nx at q9;omega))),nx9 hf (fun c e=> .inr (by have q9:=(au);unfold Nx at q9;omega)),by rw[←hT];exact((ow_eq ox (by rw[hTe,part_nil (by omega)];(rcases hpz with⟨hb1,e9⟩|⟨hb1,e9⟩<;>rw[e9]<;>simp[hb1])):Ow (aA) 5 _ fB 1 bB.v T).q).rd.imp (fun c _ e=>uprk_self e),⟨rfl,rfl⟩,hm0⟩
     ·
      refine CW.sr (fun bE=>?_);refine LR.m1 ?_;refine LR.m1 ?_;refine LR.v1 (Y.lss rfl rfl rfl) ?_;refine LR.an ?_;refine bE _ _ ?_;refine CW.condp rfl (fun cx=>?_) (fun cx=>?_)
      ·
       refine CW.region ?_;refine LR.m1 ?_;refine LR.v1 (Y.FA v7.pt rfl u'162 rfl s'34) ?_;refine LR.v1 (Y.load1 (v7.pt.drop 1) rfl a'34 rfl) ?_;refine LR.m1 ?_;refine LR.v1 (Y.cast (v2:= .int .i64 ((k+1:Nat):Int)) (Y.addi rfl rfl rfl (by omega)) (ivv (by omega))) ?_;refine LR.e1 (g:=fun v=>v) (Y.slice (hdR lw[i2] (List.getElem_mem hi2l)) (0) (k+1) rfl u'34 s'5 rfl (.inl ⟨rfl,rfl⟩) (.inr ⟨_,_,_,rfl,rfl,by first|rfl|omega⟩) (by omega) (by omega)) fun cT rd77=>?_;refine LR.z1 (Z.apnd ox rd77 rfl inf34 rfl rfl (by simp<;>omega) (by simp<;>omega)) fun b4 cU cy=>?_;obtain⟨aU,ox,aO,ak⟩:=cy;replace aO:Nx aA b3.size aU:=aO;replace ak:=ak.md;have a1:Nx 0 H0.size aU:=Nx.tr (au) aO hm0.size;replace hf:=hf.upL ak (DKL.cons aJ DKL.nil);replace hdR:=fun y hy=>(hdR y hy).upL ak (DFL.o aK);replace hz:=fun u=>(hz u).upL ak (DFL.o aL);replace hm0:=hm0.trL ak (MIL.o (MI.q au));have cV:=ak.size;have aj:=ox.le;obtain⟨bF,rfl⟩:∃s:SV,b4=s.v:=⟨toSV b4,ox.sv.symm⟩;refine LR.an ?_;refine aN _ _ (aM _ _ (CW.sr (fun bG=>?_)));refine LR.m1 ?_;refine LR.an ?_;refine bG _ _ ?_;refine CW.ret (aI .ret nofun _ _ (aG .ret nofun (by simp) _ _ (aF .ret nofun _ _ (az .ret nofun _ _ (bf .ret nofun (by simp) _ _ (be .ret nofun _ _ (hret .ret (.inr rfl) _ _ _ (res1 rfl rfl) ?_)))))));have hTe:T=lw[i2].1.part bl k:=by rw[←hwk,wayW_drop hi2w,if_neg (by omega),if_pos (by simp only[hgw];omega),Nat.add_sub_cancel];simp only[hgw]
       exact⟨(aU::K),{g with ρ:=uprk g.ρ (aU) .frz},bF,rfl,fzq hf ((ow_eq ox (by rw[hTe,part_lt (by omega)];(rcases hpz with⟨hb1,e9⟩|⟨hb1,e9⟩<;>rw[e9]<;>simp[hb1])):Ow (aU) 5 _ fB 1 bF.v T).q) (fr9 hlt0 (fun c e=> .inr (by have q9:=(a1);unfold Nx at q9;omega))),nx9 hf (fun c e=> .inr (by have q9:=(a1);unfold Nx at q9;omega)),by rw[←hT];exact((ow_eq ox (by rw[hTe,part_lt (by omega)];(rcases hpz with⟨hb1,e9⟩|⟨hb1,e9⟩<;>rw[e9]<;>simp[hb1])):Ow (aU) 5 _ fB 1 bF.v T).q).rd.imp (fun c _ e=>uprk_self e),⟨rfl,rfl⟩,hm0⟩
      ·
       refine CW.sr (fun bH=>?_);refine LR.m1 ?_;refine LR.v1 (Y.FA v7.pt rfl u'162 rfl s'34) ?_;refine LR.v1 (Y.load1 (v7.pt.drop 1) rfl a'34 rfl) ?_;refine LR.m1 ?_;refine LR.m1 ?_;refine LR.v1 (Y.cast (v2:= .int .i64 ((k-lw[i2].1.d.length:Nat):Int)) (Y.subi rfl rfl rfl (by omega)) (ivv (by omega))) ?_;refine LR.e1 (g:=fun v=>v) (Y.slice (hdR lw[i2] (List.getElem_mem hi2l)) (0) (k-lw[i2].1.d.length) rfl u'34 s'5 rfl (.inl ⟨rfl,rfl⟩) (.inr ⟨_,_,_,rfl,rfl,by first|rfl|omega⟩) (by omega) (by unfold Wr.ways at*;omega)) fun cW rd57=>?_;refine LR.z1 (Z.apnd ox rd57 rfl inf34 rfl rfl (by simp<;>omega) (by simp<;>omega)) fun b5 cz cA=>?_;obtain⟨bb,ox,av,al⟩:=cA;replace av:Nx aA b3.size bb:=av;replace al:=al.md;have bI:DL bb K:=DL.app2 (aJ) hf.bk av;have bJ:=DF.app (aK) (ae.mono (by omega)) av;have bK:=DF.app (aL) (ag.mono (by omega)) av;have a2:Nx 0 H0.size bb:=Nx.tr (au) av hm0.size;replace hf:=hf.upL al (DKL.cons aJ DKL.nil);replace hdR:=fun y hy=>(hdR y hy).upL al (DFL.o aK);replace hz:=fun u=>(hz u).upL al (DFL.o aL);replace hm0:=hm0.trL al (MIL.o (MI.q au));have cX:=al.size;have aj:=ox.le;obtain⟨cY,rfl⟩:∃s:SV,b5=s.v:=⟨toSV b5,ox.sv.symm⟩;refine LR.an ?_;refine bH _ _ (CW.region ?_);refine LR.m1 ?_;refine LR.m1 ?_;refine LR.v1 (Y.cast (v2:= .int .i64 ((2*lw[i2].1.d.length:Nat):Int)) (Y.muli rfl rfl rfl (by omega)) (ivv (by omega))) ?_;refine LR.m1 ?_;refine LR.v1 (Y.cast (v2:= .int .i64 ((2*lw[i2].1.d.length-k:Nat):Int)) (Y.subi rfl rfl rfl (by omega)) (ivv (by unfold Wr.ways at*;omega))) ?_;refine LR.z1 (Z.apz (m:=2*lw[i2].1.d.length-k) ox (0:UInt8) rfl inf34 Tryz.underlying3 z'5 rfl (by decide) rfl rfl (by first|omega|(simp;omega)) (by first|omega|(simp;omega))) fun b6 cZ cB=>?_;obtain⟨aV,ox,aP,am⟩:=cB;replace aP:Nx bb cz.size aV:=aP;replace am:=am.md;have a3:Nx 0 H0.size aV:=Nx.tr (a2) aP hm0.size;replace hf:=hf.upL am (DKL.cons bI DKL.nil);replace hdR:=fun y hy=>(hdR y hy).upL am (DFL.o bJ);replace hz:=fun u=>(hz u).upL am (DFL.o bK);replace hm0:=hm0.trL am (MIL.o (MI.q a2));have c0:=am.size;have aj:=ox.le;obtain⟨bL,rfl⟩:∃s:SV,b6=s.v:=⟨toSV b6,ox.sv.symm⟩;refine LR.an ?_;refine aN _ _ (aM _ _ (CW.sr (fun bM=>?_)));refine LR.m1 ?_;refine LR.an ?_;refine bM _ _ ?_;refine CW.ret (aI .ret nofun _ _ (aG .ret nofun (by simp) _ _ (aF .ret nofun _ _ (az .ret nofun _ _ (bf .ret nofun (by simp) _ _ (be .ret nofun _ _ (hret .ret (.inr rfl) _ _ _ (res1 rfl rfl) ?_)))))));have hTe:T=lw[i2].1.part bl k:=by rw[←hwk,wayW_drop hi2w,if_neg (by omega),if_pos (by simp only[hgw];omega),Nat.add_sub_cancel];simp only[hgw]
       exact⟨(aV::K),{g with ρ:=uprk g.ρ (aV) .frz},bL,rfl,fzq hf ((ow_eq ox (by rw[hTe,part_ge (by omega) (by omega)];(rcases hpz with⟨hb1,e9⟩|⟨hb1,e9⟩<;>rw[e9]<;>simp[hb1])):Ow (aV) 5 _ fB 1 bL.v T).q) (fr9 hlt0 (fun c e=> .inr (by have q9:=(a3);unfold Nx at q9;omega))),nx9 hf (fun c e=> .inr (by have q9:=(a3);unfold Nx at q9;omega)),by rw[←hT];exact((ow_eq ox (by rw[hTe,part_ge (by omega) (by omega)];(rcases hpz with⟨hb1,e9⟩|⟨hb1,e9⟩<;>rw[e9]<;>simp[hb1])):Ow (aV) 5 _ fB 1 bL.v T).q).rd.imp (fun c _ e=>uprk_self e),⟨rfl,rfl⟩,hm0⟩
    ·
     refine CW.skip (bv _ _ (CW.sr (fun bN=>?_)));refine LR.m1 ?_;refine LR.m1 ?_;refine LR.v1 (Y.cast (v2:= .int .i64 ((2*lw[i2].1.d.length:Nat):Int)) (Y.muli rfl rfl rfl (by omega)) (ivv (by omega))) ?_;refine LR.v1 (Y.cast (v2:= .int .i64 (lw[i2].1.ways:Int)) (Y.maxi rfl rfl rfl) (ivv (by unfold Wr.ways;omega))) ?_;refine LR.v1 (Y.cast (v2:= .int .i64 ((k-lw[i2].1.ways:Nat):Int)) (Y.subi rfl rfl rfl (by omega)) (ivv (by omega))) ?_;refine LR.an ?_;refine bN _ _ ?_;refine CW.region_any (fun Hq=>Nw aa Hq) [] rfl ?_;have ad:Nw aa aa:=Mo.refl _ _;refine LH.m1 1 rfl ad ?_;refine LH.t1 3 rfl (fun Hq hq=>Y.FA (v7.pt.nw hq) rfl u'162 rfl s'34) ad ?_;refine LH.t1 4 rfl (fun Hq hq=>Y.load1 ((v7.pt.drop 1).nw hq) rfl a'34 rfl) ad ?_;refine LH.o1 0 ?_;refine LO.z rfl (Z.litw _ (([]:List UInt8)) rfl inf34 rfl rfl rfl (by decide) (by decide) fB_len fB_one (rfl)) (Wd.u rfl) rfl rfl (fun c1 aQ cC=>?_);obtain⟨oz,aw,cD,bO⟩:=cC;have b7:aQ.size=aa.size+1:=by rw[bO];simp
     have a4:=(DF.new (ae.mono (by omega)):DF _ (aa.size+1));have a5:=(DF.new (ag.mono (by omega)):DF _ (aa.size+1));have a6:Nx 0 H0.size (aa.size+1):=Nx.new hm0.size;have a7:Nx 0 H0.size (aa.size+1):=Nx.new ac.size;have bP:Nx 0 aa.size (aa.size+1):=Nx.new ad.size;replace hdR:=fun y hy=>(hdR y hy).nw aw;replace hz:=fun u=>(hz u).nw aw;replace hm0:=hm0.trN aw;replace ac:=ac.tr aw;replace ad:=ad.tr aw;have cE:=aw.size;refine⟨.inr ad,LH.narrow (SH2:=fun Hq=>Mo (Ms [(aa.size+1)]) aQ Hq) (fun Hq hq=>(Mo.trL (ks:=[]) (ad.mdn []) hq (MIL.o (MI.q bP))).nil) ?_⟩;have ad:Mo (Ms [(aa.size+1)]) aQ aQ:=Mo.refl _ _;have a8:=Nx.refl (aa.size+1) aQ.size;refine LH.o1 2 ?_;refine LO.z rfl (Z.apnd oz (hz ()) rfl inf34 rfl rfl (by simp<;>omega) (by simp<;>omega)) (Wd.u rfl) rfl rfl (fun c2 aW cF=>?_);obtain⟨aB,oz,ao,ai⟩:=cF;replace ao:Nx (aa.size+1) aQ.size aB:=ao;replace ai:=ai.md;have bQ:=DF.app (a4) (ae.mono (by omega)) ao;have bR:=DF.app (a5) (ag.mono (by omega)) ao;have bS:Nx 0 H0.size aB:=Nx.tr (a6) ao hm0.size;have a9:Nx 0 H0.size aB:=Nx.tr (a7) ao ac.size;have bT:Nx (aa.size+1) aQ.size aB:=Nx.tr (a8) ao ad.size;replace hdR:=fun y hy=>(hdR y hy).upL ai (DFL.o a4);replace hz:=fun u=>(hz u).upL ai (DFL.o a5);replace hm0:=hm0.trL ai (MIL.o (MI.q a6));replace ac:=ac.tq ai (MIL.o (MI.q a7));replace ad:=ad.trL ai (MIL.o (MI.r a8));have cG:=ai.size;have aR:=oz.le;refine⟨.inr ad,LH.narrow (SH2:=fun Hq=>Mo (Ms [aB]) aW Hq) (fun Hq hq=>ad.trL hq (MIL.o (MI.r bT))) ?_⟩;have ad:Mo (Ms [aB]) aW aW:=Mo.refl _ _;have a_:=Nx.refl aB aW.size;refine LH.o1 5 ?_;refine LO.z rfl (Z.apnd oz (hdR lw[i2] (List.getElem_mem hi2l)) rfl inf34 rfl rfl (by first|omega|(simp;omega)) (by first|omega|(simp;omega))) (Wd.u rfl) rfl rfl (fun b8 bU cH=>?_);obtain⟨aS,oz,ay,ap⟩:=cH;replace ay:Nx aB aW.size aS:=ay;replace ap:=ap.md;have bV:Nx 0 H0.size aS:=Nx.tr (bS) ay hm0.size;have bW:Nx 0 H0.size aS:=Nx.tr (a9) ay ac.size;have bX:Nx aB aW.size aS:=Nx.tr (a_) ay ad.size;replace hdR:=fun y hy=>(hdR y hy).upL ap (DFL.o bQ);replace hz:=fun u=>(hz u).upL ap (DFL.o bR);replace ac:=ac.tq ap (MIL.o (MI.q a9));replace ad:=ad.trL ap (MIL.o (MI.r a_));have cI:=ap.size;have aR:=oz.le;obtain⟨cJ,rfl⟩:∃s:SV,b8=s.v:=⟨toSV b8,oz.sv.symm⟩;refine⟨.inr ad,LH.narrow (SH2:=fun Hq=>Mo (Ms [aS]) bU Hq) (fun Hq hq=>ad.trL hq (MIL.o (MI.r bX))) ?_⟩;have ad:Mo (Ms [aS]) bU bU:=Mo.refl _ _;refine LH.t1 6 rfl (fun Hq hq=>Y.assign rfl rfl) ad ?_;refine LH.done (by kernel_rfl) ?_;refine bo _ _ (bn _ _ (CW.region ?_));refine LR.m1 ?_;refine LR.v1 (Y.addi rfl rfl rfl (by omega)) ?_;refine LR.an ?_;refine QN.sub (bg (i2+1,k-lw[i2].1.ways,cJ,aS,lw[i2].1.on bl lw[i2].1.d.length) _ ?_ ?_) ⟨rfl,(iv (by omega)),rfl,(iv (by omega)),trivial⟩
     ·exact⟨(by omega),(ow_eq oz (by rcases hpz with⟨hb1,e9⟩|⟨hb1,e9⟩<;>rw[e9]<;>simp[Wr.on,hb1])).q,fun c e=> .inr (by have q9:=(bV);unfold Nx at q9;omega),by rw[onAll_take hi2w,←hbl];simp only[hgw],by rw[←hwk,wayW_drop hi2w,if_neg (by omega),if_neg (by simp only[hgw];omega),show k+1-(fget D.fs i).w[i2].ways=k-lw[i2].1.ways+1 from by simp only[hgw];omega];simp only[hgw],(by omega),(Nx.z (bW)),ac⟩
     ·first|omega|(simp only;omega)|(simp;omega)
  ·
   refine CW.exit (bj (.exit 0) nofun _ _ (az (.exit 0) nofun _ _ (ci _ _ ?_)));refine cg _ _ (CW.sr (fun bY=>?_));refine LR.m1 ?_;refine LR.an ?_;refine bY _ _ ?_;refine CW.ret (hret .ret (.inr rfl) _ _ _ (res1 rfl rfl) ?_);have hTe:T=bl:=by rw[←hwk,List.drop_of_length_le (by omega)];rfl
   exact⟨(kb::K),{g with ρ:=uprk g.ρ (kb) .frz},s8,rfl,fzq hf ((by rw[hTe];exact hb:Qr kb _ fB 1 s8.v T)) (fr9 hlt0 hbF),nx9 hf hbF,by rw[←hT];exact((by rw[hTe];exact hb:Qr kb _ fB 1 s8.v T)).rd.imp (fun c _ e=>uprk_self e),⟨rfl,rfl⟩,hm0⟩
end DskG

namespace DskH
open E Go.RowKit SimA SimB SimC SimD SimE SimF SimG SimH SimI SimJ SimK SimL SimM SimN SimP SimQ SimR SimX DskA DskB DskC DskD DskE DskF DskG
def Wff(fs:List Fdt):Prop:=∀i,onAll (fget fs i).w (fget fs i).stays=(fget fs i).now
theorem Wff.nil:Wff []:=fun i=>rfl
theorem Wff.set{fs:List Fdt}(h:Wff fs){k:Nat}{x:Fdt}(hx:onAll x.w x.stays=x.now):Wff (fs.set k x):=fun i=>by
 by_cases hk:k<fs.length
 ·by_cases e:i=k
  ·subst e
   have:fget (fs.set i x) i=x:=by simp[fget,List.getD,hk]
   rw[this];exact hx
  ·have:fget (fs.set k x) i=fget fs i:=by simp[fget,List.getD,List.getElem?_set,Ne.symm e]
   rw[this];exact h i
 ·rw[List.set_eq_of_length_le (by omega)];exact h i
theorem Wff.add{fs:List Fdt}(h:Wff fs):Wff (fs++[⟨[],[],[]⟩]):=fun i=>by
 rcases Nat.lt_trichotomy i fs.length with e|e|e
 ·have:fget (fs++[⟨[],[],[]⟩]) i=fget fs i:=by simp[fget,List.getD,List.getElem?_append_left e]
  rw[this];exact h i
 ·subst e
  have:fget (fs++[⟨[],[],[]⟩]) fs.length=⟨[],[],[]⟩:=by simp[fget,List.getD]
  rw[this];rfl
 ·have:fget (fs++[⟨[],[],[]⟩]) i=⟨[],[],[]⟩:=by unfold fget;rw[List.getD_eq_getElem?_getD,List.getElem?_eq_none (by simp;omega)];rfl
  rw[this];rfl
theorem Wff.crash(picks:List Int):∀(L:Nms) (s:List Fdt×Nat),Wff s.1→Wff (L.foldl (crashF picks) s).1
 |[],_,h=>h
 |x::L,s,h=>by
  rw[List.foldl_cons];refine Wff.crash picks L _ ?_;unfold crashF;simp only;split
  ·exact h
  ·exact h.set rfl
theorem Wff.crsh{D:Dk}(h:Wff D.fs)(picks:List Int):Wff (D.crash picks).fs:=Wff.crash picks _ (D.fs,_) h
theorem dn_cr{picks:List Int}{D:Dk}{at_:Nat}{p:Pth}(hB:Asc D.stays)(hld:∀c∈D.log,∀i,c.f=some i→dirP c.n=c.dir):dnl (crashD picks D (D.stays,at_) p).1 p=apl ((D.chgs p).take (pickN picks at_ ((D.chgs p).length+1))) (dnl D.stays p):=by
 rw[crashD_st,dnl_apl _ hB (fun c hc=>cin_of hld (List.mem_of_mem_take hc))]
theorem nms_le{a b:Nms}(ha:Asc a)(h:∀q,(mget a q).isSome=true→(mget b q).isSome=true):a.length≤b.length:=by
 have:=nodup_le (b:=b.map (·.1)) ha.nodup (fun k hk=>isSome_iff_key.1 (h k (isSome_iff_key.2 hk)));rwa[List.length_map,List.length_map]at this
theorem all_in{l:Nms}{j:Nat}(h:j<l.length)(q:Pth):q∈(l.take (j+1)).map (·.1)↔q∈(l.take j).map (·.1)∨q=l[j].1:=by
 rw[List.take_succ_eq_append_getElem h,List.map_append,List.mem_append];simp
theorem all_put{N al bl:Nms}{y q:Pth}{j:Nat}(hN:Asc N)(h:j<(dnl N y).length)(hmb:∀q,mget bl q=if q∈((dnl N y).take j).map (·.1)then mget N q else mget al q):mget (nput bl (dnl N y)[j].1 (dnl N y)[j].2) q=if q∈((dnl N y).take (j+1)).map (·.1)then mget N q else mget al q:=by
 have hm:=mem_nms hN (List.mem_filter.1 (List.getElem_mem h)).1;rw[mget_nput,hmb];by_cases e:q=(dnl N y)[j].1
 ·rw[if_pos e,if_pos ((all_in h q).2 (.inr e)),e,hm]
 ·rw[if_neg e]
  by_cases e2:q∈((dnl N y).take j).map (·.1)
  ·rw[if_pos e2,if_pos ((all_in h q).2 (.inl e2))]
  ·rw[if_neg e2,if_neg (fun h3=>((all_in h q).1 h3).elim e2 e)]
theorem all_step{al bl N:Nms}{L:List Pth}{i:Nat}{y:Pth}(hi:i<L.length)(hy:L[i]=y)(hma:∀q,mget al q=if dirP q∈L.take i then mget N q else none)(hmb:∀q,mget bl q=if q∈(dnl N y).map (·.1)then mget N q else mget al q):∀q,mget bl q=if dirP q∈L.take (i+1)then mget N q else none:=fun q=>by
 have hmm:dirP q∈L.take (i+1)↔dirP q∈L.take i∨dirP q=y:=by rw[List.take_succ_eq_append_getElem hi,List.mem_append,List.mem_singleton,hy]
 have hk:q∈(dnl N y).map (·.1)↔dirP q=y∧(mget N q).isSome=true:=by
  rw[←isSome_iff_key,mget_dnl];by_cases e:dirP q=y<;>simp[e]
 rw[hmb];by_cases e:dirP q=y
 ·rw[if_pos (hmm.2 (.inr e))]
  by_cases e2:q∈(dnl N y).map (·.1)
  ·rw[if_pos e2]
  ·rw[if_neg e2,hma]
   have:mget N q=none:=by
    cases hq:mget N q with
    |none=>rfl
    |some v=>exact absurd (hk.2 ⟨e,by rw[hq];rfl⟩) e2
   rw[this];simp
 ·rw[if_neg (fun h=>e (hk.1 h).1),hma]
  by_cases e2:dirP q∈L.take i
  ·rw[if_pos e2,if_pos (hmm.2 (.inl e2))]
  ·rw[if_neg e2,if_neg (fun h=>(hmm.1 h).elim e2 e)]
theorem sub_all{al bl N:Nms}{L:List Pth}{i j:Nat}{y:Pth}(hma:∀q,mget al q=if dirP q∈L.take i then mget N q else none)(hmb:∀q,mget bl q=if q∈((dnl N y).take j).map (·.1)then mget N q else mget al q):∀q,(mget bl q).isSome=true→(mget N q).isSome=true:=fun q h=>by
 rw[hmb]at h;split at h
 ·exact h
 ·rw[hma]at h
  split at h
  ·exact h
  ·cases h
theorem crashF_go{picks:List Int}{fs:List Fdt}{a:Nat}{x:Pth×Nat}{b:List UInt8}(hw:(fget fs x.2).w≠[])(hb:b=wayW (fget fs x.2).w (fget fs x.2).stays (pickN picks a (waysF (fget fs x.2).w))):(fs.set x.2 ⟨b,b,[]⟩,a+1)=crashF picks (fs,a) x:=by
 unfold crashF;simp only;rw[if_neg hw,hb]
theorem crashF_no{picks:List Int}{fs:List Fdt}{a:Nat}{x:Pth×Nat}(hx:x.2<fs.length)(hw:(fget fs x.2).w=[])(h:Wff fs):(fs.set x.2 ⟨(fget fs x.2).stays,(fget fs x.2).stays,[]⟩,a)=crashF picks (fs,a) x:=by
 unfold crashF;simp only;rw[if_pos hw];have h1:=h x.2;rw[hw]at h1;have h1:(fget fs x.2).stays=(fget fs x.2).now:=h1
 have e:(⟨(fget fs x.2).stays,(fget fs x.2).stays,[]⟩:Fdt)=fget fs x.2:=by
  cases hq:fget fs x.2 with
  |mk a1 a2 a3=>
   rw[hq]at h1 hw;simp only at h1 hw⊢;rw[hw,h1]
 rw[e];have:fget fs x.2=fs[x.2]:=by unfold fget;rw[List.getD_eq_getElem?_getD,List.getElem?_eq_getElem hx];rfl
 rw[this,List.set_getElem_self]
section
variable {w0 : World} {n : Nat} {l : FL} {H : Heap} {o : Oper} {K : List Nat} {g : Rg} {b i bi : Nat} {D : Dk} {x y : Operand} {t : TypeId} {nw : List UInt8} {sv2 : SV}
theorem rf_set{x_:Fdt}{nv sv wv:SV}{k:Nat}{lw:List Wx}(h:RDk K g H b D)(hi:i<D.fs.length)(hf:RFil g.ρ H i (g.fb.getD i 0) (fget D.fs i) nv sv wv k lw){H':Heap}(s:Mo (fun c=>c=g.fb.getD i 0) H H')
 (hx:∃(nv sv wv:SV) (k:Nat) (l:List Wx),Var 132 H' (g.fb.getD i 0) [nv.v,sv.v,wv.v]∧Rd (fun c=>g.ρ c= .frz) H fB 1 nv.v x_.now∧Rd (fun c=>g.ρ c= .frz) H fB 1 sv.v x_.stays∧(∀c,c+1=k→g.ρ c= .wrs i)∧Ow k 162 H fPu 2 wv.v l∧l.map (·.1)=x_.w∧∀y∈l,Rd (fun c=>g.ρ c= .frz) H fB 1 y.2.v y.1.d):RDk K g H' b (D.putF i x_)∧Mo (Ms K) H H':=by
 have hS:∀c,c=g.fb.getD i 0→g.ρ c= .fil i:=fun c e=>by rw[e];exact hf.rf
 have hfz:∀c,c=g.fb.getD i 0→g.ρ c≠ .frz:=fun c e=>by rw[hS c e];simp
 obtain⟨nv2,sv2,wv2,k2,l2,q1,q2,q3,q4,q5,q6,q7⟩:=hx;refine⟨h.setFil (ρ':=g.ρ) hi s (fun x e=> .inl (hS x e)) (Ext.refl _) h.hK (fun c e=>Nat.lt_of_lt_of_le (h.lt c e) s.size) ⟨nv2,sv2,wv2,k2,l2,?_⟩,h.ms s (fun c e=>by rw[hS c e];simp)⟩;exact{rf:=hf.rf,vf:=q1,hn:=rd_frz q2 (Ext.refl _) s hfz,hs:=rd_frz q3 (Ext.refl _) s hfz,hw:=q5.up s (fun c _ e hc=>by have:=hS c hc;rw[q4 c e]at this;cases this),lw:=q6,hd:=fun y hy=>rd_frz (q7 y hy) (Ext.refl _) s hfz,rk:=q4}
theorem rf_stays(h:RDk K g H b D)(hi:i<D.fs.length)(e:g.fb.getD i 0=bi)(hr:Rd (fun c=>g.ρ c= .frz) H fB 1 sv2.v nw)(ho:o.op= .store t x y)(hx:opv l x=some (.pointer (some ⟨bi,1,none⟩)))(hy:opv l y=some sv2.v)(hs:∀w,(sizeOf t).run Tryz.prog w= .ok 1 w):
 S Tryz.prog w0 n l H o (fun H'=>RDk K g H' b (D.putF i ⟨(fget D.fs i).now,nw,(fget D.fs i).w⟩)∧Mo (Ms K) H H'):=by
 subst e;obtain⟨nv,sv,wv,k,lw,hf⟩:=h.fil i hi;exact(S.var1 hf.vf 1 _ ho hx hy rfl hs (by simp) rfl).mono fun H' ⟨h1,h2⟩=>rf_set h hi hf h2 ⟨nv,sv2,wv,k,lw,h1,hf.hn,hr,hf.rk,hf.hw,hf.lw,hf.hd⟩
theorem rf_now(h:RDk K g H b D)(hi:i<D.fs.length)(e:g.fb.getD i 0=bi)(hr:Rd (fun c=>g.ρ c= .frz) H fB 1 sv2.v nw)(ho:o.op= .store t x y)(hx:opv l x=some (.pointer (some ⟨bi,0,none⟩)))(hy:opv l y=some sv2.v)(hs:∀w,(sizeOf t).run Tryz.prog w= .ok 1 w):
 S Tryz.prog w0 n l H o (fun H'=>RDk K g H' b (D.putF i ⟨nw,(fget D.fs i).stays,(fget D.fs i).w⟩)∧Mo (Ms K) H H'):=by
 subst e;obtain⟨nv,sv,wv,k,lw,hf⟩:=h.fil i hi;exact(S.var1 hf.vf 0 _ ho hx hy rfl hs (by simp) rfl).mono fun H' ⟨h1,h2⟩=>rf_set h hi hf h2 ⟨sv2,sv,wv,k,lw,h1,hr,hf.hs,hf.rk,hf.hw,hf.lw,hf.hd⟩
theorem rf_nil(h:RDk K g H b D)(hi:i<D.fs.length)(e:g.fb.getD i 0=bi)(ho:o.op= .store t x y)(hx:opv l x=some (.pointer (some ⟨bi,2,none⟩)))(hy:opv l y=some (.slice none 0 0))(hs:∀w,(sizeOf t).run Tryz.prog w= .ok 1 w):
 S Tryz.prog w0 n l H o (fun H'=>RDk K g H' b (D.putF i ⟨(fget D.fs i).now,(fget D.fs i).stays,[]⟩)∧Mo (Ms K) H H'):=by
 subst e;obtain⟨nv,sv,wv,k,lw,hf⟩:=h.fil i hi;exact(S.var1 hf.vf 2 _ ho hx hy rfl hs (by simp) rfl).mono fun H' ⟨h1,h2⟩=>rf_set h hi hf h2 ⟨nv,sv,⟨none,0,0⟩,0,[],h1,hf.hn,hf.hs,fun c e=>(by omega),Ow.nil fPu_len fPu_one,rfl,fun y hy=>(by cases hy)⟩
end
end DskH

namespace WdkA
open E Go.RowKit SimA SimB SimC SimD SimE SimF SimG SimH SimI SimL SimN SimQ SimR SimS SimU SimY SimYA SimYE WalA WalB WalC WalD WalE WalF WalG WalH WalI DskA DskH
def BqF(x:Fdt):Prop:=x.now.length≤65536∧x.stays.length≤65536∧(∀y∈x.w,y.d.length≤65536)∧∀j,(onAll (x.w.take j) x.stays).length≤65536
theorem BqF.nil:BqF ⟨[],[],[]⟩:=⟨Nat.zero_le _,Nat.zero_le _,nofun,fun j=>by simp[onAll]⟩
theorem BqF.flat{l:List UInt8}(h:l.length≤65536):BqF ⟨l,l,[]⟩:=⟨h,h,nofun,fun j=>by simpa[onAll]using h⟩
structure Bq (n:Nat) (D:Dk):Prop where
 an:Asc D.now
 ast:Asc D.stays
 lg:D.log.length≤n
 op:D.ops≤n
 fl:D.fs.length≤n
 fw:∀i,(fget D.fs i).w.length≤n
 f:∀i,BqF (fget D.fs i)
 un:∃U:List Pth,U.length≤n∧Inn U D.now∧Inn U D.stays∧∀c∈D.log,∀i,c.f=some i→c.n∈U
 ld:∀c∈D.log,∀i,c.f=some i→dirP c.n=c.dir
 mo:D.most≤65536
 wf:Wff D.fs
theorem Bq.mono{n m:Nat}{D:Dk}(h:Bq n D)(hm:n≤m):Bq m D:=⟨h.an,h.ast,Nat.le_trans h.lg hm,Nat.le_trans h.op hm,Nat.le_trans h.fl hm,fun i=>Nat.le_trans (h.fw i) hm,h.f,by obtain⟨U,h1,h2⟩:=h.un;exact⟨U,Nat.le_trans h1 hm,h2⟩,h.ld,h.mo,h.wf⟩
theorem Bq.bs{n:Nat}{D:Dk}(h:Bq n D):Bs (n+65536) D:=
 ⟨h.an,h.ast,by have:=h.lg;omega,by have:=h.op;omega,by have:=h.fl;omega,fun i=>⟨by have:=(h.f i).1;omega,by have:=(h.f i).2.1;omega,by have:=h.fw i;omega,fun y hy=>by have:=(h.f i).2.2.1 y hy;omega,fun j=>by have:=(h.f i).2.2.2 j;omega⟩,by obtain⟨U,h1,h2⟩:=h.un;exact⟨U,by omega,h2⟩,h.ld⟩
theorem Bq.empty(cap most:Nat)(hm:most≤65536):Bq 0 (Dk.empty cap most):=
 ⟨List.Pairwise.nil,List.Pairwise.nil,Nat.le_refl _,Nat.le_refl _,Nat.le_refl _,fun i=>by show(List.getD [] i (⟨[],[],[]⟩:Fdt)).w.length≤0;simp,fun i=>by show BqF (List.getD [] i _);simpa using BqF.nil,⟨[],Nat.le_refl _,nofun,nofun,nofun⟩,nofun,hm,Wff.nil⟩
theorem Bq.begin{n:Nat}{D:Dk}(h:Bq n D):Bq (n+1) D.begin.2:=by
 obtain⟨e1,e2,e3,e4,e5,e6,e7⟩:=begin_same D;have h9:=h.mono (Nat.le_succ n);exact⟨by rw[e4];exact h.an,by rw[e5];exact h.ast,by rw[e6];exact h9.lg,by have:=h.op;omega,by rw[e3];exact h9.fl,by rw[e3];exact h9.fw,by rw[e3];exact h.f,by rw[e4,e5,e6];exact h9.un,by rw[e6];exact h.ld,by rw[e2];exact h.mo,by rw[e3];exact h.wf⟩
theorem fget_cases(fs:List Fdt)(k:Nat)(x:Fdt)(i:Nat):fget (fs.set k x) i=x∨fget (fs.set k x) i=fget fs i:=by
 by_cases h:i=k∧k<fs.length
 ·left;rw[fget_set,if_pos h]
 ·right;rw[fget_set,if_neg h]
theorem Bq.put{n:Nat}{D:Dk}(h:Bq n D)(i:Nat){x:Fdt}(hx:BqF x)(hw:x.w.length≤n)(hwf:onAll x.w x.stays=x.now):Bq n (D.putF i x):=
 ⟨h.an,h.ast,h.lg,h.op,by rw[fl_put];exact h.fl,fun j=>by
  rcases fget_cases D.fs i x j with e|e
  ·show(fget (D.fs.set i x) j).w.length≤n;rw[e];exact hw
  ·show(fget (D.fs.set i x) j).w.length≤n;rw[e];exact h.fw j,fun j=>by
  rcases fget_cases D.fs i x j with e|e
  ·show BqF (fget (D.fs.set i x) j);rw[e];exact hx
  ·show BqF (fget (D.fs.set i x) j);rw[e];exact h.f j,h.un,h.ld,h.mo,h.wf.set hwf⟩
theorem Bq.change{n:Nat}{D:Dk}(h:Bq n D)(c:Chg)(hd:∀i,c.f=some i→dirP c.n=c.dir):Bq (n+1) (D.change c):=by
 obtain⟨U,h1,h2,h3,h4⟩:=h.un;refine⟨asc_ap h.an c,h.ast,by show(D.log++[c]).length≤_;have:=h.lg;simp;omega,Nat.le_succ_of_le h.op,Nat.le_succ_of_le h.fl,fun i=>Nat.le_succ_of_le (h.fw i),h.f,⟨c.n::U,by simp;omega,inn_ap (fun q hq=>List.mem_cons_of_mem _ (h2 q hq)) (fun _ _=>List.mem_cons_self),fun q hq=>List.mem_cons_of_mem _ (h3 q hq),fun d hd2 i hi=>?_⟩,fun d hd2 i hi=>?_,h.mo,h.wf⟩
 ·rcases List.mem_append.1 hd2 with hd2|hd2
  ·exact List.mem_cons_of_mem _ (h4 d hd2 i hi)
  ·rw[List.mem_singleton.1 hd2];exact List.mem_cons_self
 ·rcases List.mem_append.1 hd2 with hd2|hd2
  ·exact h.ld d hd2 i hi
  ·rw[List.mem_singleton.1 hd2]at hi⊢;exact hd i hi
theorem fget_add(fs:List Fdt)(i:Nat):fget (fs++[⟨[],[],[]⟩]) i=fget fs i∨fget (fs++[⟨[],[],[]⟩]) i=⟨[],[],[]⟩:=by
 rcases Nat.lt_trichotomy i fs.length with e|e|e
 ·left;simp[fget,List.getD,List.getElem?_append_left e]
 ·right;subst e;simp[fget,List.getD]
 ·right;unfold fget;rw[List.getD_eq_getElem?_getD,List.getElem?_eq_none (by simp;omega)];rfl
theorem Bq.addf{n:Nat}{D:Dk}(h:Bq n D):Bq (n+1) ({D with fs:=D.fs++[⟨[],[],[]⟩]}:Dk):=
 ⟨h.an,h.ast,Nat.le_succ_of_le h.lg,Nat.le_succ_of_le h.op,by have:=h.fl;simp;omega,fun i=>by
  rcases fget_add D.fs i with e|e
  ·show(fget (D.fs++[_]) i).w.length≤_;rw[e];exact Nat.le_succ_of_le (h.fw i)
  ·show(fget (D.fs++[_]) i).w.length≤_;rw[e];exact Nat.zero_le _,fun i=>by
  rcases fget_add D.fs i with e|e
  ·show BqF (fget (D.fs++[_]) i);rw[e];exact h.f i
  ·show BqF (fget (D.fs++[_]) i);rw[e];exact BqF.nil,(h.mono (Nat.le_succ _)).un,h.ld,h.mo,h.wf.add⟩
theorem Bq.make{n:Nat}{D:Dk}(h:Bq n D)(p:Pth):Bq (n+2) (D.make p).1:=by
 unfold Dk.make;split
 ·exact h.mono (by omega)
 ·exact h.addf.change _ (fun i _=>by simp[Chg.dir])
theorem make_was(D:Dk)(p:Pth):(fget (D.make p).1.fs (D.make p).2).now=D.wasL p:=by
 unfold Dk.make Dk.wasL;split
 ·rename_i i h;rfl
 ·show(fget (D.fs++[_]) D.fs.length).now=[];simp[fget,List.getD]
theorem Bq.write{n:Nat}{D:Dk}(h:Bq n D)(p:Pth)(w:Wr)(hl:(w.on (D.wasL p) w.d.length).length≤65536):Bq (n+3) (D.write p w):=by
 have h1:=h.make p;have h2:=make_was D p;unfold Dk.write;generalize D.make p=m at h1 h2⊢;obtain⟨d2,i⟩:=m;simp only at h1 h2;have hw:=on_len w (fget d2.fs i).now;rw[←h2]at hl;have hwf:=h1.wf i;refine(h1.mono (Nat.le_succ _)).put i ⟨hl,(h1.f i).2.1,fun y hy=>?_,fun j=>?_⟩ (by have:=h1.fw i;show((fget d2.fs i).w++[w]).length≤_;simp;omega) ?_
 ·rcases List.mem_append.1 hy with hy|hy
  ·exact(h1.f i).2.2.1 y hy
  ·rw[List.mem_singleton.1 hy];omega
 ·show(onAll (((fget d2.fs i).w++[w]).take j) (fget d2.fs i).stays).length≤_
  rw[List.take_append];by_cases hj:j≤(fget d2.fs i).w.length
  ·rw[show j-(fget d2.fs i).w.length=0 by omega,List.take_zero,List.append_nil];exact(h1.f i).2.2.2 j
  ·obtain⟨k,hk⟩:∃k,j-(fget d2.fs i).w.length=k+1:=⟨j-(fget d2.fs i).w.length-1,by omega⟩
   rw[hk,List.take_of_length_le (by omega)]
   have e:onAll ((fget d2.fs i).w++[w].take (k+1)) (fget d2.fs i).stays=w.on (onAll (fget d2.fs i).w (fget d2.fs i).stays) w.d.length:=by
    unfold onAll;rw[List.foldl_append,List.take_succ_cons,List.take_nil];rfl
   rw[e,hwf];exact hl
 ·show onAll ((fget d2.fs i).w++[w]) (fget d2.fs i).stays=w.on (fget d2.fs i).now w.d.length
  rw[←hwf];unfold onAll;rw[List.foldl_append];rfl
theorem layE_most{D:Dk}{p:Pth}{w:Wr}(h:D.layE p w=0):nameB p=true∧(w.on (D.wasL p) w.d.length).length≤D.most:=by
 unfold Dk.layE at h;split at h
 ·cases h
 ·rename_i hn
  split at h
  ·cases h
  ·exact⟨by cases q:nameB p with|true=>rfl|false=>exact absurd q hn,by omega⟩
theorem Bq.lay{n:Nat}{D:Dk}(h:Bq n D)(p:Pth)(w:Wr):Bq (n+4) (D.lay p w).2:=by
 unfold Dk.lay;have h1:=h.begin;simp only;split
 ·exact h1.mono (by omega)
 ·simp only;split
  ·rename_i h3
   exact(h1.write p w (Nat.le_trans (layE_most h3).2 h1.mo)).mono (by omega)
  ·exact h1.mono (by omega)
theorem Bq.sync{n:Nat}{D:Dk}(h:Bq n D)(p:Pth):Bq (n+1) (D.sync p).2:=by
 unfold Dk.sync;have h1:=h.begin;simp only;split
 ·exact h1
 ·simp only;split
  ·exact h1.put _ (BqF.flat (h1.f _).1) (Nat.zero_le _) rfl
  ·exact h1
theorem Bq.rename{n:Nat}{D:Dk}(h:Bq n D)(a b:Pth):Bq (n+2) (D.rename a b).2:=by
 unfold Dk.rename;have h1:=h.begin;simp only;split
 ·exact h1.mono (by omega)
 ·simp only;split
  ·rename_i h2
   refine h1.change _ (fun i _=>?_)
   have h3:nameB a=true∧dirP a=dirP b:=by
    have:=h2.1;unfold Dk.renE at this;split at this
    ·cases this
    ·rename_i h4;split at this
     ·cases this
     ·rename_i h5;exact⟨by cases hn:nameB a with
       |true=>rfl
       |false=>exact absurd (.inl hn) h4,by simpa using h5⟩
   unfold Chg.dir;rw[if_neg (name_ne h3.1)];exact h3.2.symm
  ·exact h1.mono (by omega)
theorem Bq.syncDir{n:Nat}{D:Dk}(h:Bq n D)(p:Pth):Bq (n+1) (D.syncDir p).2:=by
 unfold Dk.syncDir;have h1:=h.begin;simp only;split
 ·exact h1
 ·simp only;split
  ·obtain⟨U,e1,e2,e3,e4⟩:=h1.un
   refine⟨h1.an,asc_merge h1.ast _,Nat.le_trans (List.length_filter_le _ _) h1.lg,h1.op,h1.fl,h1.fw,h1.f,⟨U,e1,e2,fun q hq=>?_,fun c hc=>e4 c (List.mem_filter.1 hc).1⟩,fun c hc=>h1.ld c (List.mem_filter.1 hc).1,h1.mo,h1.wf⟩;have hq:(mget (merge D.begin.2.now D.begin.2.stays p) q).isSome=true:=hq;rw[mget_merge h1.an]at hq;split at hq
   ·exact e2 q hq
   ·exact e3 q hq
  ·exact h1
theorem Bq.stop{n:Nat}{D:Dk}(h:Bq n D)(k:Nat):Bq n (D.stop k):=⟨h.an,h.ast,h.lg,h.op,h.fl,h.fw,h.f,h.un,h.ld,h.mo,h.wf⟩
theorem crashF_bq{n:Nat}(picks:List Int):∀(L:Nms) (s:List Fdt×Nat),(∀i,BqF (fget s.1 i)∧(fget s.1 i).w.length≤n)→∀i,BqF (fget (L.foldl (crashF picks) s).1 i)∧(fget (L.foldl (crashF picks) s).1 i).w.length≤n
 |[],s,h=>h
 |x::L,s,h=>by
  rw[List.foldl_cons];refine crashF_bq picks L _ (fun i=>?_);unfold crashF;simp only;split
  ·exact h i
  ·have h9:=wayW_len (n:=65536) (fget s.1 x.2).w (fget s.1 x.2).stays (pickN picks s.2 (waysF (fget s.1 x.2).w)) (h x.2).1.2.2.2
   rcases fget_cases s.1 x.2 ⟨wayW (fget s.1 x.2).w (fget s.1 x.2).stays (pickN picks s.2 (waysF (fget s.1 x.2).w)),wayW (fget s.1 x.2).w (fget s.1 x.2).stays (pickN picks s.2 (waysF (fget s.1 x.2).w)),[]⟩ i with e|e
   ·rw[e];exact⟨BqF.flat h9,Nat.zero_le _⟩
   ·rw[e];exact h i
theorem Bq.crash{n:Nat}{D:Dk}(h:Bq n D)(picks:List Int):Bq n (D.crash picks):=by
 obtain⟨U,h1,h2,h3,h4⟩:=h.un;obtain⟨c1,c2⟩:=crashD_in (picks:=picks) h4 D.dirty (D.stays,0) h3 h.ast;have hc:=crashF_bq (n:=n) picks (D.crashN picks).1 (D.fs,(D.crashN picks).2) (fun i=>⟨h.f i,h.fw i⟩);exact⟨c2,c2,Nat.zero_le _,h.op,by show(D.crashA picks).1.length≤n;unfold Dk.crashA;rw[crashF_len];exact h.fl,fun i=>(hc i).2,fun i=>(hc i).1,⟨U,h1,c1,c1,nofun⟩,nofun,h.mo,h.wf.crsh picks⟩
theorem bq_run{k:Nat}:∀{fs:List Stp} {N:Nat} {D:Dk},(∀f∈fs,∀N D,Bq N D→Bq (N+k) (f D).2)→Bq N D→Bq (N+k*fs.length) (runD fs D).2
 |[],N,D,_,h=>by simpa[runD]using h
 |f::fs,N,D,hf,h=>by
  have h1:=hf f List.mem_cons_self N D h;unfold runD;split
  ·have:=bq_run (fs:=fs) (fun g hg=>hf g (List.mem_cons_of_mem _ hg)) h1
   rw[List.length_cons];exact this.mono (by rw[Nat.mul_add];omega)
  ·rw[List.length_cons];exact h1.mono (by rw[Nat.mul_add];omega)
theorem frS_bq(p:Pth)(l:List Rec):∀f∈frS p l,∀N D,Bq N D→Bq (N+4) (f D).2:=by
 intro f hf N D h;simp only[frS,List.mem_cons,List.not_mem_nil,or_false]at hf;rcases hf with rfl|rfl|rfl|rfl
 ·exact h.lay _ _
 ·exact(h.sync _).mono (by omega)
 ·exact(h.rename _ _).mono (by omega)
 ·exact(h.syncDir _).mono (by omega)
theorem apS_bq(p:Pth)(n:Nat)(r:Rec):∀f∈apS p n r,∀N D,Bq N D→Bq (N+4) (f D).2:=by
 intro f hf N D h;simp only[apS,List.mem_cons,List.not_mem_nil,or_false]at hf;rcases hf with rfl|rfl|rfl|rfl
 ·exact h.lay _ _
 ·exact(h.sync _).mono (by omega)
 ·exact h.lay _ _
 ·exact(h.sync _).mono (by omega)
theorem bq_fresh{N:Nat}{D:Dk}(h:Bq N D)(p:Pth)(l:List Rec):Bq (N+16) (freshD D p l).2:=(bq_run (frS_bq p l) h).mono (by simp[frS])
theorem bq_open{N:Nat}{D:Dk}(h:Bq N D)(p:Pth):Bq (N+16) (openD D p).2.2:=by
 unfold openD;split
 ·exact h.mono (by omega)
 ·split
  ·exact bq_fresh h p _
  ·split
   ·exact h.mono (by omega)
   ·split
    ·exact h.mono (by omega)
    ·split
     ·exact bq_fresh h p _
     ·exact h.mono (by omega)
def Con(D:Dk)(p:Pth)(c:List UInt8):Prop:=∃i,mget D.now p=some i∧(fget D.fs i).now=c
def Idl(D:Dk):Prop:=∀p i,mget D.now p=some i→i<D.fs.length
section
variable {D : Dk} {p : Pth} {c : List UInt8}
theorem Con.read(h:Con D p c)(hd:D.dead=false)(hn:nameB p=true):D.readE p=0∧D.readL p=c:=by
 obtain⟨i,h1,h2⟩:=h;exact read_of hd hn h1 h2
theorem Con.was(h:Con D p c):D.wasL p=c:=by
 obtain⟨i,h1,h2⟩:=h;rw[was_some h1,h2]
theorem Con.begin(h:Con D p c):Con D.begin.2 p c:=by
 obtain⟨e1,e2,e3,e4,_⟩:=begin_same D;obtain⟨i,h1,h2⟩:=h;exact⟨i,by rw[e4];exact h1,by rw[e3];exact h2⟩
theorem Idl.begin(h:Idl D):Idl D.begin.2:=by
 obtain⟨e1,e2,e3,e4,_⟩:=begin_same D;intro q i hq;rw[e4]at hq;rw[e3];exact h q i hq
theorem begin_F2(h:D.begin.1=false):D.begin.2.dead=true:=by
 unfold Dk.begin at h⊢;split
 ·assumption
 ·rename_i h1
  rw[if_neg h1]at h;split
  ·rfl
  ·rename_i h2;rw[if_neg h2]at h;cases h
theorem begin_dd(h:D.dead=true):D.begin=(false,D):=by unfold Dk.begin;rw[if_pos h]
theorem write_con(hid:Idl D)(w:Wr):Con (D.write p w) p (w.on (D.wasL p) w.d.length)∧Idl (D.write p w)∧(D.write p w).dead=D.dead:=by
 cases hq:mget D.now p with
 |some i=>
  have hi:=hid p i hq;rw[←write_some hq hi];rw[fget_put hi,put_put];refine⟨⟨i,hq,?_⟩,fun q j hj=>?_,rfl⟩
  ·rw[was_some hq,fget_put hi]
  ·rw[fl_put];exact hid q j hj
 |none=>
  rw[←write_none hq];rw[fget_put (mk1_len D p),put_put];refine⟨⟨D.fs.length,?_,?_⟩,fun q j hj=>?_,rfl⟩
  ·show mget ((⟨[],p,some D.fs.length⟩:Chg).ap D.now) p=_
   rw[mget_ap];simp[Chg.at]
  ·rw[fget_put (mk1_len D p)];simp only[mk1_get];rw[was_none hq]
  ·rw[fl_put]
   have hj:mget ((⟨[],p,some D.fs.length⟩:Chg).ap D.now) q=some j:=hj;rw[mget_ap]at hj;have hl:=mk1_len D p;simp only[Chg.at]at hj;split at hj
   ·cases hj;exact hl
   ·simp at hj;have:=hid q j hj;omega
theorem lay_con(hid:Idl D)(w:Wr):((D.lay p w).1≠0∧Idl (D.lay p w).2∧((D.lay p w).2.dead=true∨(D.dead=false∧∀q c,Con D q c→Con (D.lay p w).2 q c)))∨((D.lay p w).1=0∧Idl (D.lay p w).2∧(D.lay p w).2.dead=false∧D.dead=false∧Con (D.lay p w).2 p (w.on (D.wasL p) w.d.length)):=by
 cases hb:D.begin.1 with
 |false=>rw[lay_dead hb];exact .inl ⟨Nat.succ_ne_zero 10,hid.begin,.inl (begin_F2 hb)⟩
 |true=>
  have hd:D.dead=false:=by
   cases hq:D.dead with
   |false=>rfl
   |true=>rw[begin_dd hq]at hb;cases hb
  have hd2:=(begin_true hb).2;rw[lay_go hb];by_cases h:D.begin.2.layE p w=0
  ·rw[if_pos h,h]
   obtain⟨q1,q2,q3⟩:=write_con (p:=p) hid.begin w
   have hw:D.begin.2.wasL p=D.wasL p:=by
    obtain⟨e1,e2,e3,e4,_⟩:=begin_same D;unfold Dk.wasL;rw[e3,e4]
   rw[hw]at q1;exact .inr ⟨rfl,q2,by rw[q3];exact hd2,hd,q1⟩
  ·rw[if_neg h]
   exact .inl ⟨h,hid.begin,.inr ⟨hd,fun q c hc=>hc.begin⟩⟩
theorem sync_con(hid:Idl D)(hn:nameB p=true)(h:Con D p c):((D.sync p).1≠0∧(D.sync p).2.dead=true∧Idl (D.sync p).2)∨((D.sync p).1=0∧Idl (D.sync p).2∧(D.sync p).2.dead=false∧D.dead=false∧Con (D.sync p).2 p c):=by
 cases hb:D.begin.1 with
 |false=>rw[sync_dead hb];exact .inl ⟨Nat.succ_ne_zero 10,begin_F2 hb,hid.begin⟩
 |true=>
  have hd:D.dead=false:=by
   cases hq:D.dead with
   |false=>rfl
   |true=>rw[begin_dd hq]at hb;cases hb
  obtain⟨i,h1,h2⟩:=h.begin;have hl:D.begin.2.look p=0:=by unfold Dk.look;rw[if_pos hn,h1];rfl
  have hi:=hid.begin p i h1;rw[sync_go hb,if_pos hl,hl,h1,Option.getD_some];refine .inr ⟨rfl,fun q j hj=>by unfold Dk.syncF;rw[fl_put];exact hid.begin q j hj,(begin_true hb).2,hd,i,h1,?_⟩;unfold Dk.syncF;rw[fget_put hi];exact h2
theorem ren_con(hid:Idl D)(n1:nameB p=true)(n2:nameB (newP p)=true)(h:Con D (newP p) c):((D.rename (newP p) p).1≠0∧(D.rename (newP p) p).2.dead=true∧Idl (D.rename (newP p) p).2)∨((D.rename (newP p) p).1=0∧Idl (D.rename (newP p) p).2∧(D.rename (newP p) p).2.dead=false∧D.dead=false∧Con (D.rename (newP p) p).2 p c):=by
 cases hb:D.begin.1 with
 |false=>rw[ren_dead hb];exact .inl ⟨Nat.succ_ne_zero 10,begin_F2 hb,hid.begin⟩
 |true=>
  have hd:D.dead=false:=by
   cases hq:D.dead with
   |false=>rfl
   |true=>rw[begin_dd hq]at hb;cases hb
  obtain⟨i,h1,h2⟩:=h.begin;have hl:D.begin.2.look (newP p)=0:=by unfold Dk.look;rw[if_pos n2,h1];rfl
  have hi:=hid.begin _ i h1;have hE:D.begin.2.renE (newP p) p=0:=by rw[renE_l n2 n1 (dirP_new n1 n2)];exact hl
  rw[ren_go hb,if_pos ⟨hE,new_ne p⟩,hE,h1,Option.getD_some];refine .inr ⟨rfl,fun q j hj=>?_,(begin_true hb).2,hd,i,?_,h2⟩
  ·have hj:mget ((⟨newP p,p,some i⟩:Chg).ap D.begin.2.now) q=some j:=hj
   rw[mget_ap]at hj;simp only[Chg.at]at hj;split at hj
   ·cases hj;exact hi
   ·split at hj
    ·cases hj
    ·exact hid.begin q j hj
  ·show mget ((⟨newP p,p,some i⟩:Chg).ap D.begin.2.now) p=_
   rw[mget_ap];simp[Chg.at]
theorem sdir_con(hid:Idl D){d:Pth}(hE:dirE d=0)(h:Con D p c):((D.syncDir d).1≠0∧(D.syncDir d).2.dead=true∧Idl (D.syncDir d).2)∨((D.syncDir d).1=0∧Idl (D.syncDir d).2∧(D.syncDir d).2.dead=false∧D.dead=false∧Con (D.syncDir d).2 p c):=by
 cases hb:D.begin.1 with
 |false=>rw[sd_dead hb];exact .inl ⟨Nat.succ_ne_zero 10,begin_F2 hb,hid.begin⟩
 |true=>
  have hd:D.dead=false:=by
   cases hq:D.dead with
   |false=>rfl
   |true=>rw[begin_dd hq]at hb;cases hb
  rw[sd_go hb,if_pos hE,hE];exact .inr ⟨rfl,hid.begin,(begin_true hb).2,hd,h.begin⟩
end
theorem lastS{P:Nat→Prop}:∀n,(∃q,q<n∧P q)→∃k,k<n∧P k∧∀q,q<n→k<q→¬P q
 |0,⟨q,h,_⟩=>absurd h (Nat.not_lt_zero _)
 |n+1,⟨q,h,hq⟩=>by
  by_cases hn:P n
  ·exact⟨n,Nat.lt_succ_self _,hn,fun q h1 h2=>absurd h2 (by omega)⟩
  ·have hqn:q≠n:=fun e=>hn (e▸hq)
   obtain⟨k,h1,h2,h3⟩:=lastS n ⟨q,by omega,hq⟩
   exact⟨k,by omega,h2,fun r h4 h5=>by
    by_cases e:r=n
    ·rw[e];exact hn
    ·exact h3 r (by omega) h5⟩
theorem dirE_dir(p:Pth):dirE (dirP p)=0:=by
 refine dirE_cases (fun h=>?_);obtain⟨h1,h2⟩:=h
 have hn:nameB p=true:=by
  cases q:nameB p with
  |true=>rfl
  |false=>exact absurd (by unfold dirP;rw[if_neg (by rw[q];decide)]) h1
 have hd:dirP p=headP p:=by unfold dirP;rw[if_pos hn]
 obtain⟨l1,l2,l3⟩:=(SimX.name_iff2 p).1 hn;by_cases hs:∃q,q<p.length∧(p.getD q 0).toNat=47
 ·obtain⟨k,k1,k2,k3⟩:=lastS p.length hs
  have hk:p[k]=47:=by rw[SimX.getD_at k1]at k2;exact SimX.nat47.1 k2
  have hh:=SimX.head_at k1 hk k3;have k0:k≠0:=fun e=>(l3 k k1).2 ⟨k2,.inl e⟩;have hlen:(p.take k).length=k:=by rw[List.length_take];omega
  have hg:∀q,q<k→(p.take k).getD q 0=p.getD q 0:=fun q hq=>by
   rw[List.getD_eq_getElem?_getD,List.getD_eq_getElem?_getD,List.getElem?_take_of_lt hq]
  have hb:nameB (p.take k)=true:=(SimX.name_iff2 _).2 ⟨by omega,by omega,fun q hq=>by
   rw[hlen]at hq;obtain⟨m1,m2⟩:=l3 q (by omega);refine⟨by rw[hg q hq];exact m1,fun hc=>?_⟩;obtain⟨c1,c2⟩:=hc;rw[hg q hq]at c1;rw[hlen]at c2;rcases c2 with c2|c2|c2
   ·exact m2 ⟨c1,.inl c2⟩
   ·exact(l3 k k1).2 ⟨k2,.inr (.inr (by rw[←c2];exact c1))⟩
   ·rw[hg (q-1) (by omega)]at c2
    exact m2 ⟨c1,.inr (.inr c2)⟩⟩
  rw[hd,hh,hb]at h2;cases h2
 ·have hh:=SimX.head_no (l:=p) (fun q hq e=>hs ⟨q,hq,e⟩)
  exact h1 (by rw[hd,hh])
section
variable {D : Dk} {p : Pth} {L l : List Rec} {r : Rec} {br : Bool}
theorem fresh_dead(hd:D.dead=true):freshD D p l=(11,D):=by
 have h:D.lay (newP p) ⟨false,encW l⟩=(11,D):=by rw[lay_dead (by rw[begin_dd hd]),begin_dd hd]
 unfold freshD frS runD;simp only[h,if_neg (show ¬(11:Nat)=0 by decide)]
theorem fresh_con(hid:Idl D)(n1:nameB p=true)(n2:nameB (newP p)=true)(l:List Rec):
 ((freshD D p l).1≠0∧Idl (freshD D p l).2∧((freshD D p l).2.dead=true∨(D.dead=false∧∀q c,Con D q c→Con (freshD D p l).2 q c)))∨((freshD D p l).1=0∧Idl (freshD D p l).2∧(freshD D p l).2.dead=false∧D.dead=false∧Con (freshD D p l).2 p (encW l)):=by
 unfold freshD frS;rw[runD];rcases lay_con (p:=newP p) hid ⟨false,encW l⟩with⟨a1,a2,a3⟩|⟨a1,a2,a3,a4,a5⟩
 ·rw[if_neg a1];exact .inl ⟨a1,a2,a3⟩
 ·rw[if_pos a1]
  rw[show Wr.on ⟨false,encW l⟩ (D.wasL (newP p)) (encW l).length=encW l from by simp[Wr.on]]at a5;generalize (D.lay (newP p) ⟨false,encW l⟩).2=D1 at a2 a3 a5⊢;rw[runD];rcases sync_con a2 n2 a5 with⟨b1,b2,b3⟩|⟨b1,b2,b3,b4,b5⟩
  ·rw[if_neg b1];exact .inl ⟨b1,b3,.inl b2⟩
  ·rw[if_pos b1]
   generalize (D1.sync (newP p)).2=D2 at b2 b3 b5⊢;rw[runD];rcases ren_con b2 n1 n2 b5 with⟨c1,c2,c3⟩|⟨c1,c2,c3,c4,c5⟩
   ·rw[if_neg c1];exact .inl ⟨c1,c3,.inl c2⟩
   ·rw[if_pos c1]
    generalize (D2.rename (newP p) p).2=D3 at c2 c3 c5⊢;rw[runD_one];rcases sdir_con c2 (dirE_dir p) c5 with⟨d1,d2,d3⟩|⟨d1,d2,d3,d4,d5⟩
    ·exact .inl ⟨d1,d3,.inl d2⟩
    ·exact .inr ⟨d1,d2,d3,a4,d5⟩
theorem aps_con(hid:Idl D)(n1:nameB p=true)(hc:D.dead=false→Con D p (encW L)):
 ((runD (apS p L.length r) D).1≠0∧Idl (runD (apS p L.length r) D).2∧((runD (apS p L.length r) D).2.dead=true∨Con (runD (apS p L.length r) D).2 p (encW L)∨Con (runD (apS p L.length r) D).2 p (encW L++layW L.length r)))∨((runD (apS p L.length r) D).1=0∧Idl (runD (apS p L.length r) D).2∧(runD (apS p L.length r) D).2.dead=false∧Con (runD (apS p L.length r) D).2 p (encW (L++[r]))):=by
 unfold apS;rw[runD];rcases lay_con (p:=p) hid ⟨true,layW L.length r⟩with⟨a1,a2,a3⟩|⟨a1,a2,a3,a4,a5⟩
 ·rw[if_neg a1]
  exact .inl ⟨a1,a2,a3.imp id (fun h=> .inl (h.2 _ _ (hc h.1)))⟩
 ·rw[if_pos a1]
  rw[(hc a4).was,show Wr.on ⟨true,layW L.length r⟩ (encW L) (layW L.length r).length=encW L++layW L.length r from by simp[Wr.on]]at a5;generalize (D.lay p ⟨true,layW L.length r⟩).2=D1 at a2 a3 a5⊢;rw[runD];rcases sync_con a2 n1 a5 with⟨b1,b2,b3⟩|⟨b1,b2,b3,b4,b5⟩
  ·rw[if_neg b1];exact .inl ⟨b1,b3,.inl b2⟩
  ·rw[if_pos b1]
   generalize (D1.sync p).2=D2 at b2 b3 b5⊢;rw[runD];rcases lay_con (p:=p) b2 ⟨true,[67]⟩with⟨c1,c2,c3⟩|⟨c1,c2,c3,c4,c5⟩
   ·rw[if_neg c1]
    exact .inl ⟨c1,c2,c3.imp id (fun h=> .inr (h.2 _ _ b5))⟩
   ·rw[if_pos c1]
    rw[b5.was,show Wr.on ⟨true,[67]⟩ (encW L++layW L.length r) ([67]:List UInt8).length=encW (L++[r])from by rw[encW_snoc];simp[Wr.on,recW]]at c5;generalize (D2.lay p ⟨true,[67]⟩).2=D3 at c2 c3 c5⊢;rw[runD_one];rcases sync_con c2 n1 c5 with⟨d1,d2,d3⟩|⟨d1,d2,d3,d4,d5⟩
    ·exact .inl ⟨d1,d3,.inl d2⟩
    ·exact .inr ⟨d1,d2,d3,d5⟩
structure Jn (D:Dk) (p:Pth) (L:List Rec) (br:Bool):Prop where
 n1:nameB p=true
 n2:nameB (newP p)=true
 hr:∀r∈L,r.length≤1048576
 c:D.dead=false→Con D p (encW L)∨(br=true∧∃r:Rec,r.length≤1048576∧Con D p (encW L++layW L.length r))
theorem Jn.par(h:Jn D p L br)(hd:D.dead=false):D.readE p=0∧parE (D.readL p)=0∧parL (D.readL p)=L:=by
 rcases h.c hd with hc|⟨_,r,hr,hc⟩
 ·obtain⟨q1,q2⟩:=hc.read hd h.n1
  refine⟨q1,?_,?_⟩
  ·rw[q2];have:=parE_enc L [];rwa[List.append_nil]at this
  ·rw[q2];exact parL_all h.hr
 ·obtain⟨q1,q2⟩:=hc.read hd h.n1
  refine⟨q1,by rw[q2];exact parE_enc _ _,?_⟩;rw[q2,parL_enc _ _ h.hr,parP_stop,List.append_nil];have:=torn_none L.length r (12+r.length) 0 (by omega) hr;rwa[List.take_of_length_le (by rw[layW_len];omega),List.replicate_zero,List.append_nil]at this
theorem Jn.mend(h:Jn D p L br):mendD D p L.length=freshD D p L∧(D.dead=false→mendN D p L.length=L.length):=by
 cases hd:D.dead with
 |true=>
  refine⟨?_,fun e=>by cases e⟩;have hE:D.readE p=11:=by unfold Dk.readE;rw[if_pos hd]
  rw[mend_1 (by rw[hE];decide),hE,fresh_dead hd]
 |false=>
  obtain⟨q1,q2,q3⟩:=h.par hd;refine⟨by rw[mend_3 q1 q2,q3,List.take_length],fun _=>by unfold mendN;rw[q3,List.take_length]⟩
def preR(D:Dk)(p:Pth)(L:List Rec)(br:Bool):Nat×Dk:=if br=true then freshD D p L else(0,D)
def appR(D:Dk)(p:Pth)(L:List Rec)(br:Bool)(r:Rec):Nat×List Rec×Bool×Dk:=
 if(preR D p L br).1≠0 then((preR D p L br).1,L,br,(preR D p L br).2)
 else
  let q:=runD (apS p L.length r) (preR D p L br).2
  (q.1,if q.1=0 then L++[r]else L,if q.1=0 then false else true,q.2)
theorem appR_bad(h:(preR D p L br).1≠0):appR D p L br r=((preR D p L br).1,L,br,(preR D p L br).2):=by unfold appR;rw[if_pos h]
theorem appR_go{D1:Dk}(h:preR D p L br=(0,D1)):appR D p L br r=((runD (apS p L.length r) D1).1,if(runD (apS p L.length r) D1).1=0 then L++[r]else L,if(runD (apS p L.length r) D1).1=0 then false else true,(runD (apS p L.length r) D1).2):=by
 unfold appR;rw[h];rfl
theorem Jn.pre(h:Jn D p L br)(hid:Idl D):((preR D p L br).1≠0∧preD D p L.length br=((preR D p L br).1,mendN D p L.length,(preR D p L br).2)∧Idl (preR D p L br).2∧Jn (preR D p L br).2 p L br)∨((preR D p L br).1=0∧preD D p L.length br=(0,L.length,(preR D p L br).2)∧Idl (preR D p L br).2∧((preR D p L br).2.dead=false→Con (preR D p L br).2 p (encW L))):=by
 cases br with
 |false=>
  refine .inr ⟨rfl,rfl,hid,fun hd=>?_⟩;rcases h.c hd with hc|⟨e,_⟩
  ·exact hc
  ·cases e
 |true=>
  obtain⟨m1,m2⟩:=h.mend;have e:preR D p L true=freshD D p L:=rfl;have e2:preD D p L.length true=((freshD D p L).1,mendN D p L.length,(freshD D p L).2):=by unfold preD;rw[if_pos rfl,m1]
  rw[e];rcases fresh_con hid h.n1 h.n2 L with⟨a1,a2,a3⟩|⟨a1,a2,a3,a4,a5⟩
  ·refine .inl ⟨a1,e2,a2,h.n1,h.n2,h.hr,fun hd=>?_⟩
   rcases a3 with a3|⟨a3,a4⟩
   ·rw[a3]at hd;cases hd
   ·exact(h.c a3).imp (a4 _ _) (fun⟨q1,r,q2,q3⟩=>⟨q1,r,q2,a4 _ _ q3⟩)
  ·exact .inr ⟨a1,by rw[e2,a1,m2 a4],a2,fun _=>a5⟩
theorem Jn.app(h:Jn D p L br)(hid:Idl D)(hr:r.length≤1048576):appD D p L.length br r=((appR D p L br r).1,(appR D p L br r).2.1.length,(appR D p L br r).2.2.1,(appR D p L br r).2.2.2)∧Jn (appR D p L br r).2.2.2 p (appR D p L br r).2.1 (appR D p L br r).2.2.1∧Idl (appR D p L br r).2.2.2:=by
 rcases h.pre hid with⟨a1,a2,a3,a4⟩|⟨a1,a2,a3,a4⟩
 ·rw[appR_bad a1]
  refine⟨?_,a4,a3⟩;unfold appD;rw[a2,if_pos a1]
 ·obtain⟨D1,hD1⟩:∃D1,D1=(preR D p L br).2:=⟨_,rfl⟩
  rw[←hD1]at a2 a3 a4;rw[appR_go (D1:=D1) (by rw[hD1,←a1]),app_go a2];rcases aps_con (r:=r) a3 h.n1 a4 with⟨b1,b2,b3⟩|⟨b1,b2,b3,b4⟩
  ·simp only[if_neg b1]
   refine⟨trivial,⟨h.n1,h.n2,h.hr,fun hd=>?_⟩,b2⟩;rcases b3 with b3|b3|b3
   ·rw[b3]at hd;cases hd
   ·exact .inl b3
   ·exact .inr ⟨rfl,r,hr,b3⟩
  ·simp only[if_pos b1]
   refine⟨by simp,⟨h.n1,h.n2,fun x hx=>?_,fun _=> .inl b4⟩,b2⟩;rcases List.mem_append.1 hx with hx|hx
   ·exact h.hr x hx
   ·rw[List.mem_singleton.1 hx];exact hr
theorem Jn.ckp(h:Jn D p L br)(hid:Idl D)(hl:∀r∈l,r.length≤1048576):Idl (freshD D p l).2∧((freshD D p l).1=0→Jn (freshD D p l).2 p l false)∧((freshD D p l).1≠0→Jn (freshD D p l).2 p L br):=by
 rcases fresh_con hid h.n1 h.n2 l with⟨a1,a2,a3⟩|⟨a1,a2,a3,a4,a5⟩
 ·refine⟨a2,fun e=>absurd e a1,fun _=>⟨h.n1,h.n2,h.hr,fun hd=>?_⟩⟩
  rcases a3 with a3|⟨a3,a4⟩
  ·rw[a3]at hd;cases hd
  ·exact(h.c a3).imp (a4 _ _) (fun⟨q1,r,q2,q3⟩=>⟨q1,r,q2,a4 _ _ q3⟩)
 ·exact⟨a2,fun _=>⟨h.n1,h.n2,hl,fun _=> .inl a5⟩,fun e=>absurd a1 e⟩
theorem Jn.stop(h:Jn D p L br)(n:Nat):Jn (D.stop n) p L br:=⟨h.n1,h.n2,h.hr,fun hd=>h.c hd⟩
theorem readE_ok(h:D.readE p=0):D.dead=false∧nameB p=true∧Con D p (D.readL p):=by
 have hd:D.dead=false:=by
  cases q:D.dead with
  |false=>rfl
  |true=>unfold Dk.readE at h;rw[if_pos q]at h;cases h
 have hk:D.look p=0:=by unfold Dk.readE at h;rwa[if_neg (by rw[hd];decide)]at h
 obtain⟨h1,i,h2⟩:=look_0 hk;refine⟨hd,h1,i,h2,?_⟩;unfold Dk.readL;rw[if_pos h,was_some h2]
theorem open_J(hid:Idl D):Idl (openD D p).2.2∧((openD D p).1=0→Jn (openD D p).2.2 p (openD D p).2.1 false):=by
 by_cases hn:nameB p=false∨nameB (newP p)=false
 ·rw[open_a hn];exact⟨hid,fun h=>by cases h⟩
 ·have n1:nameB p=true:=by cases q:nameB p with|true=>rfl|false=>exact absurd (.inl q) hn
  have n2:nameB (newP p)=true:=by cases q:nameB (newP p)with|true=>rfl|false=>exact absurd (.inr q) hn
  by_cases h2:D.readE p=2
  ·rw[open_b n1 n2 h2]
   rcases fresh_con hid n1 n2 []with⟨a1,a2,a3⟩|⟨a1,a2,a3,a4,a5⟩
   ·exact⟨a2,fun e=>absurd e a1⟩
   ·exact⟨a2,fun _=>⟨n1,n2,nofun,fun _=> .inl a5⟩⟩
  ·by_cases h0:D.readE p=0
   ·by_cases hp:parE (D.readL p)=0
    ·obtain⟨q1,_,q3⟩:=readE_ok h0
     by_cases h3:parS (D.readL p)<(D.readL p).length
     ·rw[open_e n1 n2 h0 hp h3]
      rcases fresh_con hid n1 n2 (parL (D.readL p))with⟨a1,a2,a3⟩|⟨a1,a2,a3,a4,a5⟩
      ·exact⟨a2,fun e=>absurd e a1⟩
      ·refine⟨a2,fun _=>?_⟩
       simp only[if_pos a1];exact⟨n1,n2,parL_max _,fun _=> .inl a5⟩
     ·rw[open_f n1 n2 h0 hp h3]
      refine⟨hid,fun _=>⟨n1,n2,parL_max _,fun _=> .inl ?_⟩⟩;have e:=parS_eq hp (by have:=parS_le (D.readL p);omega);rw[←e];exact q3
    ·rw[open_d n1 n2 h0 hp];exact⟨hid,fun e=>absurd e hp⟩
   ·rw[open_c n1 n2 h2 h0];exact⟨hid,fun e=>absurd e h0⟩
theorem bq_app{N:Nat}(h:Bq N D):Bq (N+32) (appR D p L br r).2.2.2:=by
 have h1:Bq (N+16) (preR D p L br).2:=by
  unfold preR;split
  ·exact bq_fresh h p L
  ·exact h.mono (by omega)
 unfold appR;split
 ·exact h1.mono (by omega)
 ·exact(bq_run (apS_bq p _ r) h1).mono (by simp[apS])
theorem encN_mem:∀{L:List Rec} {n:Nat} {r:Rec},r∈L→r.length+13≤(encN n L).length
 |x::L,n,r,h=>by
  have e:(encN n (x::L)).length=(13+x.length)+(encN (n+1) L).length:=by
   show(recW n x++encN (n+1) L).length=_;rw[List.length_append,recW_len]
  rcases List.mem_cons.1 h with h|h
  ·rw[h];omega
  ·have:=encN_mem (n:=n+1) h;omega
end
end WdkA

namespace DskI
open E Go.RowKit SimA SimB SimC SimD SimE SimF SimG SimH SimI SimJ SimK SimL SimM SimN SimP SimQ SimR SimX DskA DskB DskC DskD DskE DskF DskG DskH
theorem crashF_st{picks:List Int}{fs:List Fdt}{a:Nat}{x:Pth×Nat}(hx:x.2<fs.length)(hw:(fget fs x.2).w≠[]):((fs.set x.2 ⟨(fget fs x.2).now,wayW (fget fs x.2).w (fget fs x.2).stays (pickN picks a (waysF (fget fs x.2).w)),(fget fs x.2).w⟩).set x.2 ⟨(fget (fs.set x.2 ⟨(fget fs x.2).now,wayW (fget fs x.2).w (fget fs x.2).stays (pickN picks a (waysF (fget fs x.2).w)),(fget fs x.2).w⟩) x.2).stays,(fget (fs.set x.2 ⟨(fget fs x.2).now,wayW (fget fs x.2).w (fget fs x.2).stays (pickN picks a (waysF (fget fs x.2).w)),(fget fs x.2).w⟩) x.2).stays,[]⟩,a+1)=crashF picks (fs,a) x:=by
 have e:∀y:Fdt,fget (fs.set x.2 y) x.2=y:=fun y=>by simp[fget,List.getD,hx]
 rw[e,List.set_set];exact crashF_go hw rfl
theorem put_nn{D:Dk}{fs:List Fdt}{i:Nat}(hi:i<fs.length):(({D with fs:=fs}:Dk).putF i ⟨(fget fs i).stays,(fget fs i).stays,(fget fs i).w⟩).putF i ⟨(fget (({D with fs:=fs}:Dk).putF i ⟨(fget fs i).stays,(fget fs i).stays,(fget fs i).w⟩).fs i).now,(fget (({D with fs:=fs}:Dk).putF i ⟨(fget fs i).stays,(fget fs i).stays,(fget fs i).w⟩).fs i).stays,[]⟩=({D with fs:=fs.set i ⟨(fget fs i).stays,(fget fs i).stays,[]⟩}:Dk):=by
 rw[fget_put (D:={D with fs:=fs}) hi,put_put];rfl
theorem rcrash_ct(K:List Nat)(g:Rg)(b:Nat)(D:Dk)(G:Nat→Prop)(pv:SV)(picks:List Int)(w0:World)(H0:Heap)
 (hf:RDk K g H0 b D) (hpk:Rd G H0 fI 1 pv.v picks) (bf_hpk:BF G H0.size) (dpkK:DFL G K) (hdl:g.dm.length≤549755813888) (hB:Bd 274877906944 D) (hwf:Wff D.fs) (hwy:∀i,waysF (fget D.fs i).w≤2305843009213693952) (hpw:∀x∈picks,-9223372036854775808≤x∧x≤9223372036854775807):
 Ct Tryz.prog w0 19 #[ptr b,pv.v] H0 (fun r H2=>∃K2:List Nat,∃g2:Rg,r= .int .i64 ((D.crashA picks).2:Int)∧(RDk K2 g2 H2 b (D.crash picks))∧(NxK K H0.size K2)∧(g2.dm=g.dm)∧Mo (Ms K) H0 H2):=by
 refine Ct.enter (args:=[ptr b,pv.v]) Tryz.func19 rfl rfl rfl ?_;intro Q0 hret;have hm0:Mo (Ms K) H0 H0:=Mo.refl _ _;have aq:=NxK.refl K H0.size;have aa:=hf.bk;have habs0:=hf.abs;have hop0:=hB.op;have hlg0:=hB.lg;have hsl0:=hB.sl;have hcl0:=crashN_len D picks;obtain⟨L,hL⟩:∃L,L=g.dm.map (·.1):=⟨_,rfl⟩;have hLl:L.length=g.dm.length:=by rw[hL,List.length_map]
 have hLr:Rise L:=by rw[hL];exact hf.asc.rise
 have hLn:=rise_nodup hLr
 have hno:∀q,q∉L→mget g.dm q=none:=fun q hq=>by
  cases hm:mget g.dm q with
  |none=>rfl
  |some x=>exact absurd (by rw[hL];exact isSome_iff_key.1 (by rw[hm];rfl)) hq
 refine CW.seq (fun K1 ct _=>CW.region ?_);refine LR.an ?_;refine ct _ _ (CW.seq (fun K2 cu _=>CW.region ?_));refine LR.an ?_;refine cu _ _ (CW.s1 (fun cv=>CW.seq (fun K4 cw _=>CW.region ?_)));refine LR.an ?_;refine cw _ _ (CW.block (fun _ _ cx _=>?_))
 refine CW.loop (fun(s_:(Nat)×(List Nat)×(Rg)×(Dk)×(Nat))=>match s_ with|(i,K1,g1,Di,a1)=>[(0,ptr b),(1,pv.v),(5,.int .i64 (a1:Int)),(6,.int .i64 (i:Int))])
  (fun(i,K1,g1,Di,a1) (H:Heap)=>(RDk K1 g1 H b Di)∧(i≤L.length)∧(Mid picks D Di (L.take i))∧(a1=((L.take i).foldl (crashD picks D) (D.stays,0)).2)∧(g1.fb=g.fb∧g1.dm=g.dm)∧(NxK K H0.size K1)∧Mo (Ms K) H0 H)
  (fun(i,K1,g1,Di,a1)=>L.length-i) (0,K,g,D,0) ⟨rfl,rfl,rfl,rfl,trivial⟩ ?_ ?_
 ·
  exact⟨hf,(by omega),Mid.start hB.an hB.ast,rfl,⟨rfl,rfl⟩,NxK.refl _ _,Mo.refl _ _⟩
 rintro⟨i,K1,g1,Di,a1⟩ aA cy K6 cz cA;obtain⟨hf,hi,hM,ha,aS,ab,ap⟩:=cy;have cB:=DFL.appK (dpkK) (bf_hpk.mono hm0.size) ab;have cj:NxK K H0.size K1:=NxK.tr (aq) ab hm0.size;replace hpk:=hpk.upL ap (dpkK);replace hm0:=hm0.trL ap (MIL.ofK (aq) (by intro k hk;simp[hk]));have dj:=ap.size;have aa:=hf.bk;have ck:=ab;have hal:=crashD_at picks D (L.take i) (D.stays,0);rw[←ha,List.length_take]at hal;simp only at hal;have hgl:g1.dm.length=g.dm.length:=by rw[aS.2]
 refine CW.s2 (fun cC cD=>CW.sr (fun cE=>?_));refine LR.m1 ?_;refine LR.m1 ?_;refine LR.n1 ?_;refine LR.v1 (Y.FA hf.vb.pt rfl u'62 rfl s'60) ?_;refine LR.v1 (Y.load1 (hf.vb.pt.drop 2) rfl a'60 rfl) ?_;refine LR.v1 (Y.len hf.hd rfl u'60 rfl) ?_;refine LR.v1 (Y.lss rfl rfl rfl) (LR.nil (cE _ _ ?_));refine CW.condp rfl (fun cF=>?_) (fun cF=>?_)
 ·
  have hil1:i<g1.dm.length:=by omega
  obtain⟨y,hey⟩:∃q,q=g1.dm[i]:=⟨_,rfl⟩;have hil:i<L.length:=by omega
  have hyL:L[i]=y.1:=by rw[hey];simp only[hL,List.getElem_map,aS.2]
  have hyd:mget g1.dm y.1=some y.2:=by rw[hey];exact mem_nms hf.asc (List.getElem_mem hil1)
  have hni:L[i]∉L.take i:=fun hq=>by
   have h9:=hLn;rw[←List.take_append_drop i L,List.nodup_append]at h9;exact h9.2.2 _ hq _ (by rw[List.drop_eq_getElem_cons hil];exact List.mem_cons_self) rfl
  have hst:=hM.step hni hB.ld;have hlD:∀c∈Di.log,∀i,c.f=some i→dirP c.n=c.dir:=fun c hc=>hB.ld c (hM.lg c hc);have hchl:(Di.chgs y.1).length≤D.log.length:=by rw[←hyL,hM.ch,if_neg hni];exact List.length_filter_le _ _
  refine CW.skip (cC _ _ (CW.s1 (fun cG=>CW.block (fun _ bf _ _=>CW.s1 (fun bg=>?_)))));obtain⟨nvB,svB,bvB,kcB,blB,hdB⟩:=hf.dirs _ _ hyd;have hbn:=hdB.bn;have hop:Mo (Ms [(y.2+1),kcB]) aA aA:=Mo.refl _ _;have km4:KM K1 (y.2+1):=(hf.km1 hdB.rd (by simp));have vd:=hdB.vd;have bh:=vd.lt;have bi:MI K H0.size (y.2+1):=MIL.at (MIL.ofK (ck) (by intro k hk;simp[hk])) km4;have bj:=Nx.refl (y.2+1) aA.size;have km9:KM K1 kcB:=(hf.km hdB.rc (by simp));have hc:=hdB.hc;have bl:=hc.le;refine CW.region ?_;refine LR.m1 ?_;refine LR.n1 ?_;refine LR.v1 (Y.FA hf.vb.pt rfl u'62 rfl s'60) ?_;refine LR.v1 (Y.load1 (hf.vb.pt.drop 2) rfl a'60 rfl) ?_;refine LR.m1 ?_;refine LR.e1 (g:=fun ad=> .pointer (some ad)) (Y.indexAddr hf.hd (i) rfl u'60 s'120 rfl rfl (by first|rfl|omega) (by first|omega|(simp;omega)|(simp;done))) fun cH bm=>?_;refine LR.v1 (Y.cast (v2:=ptr y.2) (Y.load1 bm rfl a'120 rfl) (by rw[hey])) ?_;refine LR.an ?_;refine bg _ _ ?_
  refine CW.cut (fun(s_:(SV)×(Nat))=>match s_ with|(tv,a2)=>[(0,ptr b),(1,pv.v),(5,.int .i64 (a2:Int)),(6,.int .i64 (i:Int)),(7,ptr y.2)])
   (fun(tv,a2) (H:Heap)=>(Var 124 H y.2 [Str y.1,nvB.v,tv.v,bvB.v])∧(Rd (fun c=>g1.ρ c= .frz) aA (fL g1.fb) 2 tv.v (dnl (crashD picks Di (Di.stays,a1) y.1).1 y.1))∧(a2=(crashD picks Di (Di.stays,a1) y.1).2)∧Mo (Ms [(y.2+1)]) aA H) (fun _ aL _=>?_) ?_
  ·
   have aj:Mo (Ms [(y.2+1)]) aA aA:=Mo.refl _ _;have ar:=Nx.refl (y.2+1) aA.size;refine CW.sr (fun bo=>?_);refine LR.m1 ?_;refine LR.n1 ?_;refine LR.v1 (Y.FA vd.pt rfl u'124 rfl s'122) ?_;refine LR.v1 (Y.load1 (vd.pt.drop 3) rfl a'122 rfl) ?_;refine LR.v1 (Y.len hc.rd rfl u'122 rfl) ?_;refine LR.v1 (Y.gtr rfl rfl rfl) (LR.nil (bo _ _ ?_));refine CW.condp rfl (fun cI=>?_) (fun cI=>?_)
   ·
    refine CW.sr (fun bp=>?_);refine LR.m1 ?_;refine LR.m1 ?_;refine LR.m1 ?_;refine LR.n1 ?_;refine LR.v1 (Y.FA vd.pt rfl u'124 rfl s'122) ?_;refine LR.v1 (Y.load1 (vd.pt.drop 3) rfl a'122 rfl) ?_;refine LR.v1 (Y.len hc.rd rfl u'122 rfl) ?_;refine LR.v1 (Y.cast (v2:= .int .i64 ((blB.length+1:Nat):Int)) (Y.addi rfl rfl rfl (by omega)) (ivv (by omega))) ?_;refine LR.call rfl c'56 rfl (Wd.u rfl) rfl rfl (rnext_ct a1 pv picks (blB.length+1) w0 _ hpk.any (by omega) hpw) (fun dk dl cJ=>?_);obtain⟨rfl,aI⟩:=cJ;replace vd:=vd.nw aI;replace hc:=hc.nw aI;replace aj:=aj.trN aI;have dn:=aI.size;obtain⟨kk,hkk⟩:∃kk,kk=pickN picks a1 (blB.length+1):=⟨_,rfl⟩;have hkl:=pickN_lt picks a1 (m:=blB.length+1) (by omega);have hdc:=dn_cr (picks:=picks) (at_:=a1) (p:=y.1) hM.ast hlD;rw[←hbn,←hkk]at hdc;refine LR.an ?_;refine bp _ _ (CW.sr (fun br=>?_));refine LR.m1 ?_;refine LR.v1 (Y.cast (v2:= .int .i64 ((a1+1:Nat):Int)) (Y.addi rfl rfl rfl (by omega)) (ivv (by omega))) ?_;refine LR.an ?_;refine br _ _ (CW.sr (fun bs=>?_));refine LR.m1 ?_;refine LR.v1 (Y.gtr rfl rfl rfl) (LR.nil (bs _ _ ?_));refine CW.condp rfl (fun cK=>?_) (fun cK=>?_)
    ·
     refine CW.region ?_;refine LR.m1 ?_;refine LR.m1 ?_;refine LR.n1 ?_;refine LR.v1 (Y.FA vd.pt rfl u'124 rfl s'122) ?_;refine LR.v1 (Y.load1 (vd.pt.drop 3) rfl a'122 rfl) ?_;refine LR.m1 ?_;refine LR.v1 (Y.cast (v2:= .int .i64 ((kk-1:Nat):Int)) (Y.subi rfl rfl rfl (by omega)) (ivv (by omega))) ?_;have hkb:kk-1<blB.length:=by omega
     refine LR.v1 (Y.owAddr hc (kk-1) rfl u'122 s'121 rfl rfl (by first|rfl|omega) (by first|omega|(simp;omega)|(simp;done))) ?_;refine LR.v1 (Y.cast (v2:=blB[kk-1].v) (Y.load1 (hc.pt (j:=kk-1) (by first|omega|(simp;omega)|(simp;done))) rfl a'121 rfl) (rfl)) ?_;refine LR.n1 ?_;refine LR.v1 (Y.FA vd.pt rfl u'124 rfl s'121) ?_;refine LR.s1 (S.var1 vd 2 ([Str y.1,nvB.v,blB[kk-1].v,bvB.v]) rfl rfl rfl (rfl) s'121 (by simp) (rfl)) fun bt aM=>?_;obtain⟨vd,ah⟩:=aM;replace ah:=ah.md1;replace aj:=aj.trL ah (MIL.o (MI.r ar));have dp:=ah.size;refine LR.nil ?_;refine QN.sub (aL (blB[kk-1],a1+1) _ ?_) ⟨rfl,rfl,(iv (by omega)),(iv (by omega)),rfl,trivial⟩;exact⟨vd,by rw[hdc];have e9:=hdB.hb (kk-1) (by omega);rw[Nat.sub_add_cancel (by omega)]at e9;exact e9,by unfold crashD;rw[if_neg (fun e=>by rw[e]at hbn;have h9:blB.length=0:=hbn;omega)],aj⟩
    ·
     refine CW.skip ?_;refine QN.sub (aL (svB,a1+1) _ ?_) ⟨rfl,rfl,(iv (by omega)),(iv (by omega)),rfl,trivial⟩;exact⟨vd,by rw[hdc,show kk=0 by omega];exact hdB.hs,by unfold crashD;rw[if_neg (fun e=>by rw[e]at hbn;have h9:blB.length=0:=hbn;omega)],aj⟩
   ·
    refine CW.skip ?_;refine QN.sub (aL (svB,a1) _ ?_) ⟨rfl,rfl,(iv (by omega)),(iv (by omega)),rfl,trivial⟩;exact⟨vd,by rw[crashD_skip (List.eq_nil_of_length_eq_zero (by omega))];exact hdB.hs,by rw[crashD_skip (List.eq_nil_of_length_eq_zero (by omega))],aj⟩
  ·
   rintro⟨tv,a2⟩ bd aB;obtain⟨vd,htv,ha2,af⟩:=aB;replace ap:=ap.trL af (MIL.cons (bi) MIL.nil);replace hop:=hop.trL af (MIL.o (MI.r bj));have dq:=af.size;refine CW.sr (fun bu=>?_);refine LR.m1 ?_;refine LR.m1 ?_;refine LR.n1 ?_;refine LR.v1 (Y.FA vd.pt rfl u'124 rfl s'121) ?_;refine LR.v1 (Y.load1 (vd.pt.drop 2) rfl a'121 rfl) ?_;refine LR.n1 ?_;refine LR.v1 (Y.FA vd.pt rfl u'124 rfl s'121) ?_;refine LR.s1 (S.var1 vd 1 ([Str y.1,tv.v,tv.v,bvB.v]) rfl rfl rfl (rfl) s'121 (by simp) (rfl)) fun cl aV=>?_;obtain⟨vd,ak⟩:=aV;replace ak:=ak.md1;replace ap:=ap.trL ak (MIL.cons (bi) MIL.nil);replace hop:=hop.trL ak (MIL.o (MI.r bj));have dr:=ak.size;refine LR.nil (bu _ _ (CW.region ?_));refine LR.m1 ?_;refine LR.n1 ?_;refine LR.v1 (Y.FA vd.pt rfl u'124 rfl s'122) ?_;refine LR.s1 (S.var1 vd 3 ([Str y.1,tv.v,tv.v,.slice none 0 0]) rfl rfl rfl (rfl) s'122 (by simp) (rfl)) fun cm aW=>?_;obtain⟨vd,am⟩:=aW;replace am:=am.md1;replace ap:=ap.trL am (MIL.cons (bi) MIL.nil);replace hop:=hop.trL am (MIL.o (MI.r bj));have ds:=am.size;refine LR.nil ?_;have bv:NxK K H0.size K1:=ck;replace hf:=hf.dcrash hM.an hM.ast hyd hdB hlD hop vd htv;have aa:=hf.bk;refine bf _ _ (cG _ _ (CW.region ?_));refine LR.m1 ?_;refine LR.v1 (Y.addi rfl rfl rfl (by omega)) ?_;refine LR.an ?_;refine QN.sub (cz (i+1,K1,g1,stepM picks Di a1 y.1,a2) _ ?_ ?_) ⟨rfl,rfl,(iv (by omega)),(iv (by omega)),trivial⟩
   ·exact⟨hf,(by omega),by rw[List.take_succ_eq_append_getElem hil,ha,←hyL];exact hst.1,by rw[List.take_succ_eq_append_getElem hil,←hst.2,←ha,hyL];exact ha2,aS,bv,ap⟩
   ·first|omega|(simp only;omega)|(simp;omega)
 ·
  have hie:i=L.length:=by omega
  rw[hie,List.take_length]at hM ha;obtain⟨e1,e2,e3,e4⟩:=hM.fin hLr (fun n hn=>Classical.byContradiction (fun h=>hn (habs0 n (hno n h)).2)) (fun q hq=>(habs0 _ (hno _ hq)).1 q rfl) hB.ld;have hDl:Di.now.length≤549755813888:=by rw[e2];omega
  have hmx:∀q,dirP q∉L→mget Di.now q=none:=fun q h=>by rw[hM.nw2 q h];exact((habs0 _ (hno _ h)).1 q rfl).1
  refine CW.exit (cD (.exit 0) nofun _ _ (cA (.exit 0) nofun _ _ (cx _ _ ?_)));refine cv _ _ (CW.sr (fun bw=>?_));refine LR.an ?_;refine bw _ _ (CW.s1 (fun bx=>CW.sr (fun bz=>?_)));refine LR.an ?_;refine bz _ _ (CW.block (fun _ _ bA _=>?_))
  refine CW.loop (fun(s_:(Nat)×(SV)×(Nat)×(Nms))=>match s_ with|(i3,sa,ka,al)=>[(0,ptr b),(1,pv.v),(5,.int .i64 (a1:Int)),(9,sa.v),(10,.int .i64 (i3:Int))])
   (fun(i3,sa,ka,al) (H:Heap)=>(Ow ka 129 H (fL g1.fb) 2 sa.v al)∧(i3≤L.length)∧(Asc al)∧(∀q,mget al q=if dirP q∈L.take i3 then mget Di.now q else none)∧(Nx 0 aA.size ka)∧Nw aA H)
   (fun(i3,sa,ka,al)=>L.length-i3) (0,⟨none,0,0⟩,0,[]) ⟨rfl,rfl,rfl,rfl,rfl,trivial⟩ ?_ ?_
  ·
   exact⟨Ow.nil (fL_len _) (fL_one _),(by omega),List.Pairwise.nil,fun q=>by simp[mget],Nx.refl _ _,Mo.refl _ _⟩
  rintro⟨i3,sa,ka,al⟩ aT cL dt bB bC;obtain⟨oal,hi3,hAa,hma,ai,au⟩:=cL;have aX:DL ka K1:=DL.app2 (DL.zK) hf.bk ai;replace hf:=hf.nw au;replace hpk:=hpk.nw au;replace hm0:=hm0.trN au;have du:=au.size;have aw:=oal.le;have aY:=ai;refine CW.s2 (fun bD bE=>CW.sr (fun bF=>?_));refine LR.m1 ?_;refine LR.m1 ?_;refine LR.n1 ?_;refine LR.v1 (Y.FA hf.vb.pt rfl u'62 rfl s'60) ?_;refine LR.v1 (Y.load1 (hf.vb.pt.drop 2) rfl a'60 rfl) ?_;refine LR.v1 (Y.len hf.hd rfl u'60 rfl) ?_;refine LR.v1 (Y.lss rfl rfl rfl) (LR.nil (bF _ _ ?_));refine CW.condp rfl (fun cM=>?_) (fun cM=>?_)
  ·
   have hil31:i3<g1.dm.length:=by omega
   obtain⟨y3,hey3⟩:∃q,q=g1.dm[i3]:=⟨_,rfl⟩;have hil3:i3<L.length:=by omega
   have hyL3:L[i3]=y3.1:=by rw[hey3];simp only[hL,List.getElem_map,aS.2]
   have hyd3:mget g1.dm y3.1=some y3.2:=by rw[hey3];exact mem_nms hf.asc (List.getElem_mem hil31)
   refine CW.skip (bD _ _ (CW.s1 (fun bG=>CW.block (fun _ bH _ _=>CW.sr (fun bI=>?_)))));refine LR.an ?_;refine bI _ _ (CW.block (fun _ _ bJ _=>?_))
   refine CW.loop (fun(s_:(Nat)×(SV)×(Nat)×(Nms))=>match s_ with|(j3,sb,kb,bq)=>[(0,ptr b),(1,pv.v),(5,.int .i64 (a1:Int)),(9,sb.v),(10,.int .i64 (i3:Int)),(11,.int .i64 (j3:Int))])
    (fun(j3,sb,kb,bq) (H:Heap)=>(Ow kb 129 H (fL g1.fb) 2 sb.v bq)∧(j3≤(dnl Di.now y3.1).length)∧(Asc bq)∧(∀q,mget bq q=if q∈((dnl Di.now y3.1).take j3).map (·.1)then mget Di.now q else mget al q)∧(Nx ka aT.size kb)∧Mo (Ms [ka]) aT H)
    (fun(j3,sb,kb,bq)=>(dnl Di.now y3.1).length-j3) (0,sa,ka,al) ⟨rfl,rfl,rfl,rfl,rfl,rfl,trivial⟩ ?_ ?_
   ·
    exact⟨oal,(by omega),hAa,fun q=>by simp,Nx.refl _ _,Mo.refl _ _⟩
   rintro⟨j3,sb,kb,bq⟩ dv cN dw bK bL;obtain⟨oal,hj3,hAb,hmb,ai,av⟩:=cN;have bM:Nx 0 aA.size kb:=Nx.tr (aY) ai au.size;replace hf:=hf.upL av (DKL.cons aX DKL.nil);replace au:=au.tq av (MIL.o (MI.q aY));have dx:=av.size;have aw:=oal.le;have hbql:=nms_le hAb (sub_all hma hmb);have hdnl:(dnl Di.now y3.1).length≤Di.now.length:=List.length_filter_le _ _;refine CW.s2 (fun bN bO=>CW.sr (fun bP=>?_));refine LR.m1 ?_;refine LR.m1 ?_;refine LR.n1 ?_;refine LR.v1 (Y.FA hf.vb.pt rfl u'62 rfl s'60) ?_;refine LR.v1 (Y.load1 (hf.vb.pt.drop 2) rfl a'60 rfl) ?_;refine LR.m1 ?_;obtain⟨nvC,svC,bvC,kcC,blC,hdC⟩:=hf.dirs _ _ hyd3;refine LR.e1 (g:=fun ad=> .pointer (some ad)) (Y.indexAddr hf.hd (i3) rfl u'60 s'120 rfl rfl (by first|rfl|omega) (by first|omega|(simp;omega)|(simp;done))) fun cO bQ=>?_;refine LR.v1 (Y.cast (v2:=ptr y3.2) (Y.load1 bQ rfl a'120 rfl) (by rw[hey3])) ?_;refine LR.n1 ?_;refine LR.v1 (Y.FA hdC.vd.pt rfl u'124 rfl s'121) ?_;refine LR.v1 (Y.load1 (hdC.vd.pt.drop 1) rfl a'121 rfl) ?_;refine LR.v1 (Y.len hdC.hn rfl u'121 rfl) ?_;refine LR.v1 (Y.lss rfl rfl rfl) (LR.nil (bP _ _ ?_));refine CW.condp rfl (fun cP=>?_) (fun cP=>?_)
   ·
    have hjl3:j3<(dnl Di.now y3.1).length:=by omega
    obtain⟨z,hez⟩:∃q,q=(dnl Di.now y3.1)[j3]:=⟨_,rfl⟩;refine CW.skip (bN _ _ (CW.s1 (fun bR=>CW.block (fun _ bS _ _=>CW.region ?_))));refine LR.m1 ?_;refine LR.m1 ?_;refine LR.n1 ?_;refine LR.v1 (Y.FA hf.vb.pt rfl u'62 rfl s'60) ?_;refine LR.v1 (Y.load1 (hf.vb.pt.drop 2) rfl a'60 rfl) ?_;refine LR.m1 ?_;refine LR.e1 (g:=fun ad=> .pointer (some ad)) (Y.indexAddr hf.hd (i3) rfl u'60 s'120 rfl rfl (by first|rfl|omega) (by first|omega|(simp;omega)|(simp;done))) fun cn aZ=>?_;refine LR.v1 (Y.cast (v2:=ptr y3.2) (Y.load1 aZ rfl a'120 rfl) (by rw[hey3])) ?_;refine LR.n1 ?_;refine LR.v1 (Y.FA hdC.vd.pt rfl u'124 rfl s'121) ?_;refine LR.v1 (Y.load1 (hdC.vd.pt.drop 1) rfl a'121 rfl) ?_;refine LR.m1 ?_;refine LR.e1 (g:=fun ad=> .pointer (some ad)) (Y.indexAddr hdC.hn (j3) rfl u'121 s'129 rfl rfl (by first|rfl|omega) (by first|omega|(simp;omega)|(simp;done))) fun co a0=>?_;refine LR.v1 (Y.cast (v2:= .agg (fL g1.fb z).toArray) (Y.loadN a0 rfl a'129 s'129 ((fL_len _ _)) rfl) (by rw[hez])) ?_;refine LR.call rfl c'57 rfl (Wd.u rfl) rfl rfl (with_ct g1.fb sb.v bq z.1 z.2 w0 _ oal.rd.any (by omega) hAb) (fun cQ cR bT=>?_);obtain⟨bU,a3,rfl,oal,a6,aJ⟩:=bT;have bV:Nx 0 aT.size a3:=Nx.tr (Nx.refl 0 _) a6 av.size;replace av:=av.trN aJ;have dy:=aJ.size;have aw:=oal.le;refine LR.an ?_;refine bS _ _ (bR _ _ (CW.region ?_));refine LR.m1 ?_;refine LR.v1 (Y.addi rfl rfl rfl (by omega)) ?_;refine LR.an ?_;refine QN.sub (bK (j3+1,bU,a3,nput bq z.1 z.2) _ ?_ ?_) ⟨rfl,rfl,(iv (by omega)),rfl,(iv (by omega)),(iv (by omega)),trivial⟩
    ·exact⟨oal,(by omega),asc_nput hAb _ _,fun q=>by rw[hez];exact all_put hM.an hjl3 hmb,(Nx.z (bV)),av⟩
    ·first|omega|(simp only;omega)|(simp;omega)
   ·
    refine CW.exit (bO (.exit 4) nofun _ _ (bL (.exit 4) nofun _ _ (bJ _ _ ?_)));refine bH _ _ (bG _ _ (CW.region ?_));refine LR.m1 ?_;refine LR.v1 (Y.addi rfl rfl rfl (by omega)) ?_;refine LR.an ?_;refine QN.sub (bB (i3+1,sb,kb,bq) _ ?_ ?_) ⟨rfl,rfl,(iv (by omega)),rfl,(iv (by omega)),trivial⟩
    ·exact⟨oal,(by omega),hAb,all_step hil3 hyL3 hma (fun q=>by have h9:=hmb q;rw[List.take_of_length_le (by omega)]at h9;exact h9),bM,au⟩
    ·first|omega|(simp only;omega)|(simp;omega)
  ·
   have hale:al=Di.now:=asc_ext hAa hM.an (fun q=>by
    rw[hma,List.take_of_length_le (by omega)];by_cases h:dirP q∈L
    ·rw[if_pos h]
    ·rw[if_neg h,hmx q h])
   subst hale;refine CW.exit (bE (.exit 2) nofun _ _ (bC (.exit 2) nofun _ _ (bA _ _ ?_)));refine bx _ _ (CW.s1 (fun bW=>CW.sr (fun bX=>?_)));refine LR.an ?_;refine bX _ _ (CW.block (fun _ _ bY _=>?_))
   refine CW.loop (fun(s_:(Nat)×(List Nat)×(Rg)×(List Fdt)×(Nat))=>match s_ with|(j,K4,g4,fs4,a4)=>[(0,ptr b),(1,pv.v),(5,.int .i64 (a4:Int)),(9,sa.v),(12,.int .i64 (j:Int))])
    (fun(j,K4,g4,fs4,a4) (H:Heap)=>(RDk K4 g4 H b {Di with fs:=fs4})∧(j≤Di.now.length)∧((fs4,a4)=(Di.now.take j).foldl (crashF picks) (D.fs,a1))∧(g4.fb=g.fb∧g4.dm=g.dm)∧(Wff fs4)∧(NxK K1 aT.size K4)∧Mo (Ms K1) aT H)
    (fun(j,K4,g4,fs4,a4)=>Di.now.length-j) (0,K1,g1,D.fs,a1) ⟨rfl,rfl,rfl,rfl,rfl,trivial⟩ ?_ ?_
   ·
    exact⟨(by have h9:=hM.same.2.2.1;rw[←h9];exact hf),(by omega),rfl,aS,hwf,NxK.refl _ _,Mo.refl _ _⟩
   rintro⟨j,K4,g4,fs4,a4⟩ aU cS dz bZ b0;obtain⟨hf,hj,hF,be,cT,ab,ag⟩:=cS;have aN:NxK K H0.size K4:=NxK.tr (cj) ab hm0.size;replace hpk:=hpk.upL ag (cB);replace oal:=oal.upL ag (aX);replace hm0:=hm0.trL ag (MIL.ofK (cj) (by intro k hk;simp[hk]));have cU:=ag.size;have aa:=hf.bk;have a7:=ab;have hFl:=crashF_len picks (Di.now.take j) (D.fs,a1);have hFa:=crashF_at picks (Di.now.take j) (D.fs,a1);have hFf:=crashF_file picks D.fs (Di.now.take j) (D.fs,a1) (fun i=> .inl rfl);rw[←hF]at hFl hFa hFf;simp only[List.length_take]at hFl hFa hFf;have hwx:Wff ((Di.now.take (j+1)).foldl (crashF picks) (D.fs,a1)).1:=Wff.crash picks _ (D.fs,a1) hwf;refine CW.s2 (fun b1 b2=>CW.sr (fun b3=>?_));refine LR.m1 ?_;refine LR.m1 ?_;refine LR.v1 (Y.len oal.rd rfl u'121 rfl) ?_;refine LR.v1 (Y.lss rfl rfl rfl) (LR.nil (b3 _ _ ?_));refine CW.condp rfl (fun b4=>?_) (fun b4=>?_)
   ·
    have hjn:j<Di.now.length:=by omega
    obtain⟨x,hx⟩:∃q,q=Di.now[j]:=⟨_,rfl⟩;have htk:(Di.now.take (j+1)).foldl (crashF picks) (D.fs,a1)=crashF picks ((Di.now.take j).foldl (crashF picks) (D.fs,a1)) x:=by rw[List.take_succ_eq_append_getElem hjn,List.foldl_append,hx];rfl
    have hgj:mget Di.now x.1=some x.2:=by rw[hx];exact mem_nms hM.an (List.getElem_mem hjn)
    have hid:x.2<fs4.length:=hf.ids.1 _ _ hgj;have hgf:g4.fb=g1.fb:=by rw[be.1,aS.1]
    refine CW.skip (b1 _ _ (CW.s1 (fun b5=>CW.block (fun _ b6 _ _=>CW.sr (fun b7=>?_)))));refine LR.m1 ?_;refine LR.m1 ?_;refine LR.v1 (Y.owAddr oal (j) rfl u'121 s'129 rfl rfl (by first|rfl|omega) (by first|omega|(simp;omega)|(simp;done))) ?_;refine LR.v1 (Y.fieldAddr (oal.pt (j:=j) (by first|omega|(simp;omega)|(simp;done))) rfl u'129 rfl rfl s'127 (by decide) rfl) ?_;refine LR.v1 (Y.cast (v2:=fvl g4.fb x.2) (Y.load1 ((oal.pt (j:=j) (by first|omega|(simp;omega)|(simp;done))).drop 1) rfl a'127 rfl) (by rw[hx,hgf])) ?_;refine LR.an ?_;refine b7 _ _ ?_
    refine CW.cut (fun(s_:(List Nat)×(Rg)×(List Fdt)×(Nat))=>match s_ with|(Kc,gc,fsc,a5)=>[(0,ptr b),(1,pv.v),(5,.int .i64 (a5:Int)),(9,sa.v),(12,.int .i64 (j:Int)),(13,fvl g4.fb x.2)])
     (fun(Kc,gc,fsc,a5) (H:Heap)=>(RDk Kc gc H b {Di with fs:=fsc})∧((fsc.set x.2 ⟨(fget fsc x.2).stays,(fget fsc x.2).stays,[]⟩,a5)=crashF picks (fs4,a4) x)∧(gc.fb=g4.fb∧gc.dm=g4.dm)∧(x.2<fsc.length)∧(NxK K4 aU.size Kc)∧Mo (Ms K4) aU H) (fun _ a8 _=>?_) ?_
    ·
     have ac:Mo (Ms K4) aU aU:=Mo.refl _ _;have ae:=NxK.refl K4 aU.size;refine CW.sr (fun b8=>?_);obtain⟨nvD,svD,wvD,kwD,lwD,hfiD⟩:=hf.fil x.2 hid;have hlwD:lwD.length=(fget fs4 x.2).w.length:=by have h9:=congrArg List.length hfiD.lw;rw[List.length_map]at h9;exact h9
     refine LR.m1 ?_;refine LR.n1 ?_;refine LR.v1 (Y.FA hfiD.vf.pt rfl u'132 rfl s'130) ?_;refine LR.v1 (Y.load1 (hfiD.vf.pt.drop 2) rfl a'130 rfl) ?_;refine LR.v1 (Y.len hfiD.hw.rd rfl u'130 rfl) ?_;refine LR.v1 (Y.gtr rfl rfl rfl) (LR.nil (b8 _ _ ?_));refine CW.condp rfl (fun b9=>?_) (fun b9=>?_)
     ·
      have hwne:(fget fs4 x.2).w≠[]:=fun e=>by rw[e]at hlwD;have h9:lwD.length=0:=hlwD;omega
      have hfe:fget fs4 x.2=fget D.fs x.2:=(hFf _).resolve_right hwne;have hB1:(fget fs4 x.2).w.length≤549755813888:=by rw[hfe];have:=hB.w x.2;omega
      have hB2:∀y∈(fget fs4 x.2).w,y.d.length≤549755813888:=by rw[hfe];intro y hy;have:=hB.wd _ y hy;omega
      have hB3:∀q,(onAll ((fget fs4 x.2).w.take q) (fget fs4 x.2).stays).length≤549755813888:=by rw[hfe];intro q;have:=hB.pf x.2 q;omega
      have hB4:waysF (fget fs4 x.2).w≤2305843009213693952:=by rw[hfe];exact hwy _
      have hB5:0<waysF (fget fs4 x.2).w:=by unfold waysF;omega
      refine CW.sr (fun b_=>?_);refine LR.m1 ?_;refine LR.m1 ?_;refine LR.m1 ?_;refine LR.m1 ?_;refine LR.m1 ?_;refine LR.call rfl c'59 rfl (Wd.u rfl) rfl rfl (rways_ct K4 g4 b ({Di with fs:=fs4}:Dk) x.2 w0 _ hf hid hB1 hB2 hB4) (fun cV cW ca=>?_);obtain⟨rfl,ax⟩:=ca;replace hf:=hf.nw ax;replace hpk:=hpk.nw ax;replace ac:=ac.trN ax;have cX:=ax.size;refine LR.call rfl c'56 rfl (Wd.u rfl) rfl rfl (rnext_ct a4 pv picks (waysF (fget fs4 x.2).w) w0 _ hpk.any (by omega) hpw) (fun cY cZ cb=>?_);obtain⟨rfl,aC⟩:=cb;replace hf:=hf.nw aC;replace ac:=ac.trN aC;have c0:=aC.size;have hkl:=pickN_lt picks a4 (m:=waysF (fget fs4 x.2).w) hB5;refine LR.call rfl c'58 rfl (Wd.u rfl) rfl rfl (rway_ct K4 g4 b ({Di with fs:=fs4}:Dk) x.2 (pickN picks a4 (waysF (fget fs4 x.2).w)) w0 _ hf hid (by omega) hB1 hB2 hB3) (fun c_ da cc=>?_);obtain⟨Qc,gQ,db,rfl,hf,aO,hr133,aD,aK⟩:=cc;have a9:NxK K4 aU.size Qc:=NxK.tr (ae) aO ac.size;replace ac:=ac.trL aK (MIL.ofK (ae) (by intro k hk;simp[hk]));have dc:=aK.size;have aa:=hf.bk;obtain⟨nvE,svE,wvE,kwE,lwE,hfiE⟩:=hf.fil x.2 hid;refine LR.n1 ?_;refine LR.v1 (Y.fieldAddr (hfiE.atb (by rw[aD.1])).pt rfl u'132 rfl rfl s'34 (by decide) rfl) ?_;refine LR.s1 (rf_stays hf hid (by rw[aD.1]) hr133 rfl rfl rfl s'34) fun cd aP=>?_;obtain⟨hf,ay⟩:=aP;replace ac:=ac.trL ay (MIL.ofK (a9) (by intro k hk;simp[hk]));have dd:=ay.size;have aa:=hf.bk;refine LR.nil (b_ _ _ (CW.region ?_));refine LR.m1 ?_;refine LR.v1 (Y.cast (v2:= .int .i64 ((a4+1:Nat):Int)) (Y.addi rfl rfl rfl (by omega)) (ivv (by omega))) ?_;refine LR.an ?_;refine QN.sub (a8 (Qc,gQ,fs4.set x.2 ⟨(fget fs4 x.2).now,wayW (fget fs4 x.2).w (fget fs4 x.2).stays (pickN picks a4 (waysF (fget fs4 x.2).w)),(fget fs4 x.2).w⟩,a4+1) _ ?_) ⟨rfl,rfl,(iv (by omega)),rfl,(iv (by omega)),rfl,trivial⟩;exact⟨hf,crashF_st hid hwne,aD,by rw[List.length_set];exact hid,a9,ac⟩
     ·
      refine CW.skip ?_;refine QN.sub (a8 (K4,g4,fs4,a4) _ ?_) ⟨rfl,rfl,(iv (by omega)),rfl,(iv (by omega)),rfl,trivial⟩;exact⟨hf,crashF_no hid (List.eq_nil_of_length_eq_zero (by omega)) cT,⟨rfl,rfl⟩,hid,ae,ac⟩
    ·
     rintro⟨Kc,gc,fsc,a5⟩ a_ az;obtain⟨hf,hfs,hgc,hidc,ab,ao⟩:=az;have aQ:NxK K1 aT.size Kc:=NxK.tr (a7) ab ag.size;replace ag:=ag.trL ao (MIL.ofK (a7) (by intro k hk;simp[hk]));have de:=ao.size;have aa:=hf.bk;refine CW.sr (fun ce=>?_);refine LR.m1 ?_;obtain⟨nvF,svF,wvF,kwF,lwF,hfiF⟩:=hf.fil x.2 hidc;refine LR.m1 ?_;refine LR.n1 ?_;refine LR.v1 (Y.fieldAddr (hfiF.atb (by rw[hgc.1])).pt rfl u'132 rfl rfl s'34 (by decide) rfl) ?_;refine LR.v1 (Y.load1 ((hfiF.atb (by rw[hgc.1])).pt.drop 1) rfl a'34 rfl) ?_;refine LR.n1 ?_;refine LR.v1 (Y.fieldAddr (hfiF.atb (by rw[hgc.1])).pt rfl u'132 rfl rfl s'34 (by decide) rfl) ?_;refine LR.s1 (rf_now hf hidc (by rw[hgc.1]) hfiF.hs rfl rfl rfl s'34) fun cp ba=>?_;obtain⟨hf,aE⟩:=ba;replace ag:=ag.trL aE (MIL.ofK (aQ) (by intro k hk;simp[hk]));have df:=aE.size;have aa:=hf.bk;refine LR.nil (ce _ _ (CW.region ?_));have hidd:=hidc;rw[←fl_put (D:={Di with fs:=fsc}) (i:=x.2) (x:=⟨(fget fsc x.2).stays,(fget fsc x.2).stays,(fget fsc x.2).w⟩)]at hidd;obtain⟨nvG,svG,wvG,kwG,lwG,hfiG⟩:=hf.fil x.2 hidd;refine LR.m1 ?_;refine LR.n1 ?_;refine LR.v1 (Y.fieldAddr (hfiG.atb (by rw[hgc.1])).pt rfl u'132 rfl rfl s'130 (by decide) rfl) ?_;refine LR.s1 (rf_nil hf hidd (by rw[hgc.1]) rfl rfl rfl s'130) fun cq aF=>?_;obtain⟨hf9,dg⟩:=aF;rw[put_nn hidc]at hf9;have aF:=And.intro hf9 dg;obtain⟨hf,aG⟩:=aF;replace ag:=ag.trL aG (MIL.ofK (aQ) (by intro k hk;simp[hk]));have dh:=aG.size;have aa:=hf.bk;refine LR.nil (b6 _ _ (b5 _ _ (CW.region ?_)));refine LR.m1 ?_;refine LR.v1 (Y.addi rfl rfl rfl (by omega)) ?_;refine LR.an ?_;refine QN.sub (bZ (j+1,Kc,gc,fsc.set x.2 ⟨(fget fsc x.2).stays,(fget fsc x.2).stays,[]⟩,a5) _ ?_ ?_) ⟨rfl,rfl,(iv (by omega)),rfl,(iv (by omega)),trivial⟩
     ·exact⟨hf,(by omega),by rw[htk,←hF,hfs],⟨hgc.1.trans be.1,hgc.2.trans be.2⟩,by rw[htk,←hF]at hwx;have h9:(fsc.set x.2 ⟨(fget fsc x.2).stays,(fget fsc x.2).stays,[]⟩,a5)=crashF picks (fs4,a4) x:=hfs;have h8:=congrArg Prod.fst h9;simp only at h8;rw[h8];exact hwx,aQ,ag⟩
     ·first|omega|(simp only;omega)|(simp;omega)
   ·
    have hje:j=Di.now.length:=by omega
    rw[hje,List.take_length]at hF;have hAe:(fs4,a4)=D.crashA picks:=by rw[hF];unfold Dk.crashA;rw[e2,ha,e4]
    refine CW.exit (b2 (.exit 6) nofun _ _ (b0 (.exit 6) nofun _ _ (bY _ _ ?_)));refine bW _ _ (CW.sr (fun cf=>?_));refine LR.m1 ?_;refine LR.n1 ?_;refine LR.v1 (Y.FA hf.vb.pt rfl u'62 rfl s'4) ?_;refine LR.s1 (rd_dead hf false rfl rfl rfl s'4) fun cr bb=>?_;obtain⟨hf,aH⟩:=bb;replace hm0:=hm0.trL aH (MIL.ofK (aN) (by intro k hk;simp[hk]));have di:=aH.size;have aa:=hf.bk;refine LR.nil (cf _ _ (CW.sr (fun cg=>?_)));refine LR.m1 ?_;refine LR.n1 ?_;refine LR.v1 (Y.FA hf.vb.pt rfl u'62 rfl s'3) ?_;refine LR.s1 (rd_left hf 0 rfl rfl rfl s'3 (by omega)) fun cs bc=>?_;obtain⟨hf,aR⟩:=bc;replace hm0:=hm0.trL aR (MIL.ofK (aN) (by intro k hk;simp[hk]));refine LR.nil (cg _ _ (CW.sr (fun ci=>?_)));refine LR.m1 ?_;refine LR.an ?_;refine ci _ _ ?_;refine CW.ret (hret .ret (.inr rfl) _ _ _ (res1 rfl rfl) ?_)
    exact⟨K4,g4,by rw[←hAe],by
     have h9:(D.crash picks)={{{Di with fs:=fs4}with dead:=false}with left:=0}:=by
      unfold Dk.crash;rw[←hAe,←e1];obtain⟨q1,q2,q3,q4,q5,q6⟩:=hM.same;obtain⟨c1,c2,c3,c4,c5,c6,c7,c8,c9⟩:=Di;simp only at q1 q2 q3 q4 q5 q6 e1 e2 e3;subst q1 q2 q4 e3;simp only[Dk.mk.injEq,true_and,and_true];rw[e2,e1]
     rw[h9];exact hf,aN,be.2,hm0⟩
end DskI

namespace WdkB
open E Go.RowKit SumB SumC SumF SumG DelA SimA SimB SimC SimD SimE SimF SimG SimH SimI SimL SimN SimQ SimR SimS SimU SimX WalA WalB WalC WalD WalE WalF WalG WalH WalI WalJ WalK DskA DskB DskC DskD DskE DskF DskH DskI WdkA
set_option maxRecDepth 100000 in
theorem inf22:Inf Tryz.prog 22 34 1 24:=⟨Tryz.underlying22,_,_,rfl,rfl,rfl,rfl,rfl⟩
set_option maxRecDepth 100000 in
theorem inf34:Inf Tryz.prog 34 5 1 1:=⟨Tryz.underlying34,_,_,rfl,rfl,rfl,rfl,rfl⟩
set_option maxHeartbeats 2000000 in
theorem rparseO_ct(s:SV)(b:List UInt8)(w0:World)(H0:Heap)
 (hb:RdT H0 fB 1 s.v b) (hbl:b.length≤900000):
 Ct Tryz.prog w0 55 #[s.v] H0 (fun r H2=>∃t:SV,∃l:List (SV×Rec),∃k:Nat,∃G:Nat→Prop,r= .tuple #[t.v,.int .i64 (parS b:Int),.int .i64 (parE b:Int)]∧(recs l=parL b)∧(Ow k 34 H2 fP 1 t.v l)∧(Nx 0 H0.size k)∧(∀x∈l,Rd G H2 fB 1 x.1.v x.2)∧(BF G H2.size)∧(∀c,G c→H0.size≤c)∧(DF G k)∧Nw H0 H2):=by
 refine Ct.enter (args:=[s.v]) Tryz.func55 rfl rfl rfl ?_;intro Q0 hret;have hm0:Nw H0 H0:=Mo.refl _ _;replace hb:=hb.bnd;have au:=hb.bf;refine CW.sr (fun bm=>?_);refine LR.a1 ?_;refine LR.a1 ?_;refine LR.an ?_;refine bm _ _ (CW.s2 (fun bn ba=>CW.sr (fun bb=>?_)));refine LR.m1 ?_;refine LR.v1 (Y.len hb rfl u'34 rfl) ?_;refine LR.v1 (Y.lss rfl rfl rfl) ?_;refine LR.m1 ?_;refine LR.splitp (d:=12) rfl (fun bo=>?_) (fun bo=>?_)
 ·
  have h8:¬b.take 8=W8:=fun h=>by have:=congrArg List.length h;rw[List.length_take]at this;have h9:W8.length=8:=rfl;omega
  refine LR.g1 ?_;refine LR.g1 ?_;refine LR.g1 ?_;refine LR.g1 ?_;refine LR.pt ?_;refine LR.nil (bb _ _ ?_);refine CW.cond_t rfl ?_;refine CW.sr (fun bp=>?_);refine LR.a1 ?_;refine LR.a1 ?_;refine LR.an ?_;refine bp _ _ ?_;refine CW.ret (ba .ret nofun _ _ (hret .ret (.inr rfl) _ _ _ (res3 rfl rfl rfl rfl) ?_));obtain⟨q1,q2,q3⟩:=par_hd h8;exact⟨⟨none,0,0⟩,[],0,(fun _=>False),by rw[q1,q2];rfl,by rw[q3];rfl,Ow.nil fP_len fP_one,Nx.refl _ _,(fun x h=>by cases h),(fun b e=>e.elim),(fun c e=>e.elim),(fun b e=>e.elim),hm0⟩
 ·
  refine LR.wm ?_;refine LR.e (g:=fun v=>v) (Y.slice hb (0) (8) rfl u'34 s'5 rfl (.inl ⟨rfl,rfl⟩) (.inr ⟨_,_,_,rfl,rfl,by first|rfl|omega⟩) (by omega) (by omega)) (Wd.g rfl rfl rfl) rfl rfl (fun bM rd14=>?_);rw[List.drop_zero]at rd14;refine LR.w1 (Y.bstr rd14 rfl Tryz.underlying34 Tryz.underlying9 Tryz.underlying5 rfl) ?_;refine LR.w1 (Y.sneq rfl rfl rfl) ?_;refine LR.pf ?_;refine LR.nil (bb _ _ ?_);refine CW.condp rfl (fun aJ=>?_) (fun aJ=>?_)
  ·
   have h8:¬b.take 8=W8:=aJ;refine CW.sr (fun bq=>?_);refine LR.a1 ?_;refine LR.a1 ?_;refine LR.an ?_;refine bq _ _ ?_;refine CW.ret (ba .ret nofun _ _ (hret .ret (.inr rfl) _ _ _ (res3 rfl rfl rfl rfl) ?_));obtain⟨q1,q2,q3⟩:=par_hd h8;exact⟨⟨none,0,0⟩,[],0,(fun _=>False),by rw[q1,q2];rfl,by rw[q3];rfl,Ow.nil fP_len fP_one,Nx.refl _ _,(fun x h=>by cases h),(fun b e=>e.elim),(fun c e=>e.elim),(fun b e=>e.elim),hm0⟩
  ·
   have h8:b.take 8=W8:=Decidable.byContradiction (fun h=>aJ h);refine CW.skip (bn _ _ (CW.sr (fun br=>?_)));refine LR.an ?_;refine br _ _ (CW.sr (fun bs=>?_));refine LR.an ?_;refine bs _ _ (CW.s1 (fun av=>CW.block (fun _ _ aw _=>?_)))
   refine CW.loop (fun(s_:(Nat)×(Value)×(Nat)×(List (SV×Rec))×(Nat→Prop))=>match s_ with|(a,vo,ko,l,G)=>[(0,s.v),(5,.int .i64 (a:Int)),(6,vo)])
    (fun(a,vo,ko,l,G) (H:Heap)=>(PS b (recs l) a)∧(Ow ko 34 H fP 1 vo l)∧(∀x∈l,Rd G H fB 1 x.1.v x.2)∧(BF G H.size)∧(DF G ko)∧(∀c,G c→H0.size≤c)∧(Nx 0 H0.size ko)∧Nw H0 H)
    (fun(a,vo,ko,l,G)=>b.length-a) (8,.slice none 0 0,0,[],fun _=>False) ⟨rfl,rfl,rfl,trivial⟩ ?_ ?_
   ·
    exact⟨PS.start h8,Ow.nil fP_len fP_one,(fun x h=>by cases h),(fun b e=>e.elim),(fun b e=>e.elim),(fun c e=>e.elim),Nx.refl _ _,Mo.refl _ _⟩
   rintro⟨a,vo,ko,l,G⟩ bN bt bO aK aj;obtain⟨hps,ow,hxa,ac,f1,hG,ak,ab⟩:=bt;have ax:Nx 0 H0.size ko:=Nx.tr (Nx.refl 0 _) ak hm0.size;replace hb:=hb.nw ab;replace hm0:=hm0.tr ab;have bP:=ab.size;have aq:=ow.le;have bc:=ak;have hal:=hps.le;have hrl:(b.drop a).length=b.length-a:=List.length_drop;have hln:(recs l).length=l.length:=by simp[recs]
   have hll:=hps.ln;have hle8:l.length≤(encW (recs l)).length:=by rw[←hln];exact encW_many _
   refine CW.s2 (fun aL aM=>CW.sr (fun aN=>?_));refine LR.m1 ?_;refine LR.v1 (Y.len hb rfl u'34 rfl) ?_;refine LR.m1 ?_;refine LR.v1 (Y.subi rfl rfl rfl (by omega)) ?_;refine LR.v1 (Y.geq rfl rfl rfl) (LR.nil (aN _ _ ?_));refine CW.condp rfl (fun bu=>?_) (fun bu=>?_)
   ·
    have hR:12<(b.drop a).length:=by omega
    have hb4:big (b.drop a)<4294967296:=bev4 _ (by rw[List.length_take];omega);refine CW.skip (aL _ _ (CW.block (fun _ aO _ ao=>CW.sr (fun aP=>?_))));refine LR.m1 ?_;refine LR.m1 ?_;refine LR.call rfl c'93 rfl (Wd.u rfl) rfl rfl (get_ct _ b a 4 w0 _ hb.any (by omega) (by omega)) (fun bQ ar bv=>?_);obtain⟨rfl,ag⟩:=bv;replace hb:=hb.nw ag;replace ow:=ow.nw ag;replace hxa:=fun x hxa_=>(hxa x hxa_).nw ag;replace hm0:=hm0.tr ag;replace ab:=ab.tr ag;have bR:=ag.size;refine LR.v1 (Y.cast (v2:= .int .i64 (big (b.drop a):Int)) (Y.assign rfl rfl) (rfl)) (LR.nil (aP _ _ ?_));refine CW.s2 (fun aQ ay=>CW.sr (fun az=>?_));refine LR.m1 ?_;refine LR.v1 (Y.gtr rfl rfl rfl) ?_;refine LR.m1 ?_;refine LR.splitp (d:=28) rfl (fun bw=>?_) (fun bw=>?_)
    ·
     have hno:oneW (recs l).length (b.drop a)=none:=oneW_big (.inl (by omega));refine LR.g1 ?_;refine LR.g1 ?_;refine LR.g1 ?_;refine LR.g1 ?_;refine LR.g1 ?_;refine LR.g1 ?_;refine LR.g1 ?_;refine LR.pt ?_;refine LR.nil (az _ _ ?_);refine CW.cond_t rfl ?_;refine CW.exit (ay (.exit 0) nofun _ _ (ao (.exit 0) nofun (by simp) _ _ (aj (.exit 0) nofun _ _ (aw _ _ ?_))));refine av _ _ (CW.sr (fun aR=>?_));refine LR.m1 ?_;refine LR.m1 ?_;refine LR.a1 ?_;refine LR.a1 ?_;refine LR.an ?_;refine aR _ _ ?_;refine CW.ret (hret .ret (.inr rfl) _ _ _ (res3 rfl rfl rfl rfl) ?_);obtain⟨q1,q2⟩:=hps.stop hno;obtain⟨so,rfl⟩:∃s:SV,vo=s.v:=⟨toSV vo,ow.sv.symm⟩;exact⟨so,l,ko,G,by rw[hps.e,←q2];rfl,q1,ow,(ax),hxa,ac.mono (by omega),hG,(f1),hm0⟩
    ·
     refine LR.wm ?_;refine LR.wm ?_;refine LR.w1 (Y.len hb rfl u'34 rfl) ?_;refine LR.wm ?_;refine LR.w1 (Y.subi rfl rfl rfl (by omega)) ?_;refine LR.w1 (Y.subi rfl rfl rfl (by omega)) ?_;refine LR.w1 (Y.gtr rfl rfl rfl) ?_;refine LR.pf ?_;refine LR.nil (az _ _ ?_);refine CW.condp rfl (fun bx=>?_) (fun bx=>?_)
     ·
      have hno:oneW (recs l).length (b.drop a)=none:=oneW_big (.inr (by omega));refine CW.exit (ay (.exit 0) nofun _ _ (ao (.exit 0) nofun (by simp) _ _ (aj (.exit 0) nofun _ _ (aw _ _ ?_))));refine av _ _ (CW.sr (fun aS=>?_));refine LR.m1 ?_;refine LR.m1 ?_;refine LR.a1 ?_;refine LR.a1 ?_;refine LR.an ?_;refine aS _ _ ?_;refine CW.ret (hret .ret (.inr rfl) _ _ _ (res3 rfl rfl rfl rfl) ?_);obtain⟨q1,q2⟩:=hps.stop hno;obtain⟨so,rfl⟩:∃s:SV,vo=s.v:=⟨toSV vo,ow.sv.symm⟩;exact⟨so,l,ko,G,by rw[hps.e,←q2];rfl,q1,ow,(ax),hxa,ac.mono (by omega),hG,(f1),hm0⟩
     ·
      have hrcl:(((b.drop a).drop 12).take (big (b.drop a))).length=big (b.drop a):=by rw[List.length_take,List.length_drop];omega
      refine CW.skip (aQ _ _ (CW.sr (fun aT=>?_)));refine LR.z1 (Z.litw _ (([]:List UInt8)) rfl inf34 rfl rfl rfl (by decide) (by decide) fB_len fB_one (rfl)) fun bS bd bz=>?_;obtain⟨nd,ah,bA,aU⟩:=bz;have be:bd.size=ar.size+1:=by rw[aU];simp
      have bB:=(DF.new (au.mono hm0.size):DF _ (ar.size+1));have bg:Dj ko (ar.size+1):=Dj.new ow.le;have bC:=(DF.new (ac.mono (by omega)):DF _ (ar.size+1));have bh:Nx 0 H0.size (ar.size+1):=Nx.new hm0.size;have bD:Nx 0 H0.size (ar.size+1):=Nx.new ab.size;replace hb:=hb.nw ah;replace ow:=ow.nw ah;replace hxa:=fun x hxa_=>(hxa x hxa_).nw ah;replace hm0:=hm0.tr ah;replace ab:=ab.tr ah;have bT:=ah.size;refine LR.m1 ?_;refine LR.m1 ?_;refine LR.v1 (Y.cast (v2:= .int .i64 ((a+12:Nat):Int)) (Y.addi rfl rfl rfl (by omega)) (ivv (by omega))) ?_;refine LR.m1 ?_;refine LR.v1 (Y.addi rfl rfl rfl (by omega)) ?_;refine LR.m1 ?_;refine LR.v1 (Y.cast (v2:= .int .i64 ((a+(12+big (b.drop a)):Nat):Int)) (Y.addi rfl rfl rfl (by omega)) (ivv (by omega))) ?_;refine LR.e1 (g:=fun v=>v) (Y.slice hb (a+12) (a+(12+big (b.drop a))) rfl u'34 s'5 rfl (.inr ⟨_,_,_,rfl,rfl,by first|rfl|omega⟩) (.inr ⟨_,_,_,rfl,rfl,by first|rfl|omega⟩) (by omega) (by omega)) fun bU rd45=>?_;rw[take_drop2]at rd45;refine LR.z1 (Z.apnd nd rd45 rfl inf34 rfl rfl (by simp only[List.length_nil];omega) (by simp only[List.length_nil];omega)) fun bi bj bE=>?_;obtain⟨aA,nd,ap,ae⟩:=bE;replace ap:Nx (ar.size+1) bd.size aA:=ap;replace ae:=ae.md;have aB:Dj ko aA:=Dj.app (bg) ow.le ap;have aV:Nx 0 H0.size aA:=Nx.tr (bh) ap hm0.size;replace hb:=hb.upL ae (DFL.o bB);replace ow:=ow.upL ae (DL.o bg);replace hxa:=fun x hxa_=>(hxa x hxa_).upL ae (DFL.o bC);replace hm0:=hm0.tq ae (MIL.o (MI.q bh));replace ab:=ab.tq ae (MIL.o (MI.q bD));have bV:=ae.size;have aW:=nd.le;rw[List.nil_append]at nd;obtain⟨aH,rfl⟩:∃s:SV,bi=s.v:=⟨toSV bi,nd.sv.symm⟩;refine LR.an ?_;refine aT _ _ (CW.s2 (fun aX aC=>CW.s1 (fun aD=>?_)));refine CW.region_any (fun Hq=>Nw bj Hq) [] rfl ?_;have hqs:=Nw.refl bj;refine LH.m1 0 rfl hqs ?_;refine LH.t1 1 rfl (fun Hq hq=>Y.cast (v2:= .int .i64 (l.length:Int)) (Y.len (ow.rd.nw hq) rfl u'22 rfl) (rfl)) hqs ?_;refine LH.m1 2 rfl hqs ?_;refine LH.m1 5 rfl hqs ?_;refine LH.m1 6 rfl hqs ?_;refine LH.m1 7 rfl hqs ?_;refine LH.t1 8 rfl (fun Hq hq=>Y.addi rfl rfl rfl (by omega)) hqs ?_;refine LH.m1 9 rfl hqs ?_;refine LH.t1 10 rfl (fun Hq hq=>Y.cast (v2:= .int .i64 ((a+(12+big (b.drop a)):Nat):Int)) (Y.addi rfl rfl rfl (by omega)) (ivv (by omega))) hqs ?_;refine LH.e (g:=fun v=>v) 11 (by kernel_rfl) rfl (by kernel_rfl) (by kernel_rfl) (by kernel_rfl) (Y.slice hb (a) (a+(12+big (b.drop a))) rfl u'34 s'5 rfl (.inr ⟨_,_,_,rfl,rfl,by first|rfl|omega⟩) (.inr ⟨_,_,_,rfl,rfl,by first|rfl|omega⟩) (by omega) (by omega)) (Wd.u rfl) rfl rfl hqs (fun bW rd58=>?_);rw[take_drop']at rd58;refine LH.t1 12 rfl (fun Hq hq=>Y.bstr (rd58.nw hq) rfl Tryz.underlying34 Tryz.underlying9 Tryz.underlying5 rfl) hqs ?_;refine LH.o1 3 ?_;refine LO.call rfl rfl c'61 rfl (Wd.u rfl) rfl rfl (record_ct l.length aH (((b.drop a).drop 12).take (big (b.drop a))) w0 _ nd.rd.any (by omega)) (fun bX aY bF=>?_);obtain⟨bY,bZ,rfl,aE,bG,af⟩:=bF;replace hb:=hb.nw af;replace ow:=ow.nw af;replace hxa:=fun x hxa_=>(hxa x hxa_).nw af;replace nd:=nd.nw af;replace hm0:=hm0.tr af;replace ab:=ab.tr af;have b0:=af.size;have aF:=aE.le;have aG:=hqs.tr af;refine⟨.inr aG,LH.narrow (SH2:=fun Hq=>Nw aY Hq) (fun Hq hq=>aG.tr hq) ?_⟩;have aa:=Nw.refl aY;refine LH.t1 4 rfl (fun Hq hq=>Y.bstr (aE.rd.nw hq) rfl Tryz.underlying34 Tryz.underlying9 Tryz.underlying5 rfl) aa ?_;refine LH.t1 13 rfl (fun Hq hq=>Y.sneq rfl rfl rfl) aa ?_;refine LH.m1 14 rfl aa ?_;refine LH.splitp (d:=61) rfl (fun aZ=>?_) (fun aZ=>?_)
      ·
       have hno:oneW (recs l).length (b.drop a)=none:=by rw[hln];exact oneW_ref1 aZ
       refine LH.g1 15 rfl rfl rfl rfl aa ?_;refine LH.g1 16 rfl rfl rfl rfl aa ?_;refine LH.g1 17 rfl rfl rfl rfl aa ?_;refine LH.g1 18 rfl rfl rfl rfl aa ?_;refine LH.g1 19 rfl rfl rfl rfl aa ?_;refine LH.g1 20 rfl rfl rfl rfl aa ?_;refine LH.g1 21 rfl rfl rfl rfl aa ?_;refine LH.g1 22 rfl rfl rfl rfl aa ?_;refine LH.t1 23 rfl (fun Hq hq=>Y.pick_t rfl rfl rfl) aa ?_;refine LH.done (by kernel_rfl) ?_;have hqe:=aa;refine aD _ _ ?_;refine CW.cond_t rfl ?_;refine CW.exit (aC (.exit 0) nofun _ _ (ao (.exit 0) nofun (by simp) _ _ (aj (.exit 0) nofun _ _ (aw _ _ ?_))));refine av _ _ (CW.sr (fun a0=>?_));refine LR.m1 ?_;refine LR.m1 ?_;refine LR.a1 ?_;refine LR.a1 ?_;refine LR.an ?_;refine a0 _ _ ?_;refine CW.ret (hret .ret (.inr rfl) _ _ _ (res3 rfl rfl rfl rfl) ?_);obtain⟨q1,q2⟩:=hps.stop hno;obtain⟨so,rfl⟩:∃s:SV,vo=s.v:=⟨toSV vo,ow.sv.symm⟩;exact⟨so,l,ko,G,by rw[hps.e,←q2];rfl,q1,ow,(ax),hxa,ac.mono (by omega),hG,(f1),hm0⟩
      ·
       have hly:layW l.length (((b.drop a).drop 12).take (big (b.drop a)))=(b.drop a).take (12+big (b.drop a)):=Decidable.byContradiction (fun h=>aZ h);refine LH.u1 15 rfl (fun Hq hq=>Y.move rfl rfl) (Wd.g rfl rfl rfl) aa ?_;refine LH.u1 16 rfl (fun Hq hq=>Y.move rfl rfl) (Wd.g rfl rfl rfl) aa ?_;refine LH.u1 17 rfl (fun Hq hq=>Y.addi rfl rfl rfl (by omega)) (Wd.g rfl rfl rfl) aa ?_;refine LH.u1 18 rfl (fun Hq hq=>Y.move rfl rfl) (Wd.g rfl rfl rfl) aa ?_;refine LH.u1 19 rfl (fun Hq hq=>Y.cast (v2:= .int .i64 ((a+(12+big (b.drop a)):Nat):Int)) (Y.addi rfl rfl rfl (by omega)) (ivv (by omega))) (Wd.g rfl rfl rfl) aa ?_;refine LH.e (g:=fun ad=> .pointer (some ad)) 20 (by kernel_rfl) rfl (by kernel_rfl) (by kernel_rfl) (by kernel_rfl) (Y.iF hb (a+(12+big (b.drop a))) rfl u'34 s'5 rfl rfl) (Wd.g rfl rfl rfl) rfl rfl aa (fun bH a2=>?_);refine LH.u1 21 rfl (fun Hq hq=>Y.load1 (a2.pt.nw hq) rfl a'5 rfl) (Wd.g rfl rfl rfl) aa ?_;refine LH.u1 22 rfl (fun Hq hq=>Y.neq rfl rfl rfl) (Wd.g rfl rfl rfl) aa ?_;refine LH.t1 23 rfl (fun Hq hq=>Y.pick_f rfl rfl rfl) aa ?_;refine LH.done (by kernel_rfl) ?_;have hqe:=aa;refine aD _ _ ?_;refine CW.condp rfl (fun a3=>?_) (fun a3=>?_)
       ·
        have hge:(b.drop a).getD (12+big (b.drop a)) 0=b[a+(12+big (b.drop a))]:=by rw[List.getD_eq_getElem?_getD,List.getElem?_drop,List.getElem?_eq_getElem (by omega)];rfl
        have hno:oneW (recs l).length (b.drop a)=none:=oneW_mark (by rw[hge];exact u8_ne a3 (by decide));refine CW.exit (aC (.exit 0) nofun _ _ (ao (.exit 0) nofun (by simp) _ _ (aj (.exit 0) nofun _ _ (aw _ _ ?_))));refine av _ _ (CW.sr (fun a4=>?_));refine LR.m1 ?_;refine LR.m1 ?_;refine LR.a1 ?_;refine LR.a1 ?_;refine LR.an ?_;refine a4 _ _ ?_;refine CW.ret (hret .ret (.inr rfl) _ _ _ (res3 rfl rfl rfl rfl) ?_);obtain⟨q1,q2⟩:=hps.stop hno;obtain⟨so,rfl⟩:∃s:SV,vo=s.v:=⟨toSV vo,ow.sv.symm⟩;exact⟨so,l,ko,G,by rw[hps.e,←q2];rfl,q1,ow,(ax),hxa,ac.mono (by omega),hG,(f1),hm0⟩
       ·
        have hge:(b.drop a).getD (12+big (b.drop a)) 0=b[a+(12+big (b.drop a))]:=by rw[List.getD_eq_getElem?_getD,List.getElem?_drop,List.getElem?_eq_getElem (by omega)];rfl
        have hyes:oneW (recs l).length (b.drop a)=some (((b.drop a).drop 12).take (big (b.drop a))):=by rw[hln];exact oneW_ref (by omega) (by omega) hly (by rw[hge];exact u8_eq (Decidable.byContradiction a3) (by decide))
        refine CW.skip (aX _ _ (CW.sr (fun a5=>?_)));refine LR.m1 ?_;refine LR.m1 ?_;refine LR.z1 (Z.litw _ ([(aH,((b.drop a).drop 12).take (big (b.drop a)))]) rfl inf22 rfl rfl rfl (by decide) (by decide) fP_len fP_one (rfl)) fun b1 bk bI=>?_;obtain⟨nw73,al,bJ,a6⟩:=bI;have bl:bk.size=aY.size+1:=by rw[a6];simp
        replace ow:=ow.nw al;replace hxa:=fun x hxa_=>(hxa x hxa_).nw al;replace nd:=nd.nw al;replace ab:=ab.tr al;have b2:=al.size;refine LR.z1 (Z.apnd ow nw73.rd rfl inf22 rfl rfl (by simp only[List.length_singleton];omega) (by simp only[List.length_singleton];omega)) fun bK b3 bL=>?_;obtain⟨aI,ow,am,ai⟩:=bL;replace am:Nx ko bk.size aI:=am;replace ai:=ai.md;have a7:=DF.app (f1) (ac.mono (by omega)) am;have a8:Dj aA aI:=Dj.app (aB.symm) nd.le am;have a9:Nx 0 H0.size aI:=Nx.tr (bc) am ab.size;replace hxa:=fun x hxa_=>(hxa x hxa_).upL ai (DFL.o f1);replace nd:=nd.upL ai (DL.o aB.symm);replace ab:=ab.tq ai (MIL.o (MI.q bc));have b4:=ai.size;have aq:=ow.le;refine LR.an ?_;refine a5 _ _ (CW.region ?_);refine LR.m1 ?_;refine LR.v1 (Y.addi rfl rfl rfl (by omega)) ?_;refine LR.m1 ?_;refine LR.v1 (Y.cast (v2:= .int .i64 ((a+(13+(((b.drop a).drop 12).take (big (b.drop a))).length):Nat):Int)) (Y.addi rfl rfl rfl (by omega)) (ivv (by omega))) ?_;refine LR.an ?_;refine aO _ _ ?_;refine QN.sub (aK (a+(13+(((b.drop a).drop 12).take (big (b.drop a))).length),bK,aI,l++[(aH,((b.drop a).drop 12).take (big (b.drop a)))],fun c=>G c∨c+1=aA) _ ?_ ?_) ⟨rfl,(iv (by omega)),rfl,trivial⟩
        ·exact⟨by unfold recs;rw[List.map_append];exact hps.step hyes,ow,snocP (α:=Unit) (fb:=fun _=>(aH,[])) hxa (fun c e=> .inl e) (nd.rd.imp (fun c _ e=> .inr e)),BF.or1 (ac.mono (by omega)) nd.le,DF.or1 (a7) (a8.symm),fun c e=>by rcases e with e|e;exact hG c e;exact(by have h9:=(aV);unfold Nx at h9;omega),a9,ab⟩
        ·show b.length-(a+(13+_))<b.length-a;omega
   ·
    have hno:oneW (recs l).length (b.drop a)=none:=oneW_short (by omega);refine CW.exit (aM (.exit 0) nofun _ _ (aj (.exit 0) nofun _ _ (aw _ _ ?_)));refine av _ _ (CW.sr (fun a_=>?_));refine LR.m1 ?_;refine LR.m1 ?_;refine LR.a1 ?_;refine LR.a1 ?_;refine LR.an ?_;refine a_ _ _ ?_;refine CW.ret (hret .ret (.inr rfl) _ _ _ (res3 rfl rfl rfl rfl) ?_);obtain⟨q1,q2⟩:=hps.stop hno;obtain⟨so,rfl⟩:∃s:SV,vo=s.v:=⟨toSV vo,ow.sv.symm⟩;exact⟨so,l,ko,G,by rw[hps.e,←q2];rfl,q1,ow,(ax),hxa,ac.mono (by omega),hG,(f1),hm0⟩
theorem run_next{Fs:List Stp}{i:Nat}{D:Dk}(h0:(runD (Fs.take i) D).1≠0):runD (Fs.take (i+1)) D=runD (Fs.take i) D:=by
 have e:Fs.take i=(Fs.take (i+1)).take i:=by rw[List.take_take,Nat.min_eq_left (Nat.le_succ i)]
 rw[e]at h0⊢
 conv=>rhs;rw[←runD_stop h0]
theorem rfresh_ct(K:List Nat)(g:Rg)(b:Nat)(D:Dk)(p:Pth)(s:SV)(l:List (SV×Rec))(N:Nat)(w0:World)(H0:Heap)
 (hf:RDk K g H0 b D) (hdl:g.dm.length≤1000000) (hl:p.length≤4294960000) (hr:RdT H0 fP 1 s.v l) (hx:∀x∈l,RdT H0 fB 1 x.1.v x.2) (hrl:∀x∈l,x.2.length≤1000000) (hel:(encN 0 (recs l)).length≤270000000000) (hB:Bs N D) (hN:N+4*((encW (recs l)).length+20)≤536870912):
 Ct Tryz.prog w0 54 #[ptr b,Str p,s.v] H0 (fun r H2=>∃K2:List Nat,∃g2:Rg,r= .int .i64 ((freshD D p (recs l)).1:Int)∧(RDk K2 g2 H2 b ((freshD D p (recs l)).2))∧(NxK K H0.size K2)∧(g2.dm.length≤g.dm.length+8)∧Mo (Ms K) H0 H2):=by
 refine Ct.enter (args:=[ptr b,Str p,s.v]) Tryz.func54 rfl rfl rfl ?_;intro Q0 hret;have hm0:Mo (Ms K) H0 H0:=Mo.refl _ _;have ah:=NxK.refl K H0.size;have af:=hf.bk;replace hr:=hr.bnd;replace hx:=fun x aL=>(hx x aL).bnd;have h8:W8.length=8:=rfl;have hel2:(encW (recs l)).length=W8.length+(encN 0 (recs l)).length:=by unfold encW;rw[List.length_append]
 have hbd0:=hB.bd (by omega);have htk1:=runD_take (Fs:=(frS p (recs l))) (D:=D) (i:=0) (by simp[frS,apS]) rfl;refine CW.sr (fun aZ=>?_);refine LR.an ?_;refine aZ _ _ (CW.seq (fun K2 a0 _=>CW.region ?_));refine LR.m1 ?_;refine LR.m1 ?_;refine LR.v1 (Y.cast (v2:=Str (newP p)) (Y.sadd rfl rfl rfl (by simp only[List.length_cons,List.length_nil];omega)) (rfl)) ?_;refine LR.m1 ?_;refine LR.call rfl c'89 rfl (Wd.u rfl) rfl rfl (rencode_ct s l w0 _ hr.any (fun x h=>(hx x h).any) hrl (by omega)) (fun bp bq a1=>?_);obtain⟨a2,a3,rfl,aw,aM,au⟩:=a1;have a4:DL a3 K:=DL.app2 (DL.zK) hf.bk aM;replace hf:=hf.nw au;replace hx:=fun x aL=>(hx x aL).nw au;replace hm0:=hm0.trN au;have br:=au.size;have az:=aw.le;refine LR.call rfl c'88 rfl (Wd.u rfl) rfl rfl (rwrite_ct K g b D (newP p) a2 (encW (recs l)) _ w0 _ hf aw.rd (BF.of aw.le) (DFL.of (a4)) (by omega) (by rw[newP_len];omega) hbd0 (by omega)) (fun bs ay a5=>?_);obtain⟨av,aR,rfl,hf,aA,a6,aB⟩:=a5;have aS:NxK K H0.size av:=NxK.tr (ah) aA hm0.size;replace hm0:=hm0.trL aB (MIL.ofK (ah) (by intro k hk;simp[hk]));have bt:=aB.size;have af:=hf.bk;rw[show D.lay (newP p) ⟨false,encW (recs l)⟩=(runD ((frS p (recs l)).take 1) D)from htk1.symm]at hf;refine LR.v1 (Y.cast (v2:= .int .i64 ((runD ((frS p (recs l)).take 1) D).1:Int)) (Y.assign rfl rfl) (by rw[htk1];rfl)) (LR.nil (a0 _ _ ?_))
 refine CW.cut (fun(s_:(List Nat)×(Rg))=>match s_ with|(Y2,gy2)=>[(0,ptr b),(1,Str p),(7,.int .i64 ((runD ((frS p (recs l)).take 2) D).1:Int))])
  (fun(Y2,gy2) (H:Heap)=>(RDk Y2 gy2 H b (runD ((frS p (recs l)).take 2) D).2)∧(gy2.dm.length≤g.dm.length+4)∧(NxK av ay.size Y2)∧Mo (Ms av) ay H) (fun _ aT _=>?_) ?_
 ·
  have am:Mo (Ms av) ay ay:=Mo.refl _ _;have ac:=NxK.refl av ay.size;refine CW.sr (fun a7=>?_);refine LR.m1 ?_;refine LR.v1 (Y.eql rfl rfl rfl) (LR.nil (a7 _ _ ?_));refine CW.condp rfl (fun a8=>?_) (fun a8=>?_)
  ·
   have htk2:=runD_take (Fs:=(frS p (recs l))) (D:=D) (i:=1) (by simp[frS,apS]) (by omega);have hbd1:=(bs_runT 1 (frS_bs p (recs l)) hB).bd (by have h4:(frS p (recs l)).length=4:=rfl;rw[h4];omega);refine CW.region ?_;refine LR.m1 ?_;refine LR.m1 ?_;refine LR.v1 (Y.cast (v2:=Str (newP p)) (Y.sadd rfl rfl rfl (by simp only[List.length_cons,List.length_nil];omega)) (rfl)) ?_;refine LR.call rfl c'62 rfl (Wd.u rfl) rfl rfl (rsync_ct av aR b (runD ((frS p (recs l)).take 1) D).2 (newP p) w0 _ hf (by omega) (by rw[newP_len];omega) hbd1) (fun bu bv a9=>?_);obtain⟨aU,a_,rfl,hf,aC,ba,aD⟩:=a9;have aN:NxK av ay.size aU:=NxK.tr (ac) aC am.size;replace am:=am.trL aD (MIL.ofK (ac) (by intro k hk;simp[hk]));have bw:=aD.size;have af:=hf.bk;refine LR.v1 (Y.cast (v2:= .int .i64 ((runD ((frS p (recs l)).take 2) D).1:Int)) (Y.assign rfl rfl) (by rw[htk2];rfl)) (LR.nil ?_);refine QN.sub (aT (aU,a_) _ ?_) ⟨rfl,rfl,(by first|rfl|(rw[hnx2];rfl)),trivial⟩;exact⟨by rw[htk2];exact hf,by omega,aN,am⟩
  ·
   have hnx2:=run_next (Fs:=(frS p (recs l))) (D:=D) (i:=1) (by omega);refine CW.skip ?_;refine QN.sub (aT (av,aR) _ ?_) ⟨rfl,rfl,(by first|rfl|(rw[hnx2];rfl)),trivial⟩;exact⟨by rw[hnx2];exact hf,by omega,ac,am⟩
 ·
  rintro⟨Y2,gy2⟩ aa ao;obtain⟨hf,hgy2,ag,ai⟩:=ao;have aE:NxK K H0.size Y2:=NxK.tr (aS) ag hm0.size;replace hm0:=hm0.trL ai (MIL.ofK (aS) (by intro k hk;simp[hk]));have bx:=ai.size;have af:=hf.bk
  refine CW.cut (fun(s_:(List Nat)×(Rg))=>match s_ with|(Y3,gy3)=>[(0,ptr b),(1,Str p),(7,.int .i64 ((runD ((frS p (recs l)).take 3) D).1:Int))])
   (fun(Y3,gy3) (H:Heap)=>(RDk Y3 gy3 H b (runD ((frS p (recs l)).take 3) D).2)∧(gy3.dm.length≤g.dm.length+6)∧(NxK Y2 aa.size Y3)∧Mo (Ms Y2) aa H) (fun _ aV _=>?_) ?_
  ·
   have ap:Mo (Ms Y2) aa aa:=Mo.refl _ _;have ad:=NxK.refl Y2 aa.size;refine CW.sr (fun bb=>?_);refine LR.m1 ?_;refine LR.v1 (Y.eql rfl rfl rfl) (LR.nil (bb _ _ ?_));refine CW.condp rfl (fun bc=>?_) (fun bc=>?_)
   ·
    have htk3:=runD_take (Fs:=(frS p (recs l))) (D:=D) (i:=2) (by simp[frS,apS]) (by omega);have hbd2:=(bs_runT 2 (frS_bs p (recs l)) hB).bd (by have h4:(frS p (recs l)).length=4:=rfl;rw[h4];omega);refine CW.region ?_;refine LR.m1 ?_;refine LR.m1 ?_;refine LR.v1 (Y.cast (v2:=Str (newP p)) (Y.sadd rfl rfl rfl (by simp only[List.length_cons,List.length_nil];omega)) (rfl)) ?_;refine LR.m1 ?_;refine LR.call rfl c'90 rfl (Wd.u rfl) rfl rfl (rrename_ct Y2 gy2 b (runD ((frS p (recs l)).take 2) D).2 (newP p) p w0 _ hf (by omega) (by rw[newP_len];omega) (by omega) hbd2) (fun bz bA be=>?_);obtain⟨aW,bf,rfl,hf,aF,bg,aG⟩:=be;have aO:NxK Y2 aa.size aW:=NxK.tr (ad) aF ap.size;replace ap:=ap.trL aG (MIL.ofK (ad) (by intro k hk;simp[hk]));have bB:=aG.size;have af:=hf.bk;refine LR.v1 (Y.cast (v2:= .int .i64 ((runD ((frS p (recs l)).take 3) D).1:Int)) (Y.assign rfl rfl) (by rw[htk3];rfl)) (LR.nil ?_);refine QN.sub (aV (aW,bf) _ ?_) ⟨rfl,rfl,(by first|rfl|(rw[hnx3];rfl)),trivial⟩;exact⟨by rw[htk3];exact hf,by omega,aO,ap⟩
   ·
    have hnx3:=run_next (Fs:=(frS p (recs l))) (D:=D) (i:=2) (by omega);refine CW.skip ?_;refine QN.sub (aV (Y2,gy2) _ ?_) ⟨rfl,rfl,(by first|rfl|(rw[hnx3];rfl)),trivial⟩;exact⟨by rw[hnx3];exact hf,by omega,ad,ap⟩
  ·
   rintro⟨Y3,gy3⟩ ab aq;obtain⟨hf,hgy3,ag,aj⟩:=aq;have aH:NxK K H0.size Y3:=NxK.tr (aE) ag hm0.size;replace hm0:=hm0.trL aj (MIL.ofK (aE) (by intro k hk;simp[hk]));have bC:=aj.size;have af:=hf.bk
   refine CW.cut (fun(s_:(List Nat)×(Rg))=>match s_ with|(Y4,gy4)=>[(7,.int .i64 ((runD ((frS p (recs l)).take 4) D).1:Int))])
    (fun(Y4,gy4) (H:Heap)=>(RDk Y4 gy4 H b (runD ((frS p (recs l)).take 4) D).2)∧(gy4.dm.length≤g.dm.length+8)∧(NxK Y3 ab.size Y4)∧Mo (Ms Y3) ab H) (fun _ aX _=>?_) ?_
   ·
    have ak:Mo (Ms Y3) ab ab:=Mo.refl _ _;have ae:=NxK.refl Y3 ab.size;refine CW.sr (fun bh=>?_);refine LR.m1 ?_;refine LR.v1 (Y.eql rfl rfl rfl) (LR.nil (bh _ _ ?_));refine CW.condp rfl (fun bi=>?_) (fun bi=>?_)
    ·
     have htk4:=runD_take (Fs:=(frS p (recs l))) (D:=D) (i:=3) (by simp[frS,apS]) (by omega);have hbd3:=(bs_runT 3 (frS_bs p (recs l)) hB).bd (by have h4:(frS p (recs l)).length=4:=rfl;rw[h4];omega);refine CW.region ?_;refine LR.m1 ?_;refine LR.m1 ?_;refine LR.call rfl c'92 rfl (Wd.u rfl) rfl rfl (rdir_ct p w0 _ (by omega)) (fun bD bE bj=>?_);obtain⟨rfl,ax⟩:=bj;replace hf:=hf.nw ax;replace ak:=ak.trN ax;have bF:=ax.size;refine LR.call rfl c'91 rfl (Wd.u rfl) rfl rfl (rsyncDir_ct Y3 gy3 b (runD ((frS p (recs l)).take 3) D).2 (dirP p) w0 _ hf (by omega) (by have:=WalD.dirP_le p;omega) hbd3) (fun bG bH bl=>?_);obtain⟨aY,bm,rfl,hf,aI,bn,aJ⟩:=bl;have aP:NxK Y3 ab.size aY:=NxK.tr (ae) aI ak.size;replace ak:=ak.trL aJ (MIL.ofK (ae) (by intro k hk;simp[hk]));have bI:=aJ.size;have af:=hf.bk;refine LR.v1 (Y.cast (v2:= .int .i64 ((runD ((frS p (recs l)).take 4) D).1:Int)) (Y.assign rfl rfl) (by rw[htk4];rfl)) (LR.nil ?_);refine QN.sub (aX (aY,bm) _ ?_) ⟨(by first|rfl|(rw[hnx4];rfl)),trivial⟩;exact⟨by rw[htk4];exact hf,by omega,aP,ak⟩
    ·
     have hnx4:=run_next (Fs:=(frS p (recs l))) (D:=D) (i:=3) (by omega);refine CW.skip ?_;refine QN.sub (aX (Y3,gy3) _ ?_) ⟨(by first|rfl|(rw[hnx4];rfl)),trivial⟩;exact⟨by rw[hnx4];exact hf,by omega,ae,ak⟩
   ·
    rintro⟨Y4,gy4⟩ aK ar;obtain⟨hf,hgy4,ag,al⟩:=ar;have aQ:NxK K H0.size Y4:=NxK.tr (aH) ag hm0.size;replace hm0:=hm0.trL al (MIL.ofK (aH) (by intro k hk;simp[hk]));refine CW.sr (fun bo=>?_);refine LR.m1 ?_;refine LR.an ?_;refine bo _ _ ?_;refine CW.ret (hret .ret (.inr rfl) _ _ _ (res1 rfl rfl) ?_);exact⟨_,gy4,rfl,hf,aQ,hgy4,hm0⟩
end WdkB

namespace WdkC
open E Go.RowKit SumB SumC SumF SumG DelA SimA SimB SimC SimD SimE SimF SimG SimH SimI SimL SimN SimQ SimR SimS SimU SimX WalA WalB WalC WalD WalE WalF WalG WalH WalI WalJ WalK DskA DskB DskC DskD DskE DskF DskH DskI WdkA WdkB
set_option maxRecDepth 100000 in
theorem inf22:Inf Tryz.prog 22 34 1 24:=⟨Tryz.underlying22,_,_,rfl,rfl,rfl,rfl,rfl⟩
set_option maxRecDepth 100000 in
theorem inf34:Inf Tryz.prog 34 5 1 1:=⟨Tryz.underlying34,_,_,rfl,rfl,rfl,rfl,rfl⟩
theorem rapp_ct(K:List Nat)(g:Rg)(b:Nat)(D:Dk)(lb:Nat)(p:Pth)(lv:SV)(kL:Nat)(l:List (SV×Rec))(br:Bool)(s:SV)(rc:Rec)(F G:Nat→Prop)(N:Nat)(w0:World)(H0:Heap)
 (hf:RDk K g H0 b D) (hlg:Var 64 H0 lb [ptr b,Str p,lv.v,.bool br]) (hL:Ow kL 34 H0 fP 1 lv.v l) (dlf:DL (lb+1) K) (dLf:DL kL K) (dlL:Dj (lb+1) kL) (hxl:∀x∈l,Rd G H0 fB 1 x.1.v x.2) (bf_hxl:BF G H0.size) (dgf:DFL G K) (dgl:DF G (lb+1)) (dgL:DF G kL) (hr:Rd F H0 fB 1 s.v rc) (bf_hr:BF F H0.size) (dfr:DFL F K) (dfl:DF F (lb+1)) (dfL:DF F kL) (hrl:rc.length≤1000000) (hdl:g.dm.length≤1000000) (hl:p.length≤4294960000) (hxr:∀x∈l,x.2.length≤1000000) (hel:(encN 0 (recs l)).length≤500000) (hll:l.length≤500000) (hB:Bs N D) (hN:N≤1000000):
 Ct Tryz.prog w0 22 #[ptr lb,s.v] H0 (fun r H2=>∃K2:List Nat,∃g2:Rg,∃lv2:SV,∃kL2:Nat,∃l2:List (SV×Rec),∃G2:Nat→Prop,r= .int .i64 ((appR D p (recs l) br rc).1:Int)∧(RDk K2 g2 H2 b ((appR D p (recs l) br rc).2.2.2))∧(NxK K H0.size K2)∧(g2.dm.length≤g.dm.length+20)∧(Var 64 H2 lb [ptr b,Str p,lv2.v,.bool (appR D p (recs l) br rc).2.2.1])∧(Ow kL2 34 H2 fP 1 lv2.v l2)∧(Nx kL H0.size kL2)∧(DL (lb+1) K2)∧(DL kL2 K2)∧(Dj (lb+1) kL2)∧(recs l2=(appR D p (recs l) br rc).2.1)∧(∀x∈l2,Rd G2 H2 fB 1 x.1.v x.2)∧(∀c,G2 c→G c∨H0.size≤c)∧(BF G2 H2.size)∧(DFL G2 K2)∧(DF G2 (lb+1))∧(DF G2 kL2)∧Mo (Ms (K++[(lb+1),kL])) H0 H2):=by
 refine Ct.enter (args:=[ptr lb,s.v]) Tryz.func22 rfl rfl rfl ?_;intro Q0 hret;have hm0:Mo (Ms (K++[(lb+1),kL])) H0 H0:=Mo.refl _ _;have aq:=NxK.refl K H0.size;have al:=hf.bk;have ak:=Nx.refl (lb+1) H0.size;have cl:=hlg.lt;have ai:=Nx.refl kL H0.size;have bj:=hL.le;have hrn:(recs l).length=l.length:=by simp[recs]
 have h8:W8.length=8:=rfl;have hel2:(encW (recs l)).length=W8.length+(encN 0 (recs l)).length:=by unfold encW;rw[List.length_append]
 have hly:=layW_len (recs l).length rc;refine CW.seq (fun K1 dh _=>CW.region ?_);refine LR.an ?_;refine dh _ _ (CW.seq (fun K2 di _=>CW.sr (fun dj=>?_)));refine LR.m1 ?_;refine LR.v1 (Y.len hr rfl u'34 rfl) ?_;refine LR.v1 ((Y.gtr rfl rfl rfl).isF (by omega)) (LR.nil (dj _ _ ?_));refine CW.cond_f rfl ?_;refine CW.skip (di _ _ ?_)
 refine CW.cut (fun(s_:(List Nat)×(Rg)×(Dk))=>match s_ with|(K1,g1,D1)=>[(0,ptr lb),(1,s.v)])
  (fun(K1,g1,D1) (H:Heap)=>(RDk K1 g1 H b D1)∧(Var 64 H lb [ptr b,Str p,lv.v,.bool false])∧(preR D p (recs l) br=(0,D1))∧(Bs (N+2400000) D1)∧(g1.dm.length≤g.dm.length+8)∧(NxK K H0.size K1)∧(DL (lb+1) K1)∧Mo (Ms (K++[(lb+1)])) H0 H) (fun _ c9 dk=>?_) ?_
 ·
  have aN:Mo (Ms (K++[(lb+1)])) H0 H0:=Mo.refl _ _;have au:=NxK.refl K H0.size;have aH:=Nx.refl (lb+1) H0.size;refine CW.sr (fun dl=>?_);refine LR.m1 ?_;refine LR.n1 ?_;refine LR.v1 (Y.FA hlg.pt rfl u'64 rfl s'4) ?_;refine LR.v1 (Y.load1 (hlg.pt.drop 3) rfl a'4 rfl) (LR.nil (dl _ _ ?_));refine CW.cond rfl (fun bx=>?_) (fun bx=>?_)
  ·
   refine CW.s1 (fun dn=>?_);refine CW.region_tail 12 rfl (by kernel_rfl) (fun T4 hT4=>?_);refine LR.m1 ?_;refine LR.n1 ?_;refine LR.v1 (Y.FA hlg.pt rfl u'64 rfl s'45) ?_;refine LR.v1 (Y.load1 hlg.pt rfl a'45 rfl) ?_;refine LR.m1 ?_;refine LR.n1 ?_;refine LR.v1 (Y.FA hlg.pt rfl u'64 rfl s'9) ?_;refine LR.v1 (Y.load1 (hlg.pt.drop 1) rfl a'9 rfl) ?_;refine LR.m1 ?_;refine LR.n1 ?_;refine LR.v1 (Y.FA hlg.pt rfl u'64 rfl s'22) ?_;refine LR.v1 (Y.load1 (hlg.pt.drop 2) rfl a'22 rfl) ?_;refine LR.nil (hT4 _ ?_);refine LR.call rfl c'54 rfl (Wd.u rfl) rfl rfl (rfresh_ct K g b D p lv l N w0 _ hf (by omega) hl hL.rd.any (fun x h=>(hxl x h).any) hxr (by omega) hB (by omega)) (fun ea eb dp=>?_);have dq:=hlg.lt;have dr:=hL.le;obtain⟨bz,c_,rfl,hf,aI,ds,aR⟩:=dp;have co:DL (lb+1) bz:=DL.appK (dlf) dq aI;have dt:DL kL bz:=DL.appK (dLf) dr aI;have du:=DFL.appK (dgf) (bf_hxl.mono hm0.size) aI;have dv:NxK K H0.size bz:=NxK.tr (aq) aI hm0.size;have dw:NxK K H0.size bz:=NxK.tr (au) aI aN.size;replace hlg:=hlg.upL aR (dlf);replace hL:=hL.upL aR (dLf);replace hxl:=fun x hx_=>(hxl x hx_).upL aR (dgf);replace hm0:=hm0.trL aR (MIL.ofK (aq) (by intro k hk;simp[hk]));replace aN:=aN.trL aR (MIL.ofK (au) (by intro k hk;simp[hk]));have ec:=aR.size;have al:=hf.bk;refine LR.an ?_;refine dn _ _ (CW.s2 (fun dx dy=>CW.sr (fun dz=>?_)));refine LR.m1 ?_;refine LR.v1 (Y.neq rfl rfl rfl) (LR.nil (dz _ _ ?_));refine CW.condp rfl (fun dA=>?_) (fun dA=>?_)
   ·
    refine CW.sr (fun dB=>?_);refine LR.m1 ?_;refine LR.an ?_;refine dB _ _ ?_;refine CW.ret (dy .ret nofun _ _ (dk .ret nofun _ _ (hret .ret (.inr rfl) _ _ _ (res1 rfl rfl) ?_)));have hne:(preR D p (recs l) br).1≠0:=by unfold preR;rw[if_pos bx];omega
    have hgo:=appR_bad (r:=rc) hne;have hpr:preR D p (recs l) br=freshD D p (recs l):=by unfold preR;rw[if_pos bx]
    rw[hpr]at hgo;exact⟨bz,c_,lv,kL,l,G,by rw[hgo],by rw[hgo];exact hf,dv,by omega,by rw[hgo];exact hlg,hL,ai,co,dt,dlL,by rw[hgo],hxl,(fun c h=> .inl h),bf_hxl.mono (by omega),(du),(dgl),(dgL),hm0⟩
   ·
    refine CW.skip (dx _ _ (CW.region ?_));refine LR.m1 ?_;refine LR.n1 ?_;refine LR.v1 (Y.FA hlg.pt rfl u'64 rfl s'4) ?_;refine LR.s1 (S.var1 hlg 3 ([ptr b,Str p,lv.v,.bool false]) rfl rfl rfl (rfl) s'4 (by simp) (rfl)) fun dC cp=>?_;obtain⟨hlg,aJ⟩:=cp;replace aJ:=aJ.md1;replace hf:=hf.upL aJ (DKL.cons co DKL.nil);replace aN:=aN.trL aJ (MIL.o (MI.r aH));have ed:=aJ.size;refine LR.nil ?_;refine QN.sub (c9 (bz,c_,(freshD D p (recs l)).2) _ ?_) ⟨rfl,rfl,trivial⟩;exact⟨hf,hlg,by unfold preR;rw[if_pos bx];exact Prod.ext (by show(freshD D p (recs l)).1=0;omega) rfl,(bs_fresh hB p (recs l)).mono (by omega),by omega,dw,co,aN⟩
  ·
   refine CW.skip ?_;refine QN.sub (c9 (K,g,D) _ ?_) ⟨rfl,rfl,trivial⟩;exact⟨hf,by rw[show br=false by simpa using bx]at hlg;exact hlg,by unfold preR;rw[if_neg (by simp[show br=false by simpa using bx])],hB.mono (by omega),by omega,au,dlf,aN⟩
 ·
  rintro⟨K1,g1,D1⟩ cm aX;obtain⟨hf,hlg,hpre,hB1,ee,ab,aS,aj⟩:=aX;have bl:DL kL K1:=DL.appK (dLf) hL.le ab;have bD:=DFL.appK (dgf) (bf_hxl.mono hm0.size) ab;have bE:=DFL.appK (dfr) (bf_hr.mono hm0.size) ab;have bF:NxK K H0.size K1:=NxK.tr (aq) ab hm0.size;replace hL:=hL.upL aj (DL.app dLf (DL.o dlL.symm));replace hxl:=fun x hx_=>(hxl x hx_).upL aj (DFL.app dgf (DFL.o dgl));replace hr:=hr.upL aj (DFL.app dfr (DFL.o dfl));replace hm0:=hm0.trL aj (MIL.app (MIL.ofK (aq) (by intro k hk;simp[hk])) (MIL.o (MI.r ak)));have ef:=aj.size;have al:=hf.bk;have aF:=aS;have hbd0:=hB1.bd (by omega);have htk1:=runD_take (Fs:=(apS p (recs l).length rc)) (D:=D1) (i:=0) (by simp[frS,apS]) rfl;refine CW.sr (fun cq=>?_);refine LR.m1 ?_;refine LR.n1 ?_;refine LR.v1 (Y.FA hlg.pt rfl u'64 rfl s'4) ?_;refine LR.s1 (S.var1 hlg 3 ([ptr b,Str p,lv.v,.bool true]) rfl rfl rfl (rfl) s'4 (by simp) (rfl)) fun aY cr=>?_;obtain⟨hlg,az⟩:=cr;replace az:=az.md1;replace hf:=hf.upL az (DKL.cons aF DKL.nil);replace hL:=hL.upL az (DL.o dlL.symm);replace hxl:=fun x hx_=>(hxl x hx_).upL az (DFL.o dgl);replace hr:=hr.upL az (DFL.o dfl);replace hm0:=hm0.trL az (MIL.o (MI.r ak));have eg:=az.size;refine LR.nil (cq _ _ (CW.s1 (fun cs=>?_)));refine CW.region_any (fun Hq=>Mo (Ms K1) aY Hq) [] rfl ?_;have ay:Mo (Ms K1) aY aY:=Mo.refl _ _;have ct:=NxK.refl K1 aY.size;refine LH.m1 0 rfl ay ?_;refine LH.n1 1 rfl ay ?_;refine LH.t1 2 rfl (fun Hq hq=>Y.fieldAddr (hlg.upL hq (aF)).pt rfl u'64 rfl rfl s'45 (by decide) rfl) ay ?_;refine LH.t1 3 rfl (fun Hq hq=>Y.load1 (hlg.upL hq (aF)).pt rfl a'45 rfl) ay ?_;refine LH.m1 4 rfl ay ?_;refine LH.n1 5 rfl ay ?_;refine LH.t1 6 rfl (fun Hq hq=>Y.fieldAddr (hlg.upL hq (aF)).pt rfl u'64 rfl rfl s'9 (by decide) rfl) ay ?_;refine LH.t1 7 rfl (fun Hq hq=>Y.load1 ((hlg.upL hq (aF)).pt.drop 1) rfl a'9 rfl) ay ?_;refine LH.m1 8 rfl ay ?_;refine LH.n1 9 rfl ay ?_;refine LH.t1 10 rfl (fun Hq hq=>Y.fieldAddr (hlg.upL hq (aF)).pt rfl u'64 rfl rfl s'22 (by decide) rfl) ay ?_;refine LH.t1 11 rfl (fun Hq hq=>Y.load1 ((hlg.upL hq (aF)).pt.drop 2) rfl a'22 rfl) ay ?_;refine LH.t1 12 rfl (fun Hq hq=>Y.cast (v2:= .int .i64 (l.length:Int)) (Y.len (hL.upL hq (bl)).rd rfl u'22 rfl) (rfl)) ay ?_;refine LH.m1 13 rfl ay ?_;refine LH.o1 14 ?_;refine LO.call rfl rfl c'61 rfl (Wd.u rfl) rfl rfl (record_ct l.length s rc w0 _ hr.any hrl) (fun eh bA dD=>?_);obtain⟨dE,bm,rfl,a2,bG,aK⟩:=dD;have cu:DL bm K1:=DL.app2 (DL.zK) hf.bk bG;have cv:Nx 0 aY.size bm:=Nx.tr (Nx.refl 0 _) bG ay.size;replace hf:=hf.nw aK;replace hL:=hL.nw aK;replace hxl:=fun x hx_=>(hxl x hx_).nw aK;replace hr:=hr.nw aK;replace hlg:=hlg.nw aK;replace hm0:=hm0.trN aK;replace ay:=ay.trN aK;have ei:=aK.size;have bH:=a2.le;rw[←hrn]at a2;refine⟨.inr ay,LH.narrow (SH2:=fun Hq=>Mo (Ms (K1++[bm])) bA Hq) (fun Hq hq=>ay.trL hq (MIL.app (MIL.ofK (ct) (by intro k hk;simp[hk])) (MIL.o (MI.q cv)))) ?_⟩;have ay:Mo (Ms (K1++[bm])) bA bA:=Mo.refl _ _;have bI:=NxK.refl K1 bA.size;have cw:=Nx.refl bm bA.size;refine LH.o1 15 ?_;refine LO.call rfl rfl c'60 rfl (Wd.u rfl) rfl rfl (rappend_ct K1 g1 b D1 p dE (layW (recs l).length rc) _ w0 _ hf a2.rd (BF.of a2.le) (DFL.of (cu)) (by omega) (by omega) hbd0 (by omega)) (fun ej a3 dF=>?_);have cx:=hL.le;have cy:=hlg.lt;obtain⟨aT,da,rfl,hf,aE,dG,aO⟩:=dF;have bJ:DL kL aT:=DL.appK (bl) cx aE;have bK:=DFL.appK (bD) (bf_hxl.mono hm0.size) aE;have bL:=DFL.appK (bE) (bf_hr.mono hm0.size) aE;have bM:DL (lb+1) aT:=DL.appK (aF) cy aE;have bN:NxK K H0.size aT:=NxK.tr (bF) aE hm0.size;have cz:NxK K1 bA.size aT:=NxK.tr (bI) aE ay.size;replace hL:=hL.upL aO (bl);replace hxl:=fun x hx_=>(hxl x hx_).upL aO (bD);replace hr:=hr.upL aO (bE);replace hlg:=hlg.upL aO (aF);replace hm0:=hm0.trL aO (MIL.ofK (bF) (by intro k hk;simp[hk]));replace ay:=ay.trL aO (MIL.ofK (bI) (by intro k hk;simp[hk]));have ek:=aO.size;have al:=hf.bk;rw[show D1.lay p ⟨true,layW (recs l).length rc⟩=(runD ((apS p (recs l).length rc).take 1) D1)from htk1.symm]at hf;refine⟨.inr ay,LH.narrow (SH2:=fun Hq=>Mo (Ms (aT++[bm])) a3 Hq) (fun Hq hq=>ay.trL hq (MIL.app (MIL.ofK (cz) (by intro k hk;simp[hk])) (MIL.o (MI.r cw)))) ?_⟩;have ay:Mo (Ms (aT++[bm])) a3 a3:=Mo.refl _ _;refine LH.t1 16 rfl (fun Hq hq=>Y.cast (v2:= .int .i64 ((runD ((apS p (recs l).length rc).take 1) D1).1:Int)) (Y.assign rfl rfl) (by rw[htk1];rfl)) ay ?_;refine LH.done (by kernel_rfl) ?_;refine cs _ _ ?_
  refine CW.cut (fun(s_:(List Nat)×(Rg))=>match s_ with|(Y2,gy2)=>[(0,ptr lb),(1,s.v),(6,.int .i64 ((runD ((apS p (recs l).length rc).take 2) D1).1:Int))])
   (fun(Y2,gy2) (H:Heap)=>(RDk Y2 gy2 H b (runD ((apS p (recs l).length rc).take 2) D1).2)∧(gy2.dm.length≤g.dm.length+12)∧(NxK aT a3.size Y2)∧Mo (Ms aT) a3 H) (fun _ bO _=>?_) ?_
  ·
   have aL:Mo (Ms aT) a3 a3:=Mo.refl _ _;have am:=NxK.refl aT a3.size;refine CW.sr (fun cA=>?_);refine LR.m1 ?_;refine LR.v1 (Y.eql rfl rfl rfl) (LR.nil (cA _ _ ?_));refine CW.condp rfl (fun dH=>?_) (fun dH=>?_)
   ·
    have htk2:=runD_take (Fs:=(apS p (recs l).length rc)) (D:=D1) (i:=1) (by simp[frS,apS]) (by omega);have hbd1:=(bs_runT 1 (apS_bs p (recs l).length rc) hB1).bd (by have h4:(apS p (recs l).length rc).length=4:=rfl;rw[h4];omega);refine CW.region_tail 8 rfl (by kernel_rfl) (fun T11 hT11=>?_);refine LR.m1 ?_;refine LR.n1 ?_;refine LR.v1 (Y.FA hlg.pt rfl u'64 rfl s'45) ?_;refine LR.v1 (Y.load1 hlg.pt rfl a'45 rfl) ?_;refine LR.m1 ?_;refine LR.n1 ?_;refine LR.v1 (Y.FA hlg.pt rfl u'64 rfl s'9) ?_;refine LR.v1 (Y.load1 (hlg.pt.drop 1) rfl a'9 rfl) ?_;refine LR.nil (hT11 _ ?_);refine LR.call rfl c'62 rfl (Wd.u rfl) rfl rfl (rsync_ct aT da b (runD ((apS p (recs l).length rc).take 1) D1).2 p w0 _ hf (by omega) (by omega) hbd1) (fun el em dI=>?_);obtain⟨db,dJ,rfl,hf,bP,dK,bQ⟩:=dI;have cB:NxK aT a3.size db:=NxK.tr (am) bP aL.size;replace aL:=aL.trL bQ (MIL.ofK (am) (by intro k hk;simp[hk]));have en:=bQ.size;have al:=hf.bk;refine LR.v1 (Y.cast (v2:= .int .i64 ((runD ((apS p (recs l).length rc).take 2) D1).1:Int)) (Y.assign rfl rfl) (by rw[htk2];rfl)) (LR.nil ?_);refine QN.sub (bO (db,dJ) _ ?_) ⟨rfl,rfl,(by first|rfl|(rw[hnx2];rfl)),trivial⟩;exact⟨by rw[htk2];exact hf,by omega,cB,aL⟩
   ·
    have hnx2:=run_next (Fs:=(apS p (recs l).length rc)) (D:=D1) (i:=1) (by omega);refine CW.skip ?_;refine QN.sub (bO (aT,da) _ ?_) ⟨rfl,rfl,(by first|rfl|(rw[hnx2];rfl)),trivial⟩;exact⟨by rw[hnx2];exact hf,by omega,am,aL⟩
  ·
   rintro⟨Y2,gy2⟩ aa aZ;obtain⟨hf,hgy2,ab,af⟩:=aZ;have bR:DL kL Y2:=DL.appK (bJ) hL.le ab;have bS:=DFL.appK (bK) (bf_hxl.mono hm0.size) ab;have bT:=DFL.appK (bL) (bf_hr.mono hm0.size) ab;have aU:DL (lb+1) Y2:=DL.appK (bM) hlg.lt ab;have bU:NxK K H0.size Y2:=NxK.tr (bN) ab hm0.size;replace hL:=hL.upL af (bJ);replace hxl:=fun x hx_=>(hxl x hx_).upL af (bK);replace hr:=hr.upL af (bL);replace hlg:=hlg.upL af (bM);replace hm0:=hm0.trL af (MIL.ofK (bN) (by intro k hk;simp[hk]));have eo:=af.size;have al:=hf.bk
   refine CW.cut (fun(s_:(List Nat)×(Rg))=>match s_ with|(Y3,gy3)=>[(0,ptr lb),(1,s.v),(6,.int .i64 ((runD ((apS p (recs l).length rc).take 3) D1).1:Int))])
    (fun(Y3,gy3) (H:Heap)=>(RDk Y3 gy3 H b (runD ((apS p (recs l).length rc).take 3) D1).2)∧(gy3.dm.length≤g.dm.length+14)∧(NxK Y2 aa.size Y3)∧Mo (Ms Y2) aa H) (fun _ bV _=>?_) ?_
   ·
    have ar:Mo (Ms Y2) aa aa:=Mo.refl _ _;have ao:=NxK.refl Y2 aa.size;refine CW.sr (fun cC=>?_);refine LR.m1 ?_;refine LR.v1 (Y.eql rfl rfl rfl) (LR.nil (cC _ _ ?_));refine CW.condp rfl (fun dL=>?_) (fun dL=>?_)
    ·
     have htk3:=runD_take (Fs:=(apS p (recs l).length rc)) (D:=D1) (i:=2) (by simp[frS,apS]) (by omega);have hbd2:=(bs_runT 2 (apS_bs p (recs l).length rc) hB1).bd (by have h4:(apS p (recs l).length rc).length=4:=rfl;rw[h4];omega);refine CW.region_any (fun Hq=>Mo (Ms Y2) aa Hq) [] rfl ?_;have ad:Mo (Ms Y2) aa aa:=Mo.refl _ _;have cD:=NxK.refl Y2 aa.size;refine LH.m1 0 rfl ad ?_;refine LH.n1 1 rfl ad ?_;refine LH.t1 2 rfl (fun Hq hq=>Y.fieldAddr (hlg.upL hq (aU)).pt rfl u'64 rfl rfl s'45 (by decide) rfl) ad ?_;refine LH.t1 3 rfl (fun Hq hq=>Y.load1 (hlg.upL hq (aU)).pt rfl a'45 rfl) ad ?_;refine LH.m1 4 rfl ad ?_;refine LH.n1 5 rfl ad ?_;refine LH.t1 6 rfl (fun Hq hq=>Y.fieldAddr (hlg.upL hq (aU)).pt rfl u'64 rfl rfl s'9 (by decide) rfl) ad ?_;refine LH.t1 7 rfl (fun Hq hq=>Y.load1 ((hlg.upL hq (aU)).pt.drop 1) rfl a'9 rfl) ad ?_;refine LH.o1 8 ?_;refine LO.z rfl (Z.litw _ ([(67:UInt8)]) rfl inf34 rfl rfl rfl (by decide) (by decide) fB_len fB_one (rfl)) (Wd.u rfl) rfl rfl (fun ep bB dM=>?_);obtain⟨a0,a4,dN,cE⟩:=dM;have dc:bB.size=aa.size+1:=by rw[cE];simp
     have bW:DL (aa.size+1) Y2:=DL.newK hf.bk;have cF:Nx 0 aa.size (aa.size+1):=Nx.new ar.size;have cG:Nx 0 aa.size (aa.size+1):=Nx.new ad.size;replace hf:=hf.nw a4;replace ar:=ar.trN a4;replace ad:=ad.trN a4;have er:=a4.size;refine⟨.inr ad,LH.narrow (SH2:=fun Hq=>Mo (Ms (Y2++[(aa.size+1)])) bB Hq) (fun Hq hq=>ad.trL hq (MIL.app (MIL.ofK (cD) (by intro k hk;simp[hk])) (MIL.o (MI.q cG)))) ?_⟩;have ad:Mo (Ms (Y2++[(aa.size+1)])) bB bB:=Mo.refl _ _;have cH:=NxK.refl Y2 bB.size;have bX:=Nx.refl (aa.size+1) bB.size;refine LH.o1 9 ?_;refine LO.z rfl (Z.bconst a0 (by decide) rfl Tryz.underlying34 Tryz.underlying5 rfl) (Wd.u rfl) rfl rfl (fun dd bC dO=>?_);obtain⟨rfl,a0,aV⟩:=dO;replace aV:=aV.md;replace hf:=hf.upL aV (DKL.cons bW DKL.nil);replace ar:=ar.trL aV (MIL.o (MI.q cF));replace ad:=ad.trL aV (MIL.o (MI.r bX));have dP:=aV.size;obtain⟨dQ,rfl⟩:∃s:SV,dd=s.v:=⟨toSV dd,a0.sv.symm⟩;refine⟨.inr ad,LH.narrow (SH2:=fun Hq=>Mo (Ms (Y2++[(aa.size+1)])) bC Hq) (fun Hq hq=>ad.trL hq (MIL.app (MIL.ofK (cH) (by intro k hk;simp[hk])) (MIL.o (MI.r bX)))) ?_⟩;have ad:Mo (Ms (Y2++[(aa.size+1)])) bC bC:=Mo.refl _ _;have bY:=NxK.refl Y2 bC.size;have cI:=Nx.refl (aa.size+1) bC.size;refine LH.o1 10 ?_;refine LO.call rfl rfl c'60 rfl (Wd.u rfl) rfl rfl (rappend_ct Y2 gy2 b (runD ((apS p (recs l).length rc).take 2) D1).2 p dQ [67] _ w0 _ hf a0.rd (BF.of a0.le) (DFL.of (bW)) (by omega) (by omega) hbd2 (by decide)) (fun es cJ dR=>?_);obtain⟨bZ,dS,rfl,hf,a5,dT,bn⟩:=dR;have cK:NxK Y2 aa.size bZ:=NxK.tr (ao) a5 ar.size;have cL:NxK Y2 bC.size bZ:=NxK.tr (bY) a5 ad.size;replace ar:=ar.trL bn (MIL.ofK (ao) (by intro k hk;simp[hk]));replace ad:=ad.trL bn (MIL.ofK (bY) (by intro k hk;simp[hk]));have dU:=bn.size;have al:=hf.bk;refine⟨.inr ad,LH.narrow (SH2:=fun Hq=>Mo (Ms (bZ++[(aa.size+1)])) cJ Hq) (fun Hq hq=>ad.trL hq (MIL.app (MIL.ofK (cL) (by intro k hk;simp[hk])) (MIL.o (MI.r cI)))) ?_⟩;have ad:Mo (Ms (bZ++[(aa.size+1)])) cJ cJ:=Mo.refl _ _;refine LH.t1 11 rfl (fun Hq hq=>Y.cast (v2:= .int .i64 ((runD ((apS p (recs l).length rc).take 3) D1).1:Int)) (Y.assign rfl rfl) (by rw[htk3];rfl)) ad ?_;refine LH.done (by kernel_rfl) ?_;refine QN.sub (bV (bZ,dS) _ ?_) ⟨rfl,rfl,(by first|rfl|(rw[hnx3];rfl)),trivial⟩;exact⟨by rw[htk3];exact hf,by omega,cK,ar⟩
    ·
     have hnx3:=run_next (Fs:=(apS p (recs l).length rc)) (D:=D1) (i:=2) (by omega);refine CW.skip ?_;refine QN.sub (bV (Y2,gy2) _ ?_) ⟨rfl,rfl,(by first|rfl|(rw[hnx3];rfl)),trivial⟩;exact⟨by rw[hnx3];exact hf,by omega,ao,ar⟩
   ·
    rintro⟨Y3,gy3⟩ cn a1;obtain⟨hf,hgy3,ab,ag⟩:=a1;have bo:DL kL Y3:=DL.appK (bR) hL.le ab;have bp:=DFL.appK (bS) (bf_hxl.mono hm0.size) ab;have cM:=DFL.appK (bT) (bf_hr.mono hm0.size) ab;have bq:DL (lb+1) Y3:=DL.appK (aU) hlg.lt ab;have bs:NxK K H0.size Y3:=NxK.tr (bU) ab hm0.size;replace hL:=hL.upL ag (bR);replace hxl:=fun x hx_=>(hxl x hx_).upL ag (bS);replace hr:=hr.upL ag (bT);replace hlg:=hlg.upL ag (aU);replace hm0:=hm0.trL ag (MIL.ofK (bU) (by intro k hk;simp[hk]));have dV:=ag.size;have al:=hf.bk;refine CW.s2 (fun cN cO=>CW.sr (fun cP=>?_));refine LR.m1 ?_;refine LR.v1 (Y.neq rfl rfl rfl) (LR.nil (cP _ _ ?_));refine CW.condp rfl (fun dW=>?_) (fun dW=>?_)
    ·
     refine CW.sr (fun cQ=>?_);refine LR.m1 ?_;refine LR.an ?_;refine cQ _ _ ?_;refine CW.ret (cO .ret nofun _ _ (hret .ret (.inr rfl) _ _ _ (res1 rfl rfl) ?_));have hne:(runD ((apS p (recs l).length rc).take 3) D1).1≠0:=by omega
     have hgo:=appR_go (r:=rc) hpre;rw[show runD (apS p (recs l).length rc) D1=(runD ((apS p (recs l).length rc).take 3) D1)from runD_stop hne,if_neg hne,if_neg hne]at hgo;exact⟨Y3,gy3,lv,kL,l,G,by rw[hgo],by rw[hgo];exact hf,bs,by omega,by rw[hgo];exact hlg,hL,ai,bq,bo,dlL,by rw[hgo],hxl,(fun c h=> .inl h),bf_hxl.mono (by omega),(bp),(dgl),(dgL),hm0⟩
    ·
     have htk4:=runD_take (Fs:=(apS p (recs l).length rc)) (D:=D1) (i:=3) (by simp[frS,apS]) (by omega);have hbd3:=(bs_runT 3 (apS_bs p (recs l).length rc) hB1).bd (by have h4:(apS p (recs l).length rc).length=4:=rfl;rw[h4];omega);refine CW.skip (cN _ _ (CW.s1 (fun cR=>?_)));refine CW.region_tail 8 rfl (by kernel_rfl) (fun T16 hT16=>?_);refine LR.m1 ?_;refine LR.n1 ?_;refine LR.v1 (Y.FA hlg.pt rfl u'64 rfl s'45) ?_;refine LR.v1 (Y.load1 hlg.pt rfl a'45 rfl) ?_;refine LR.m1 ?_;refine LR.n1 ?_;refine LR.v1 (Y.FA hlg.pt rfl u'64 rfl s'9) ?_;refine LR.v1 (Y.load1 (hlg.pt.drop 1) rfl a'9 rfl) ?_;refine LR.nil (hT16 _ ?_);refine LR.call rfl c'62 rfl (Wd.u rfl) rfl rfl (rsync_ct Y3 gy3 b (runD ((apS p (recs l).length rc).take 3) D1).2 p w0 _ hf (by omega) (by omega) hbd3) (fun et eu dX=>?_);have cS:=hL.le;have cT:=hlg.lt;obtain⟨a6,de,rfl,hf,aP,dY,aW⟩:=dX;have bt:DL kL a6:=DL.appK (bo) cS aP;have b0:=DFL.appK (bp) (bf_hxl.mono hm0.size) aP;have aQ:DL (lb+1) a6:=DL.appK (bq) cT aP;have a7:NxK K H0.size a6:=NxK.tr (bs) aP hm0.size;replace hL:=hL.upL aW (bo);replace hxl:=fun x hx_=>(hxl x hx_).upL aW (bp);replace hr:=hr.upL aW (cM);replace hlg:=hlg.upL aW (bq);replace hm0:=hm0.trL aW (MIL.ofK (bs) (by intro k hk;simp[hk]));have dZ:=aW.size;have al:=hf.bk;rw[show((runD ((apS p (recs l).length rc).take 3) D1).2).sync p=(runD ((apS p (recs l).length rc).take 4) D1)from htk4.symm]at hf;refine LR.v1 (Y.cast (v2:= .int .i64 ((runD ((apS p (recs l).length rc).take 4) D1).1:Int)) (Y.assign rfl rfl) (by rw[htk4];rfl)) (LR.nil (cR _ _ ?_));refine CW.s2 (fun cU cV=>CW.sr (fun cW=>?_));refine LR.m1 ?_;refine LR.v1 (Y.neq rfl rfl rfl) (LR.nil (cW _ _ ?_));refine CW.condp rfl (fun d0=>?_) (fun d0=>?_)
     ·
      refine CW.sr (fun cX=>?_);refine LR.m1 ?_;refine LR.an ?_;refine cX _ _ ?_;refine CW.ret (cV .ret nofun _ _ (hret .ret (.inr rfl) _ _ _ (res1 rfl rfl) ?_));have hne:(runD ((apS p (recs l).length rc).take 4) D1).1≠0:=by omega
      have hgo:=appR_go (r:=rc) hpre;rw[show runD (apS p (recs l).length rc) D1=(runD ((apS p (recs l).length rc).take 4) D1)from runD_stop hne,if_neg hne,if_neg hne]at hgo;exact⟨a6,de,lv,kL,l,G,by rw[hgo],by rw[hgo];exact hf,a7,by omega,by rw[hgo];exact hlg,hL,ai,aQ,bt,dlL,by rw[hgo],hxl,(fun c h=> .inl h),bf_hxl.mono (by omega),(b0),(dgl),(dgL),hm0⟩
     ·
      refine CW.skip (cU _ _ (CW.sr (fun cY=>?_)));refine LR.m1 ?_;refine LR.n1 ?_;refine LR.v1 (Y.FA hlg.pt rfl u'64 rfl s'4) ?_;refine LR.s1 (S.var1 hlg 3 ([ptr b,Str p,lv.v,.bool false]) rfl rfl rfl (rfl) s'4 (by simp) (rfl)) fun ae b1=>?_;obtain⟨hlg,ap⟩:=b1;replace ap:=ap.md1;replace hf:=hf.upL ap (DKL.cons aQ DKL.nil);replace hL:=hL.upL ap (DL.o dlL.symm);replace hxl:=fun x hx_=>(hxl x hx_).upL ap (DFL.o dgl);replace hr:=hr.upL ap (DFL.o dfl);replace hm0:=hm0.trL ap (MIL.o (MI.r ak));have d1:=ap.size;refine LR.nil (cY _ _ (CW.s1 (fun cZ=>?_)));refine CW.region_any (fun Hq=>Mo (Ms [kL]) ae Hq) [10,11,12] rfl ?_;have ac:Mo (Ms [kL]) ae ae:=Mo.refl _ _;have b2:=Nx.refl kL ae.size;refine LH.m1 0 rfl ac ?_;refine LH.m1 1 rfl ac ?_;refine LH.n1 2 rfl ac ?_;refine LH.t1 3 rfl (fun Hq hq=>Y.fieldAddr (hlg.upL hq (DL.o dlL)).pt rfl u'64 rfl rfl s'22 (by decide) rfl) ac ?_;refine LH.t1 4 rfl (fun Hq hq=>Y.load1 ((hlg.upL hq (DL.o dlL)).pt.drop 2) rfl a'22 rfl) ac ?_;refine LH.m1 6 rfl ac ?_;refine LH.o1 5 ?_;refine LO.z rfl (Z.litw _ (([]:List UInt8)) rfl inf34 rfl rfl rfl (by decide) (by decide) fB_len fB_one (rfl)) (Wd.u rfl) rfl rfl (fun ev a8 d2=>?_);obtain⟨nd,aM,d3,c0⟩:=d2;have df:a8.size=ae.size+1:=by rw[c0];simp
      have a9:DL (ae.size+1) a6:=DL.newK hf.bk;have a_:Dj kL (ae.size+1):=Dj.new hL.le;have b3:=(DF.new (bf_hxl.mono hm0.size):DF _ (ae.size+1));have ba:Dj (lb+1) (ae.size+1):=Dj.new hlg.lt;have bb:Nx 0 H0.size (ae.size+1):=Nx.new hm0.size;have b4:Nx 0 ae.size (ae.size+1):=Nx.new ac.size;replace hf:=hf.nw aM;replace hL:=hL.nw aM;replace hxl:=fun x hx_=>(hxl x hx_).nw aM;replace hr:=hr.nw aM;replace hlg:=hlg.nw aM;replace hm0:=hm0.trN aM;replace ac:=ac.trN aM;have d4:=aM.size;refine⟨.inr ac,LH.narrow (SH2:=fun Hq=>Mo (Ms [kL,(ae.size+1)]) a8 Hq) (fun Hq hq=>ac.trL hq (MIL.cons (MI.r b2) (MIL.o (MI.q b4)))) ?_⟩;have ac:Mo (Ms [kL,(ae.size+1)]) a8 a8:=Mo.refl _ _;have b5:=Nx.refl kL a8.size;have bc:=Nx.refl (ae.size+1) a8.size;refine LH.o1 7 ?_;refine LO.z rfl (Z.apnd nd hr rfl inf34 rfl rfl (by first|omega|(simp;omega)) (by first|omega|(simp;omega))) (Wd.u rfl) rfl rfl (fun b6 aC c1=>?_);obtain⟨av,nd,aD,aw⟩:=c1;replace aD:Nx (ae.size+1) a8.size av:=aD;replace aw:=aw.md;have b7:DL av a6:=DL.app2 (a9) hf.bk aD;have be:Dj kL av:=Dj.app (a_) hL.le aD;have bf:Dj (lb+1) av:=Dj.app (ba) hlg.lt aD;have b8:Nx 0 H0.size av:=Nx.tr (bb) aD hm0.size;have b9:Nx (ae.size+1) a8.size av:=Nx.tr (bc) aD ac.size;replace hf:=hf.upL aw (DKL.cons a9 DKL.nil);replace hL:=hL.upL aw (DL.o a_);replace hxl:=fun x hx_=>(hxl x hx_).upL aw (DFL.o b3);replace hlg:=hlg.upL aw (DL.o ba);replace hm0:=hm0.trL aw (MIL.o (MI.q bb));replace ac:=ac.trL aw (MIL.o (MI.r bc));have d5:=aw.size;have c2:=nd.le;rw[List.nil_append]at nd;obtain⟨bu,rfl⟩:∃s:SV,b6=s.v:=⟨toSV b6,nd.sv.symm⟩;refine⟨.inr ac,LH.narrow (SH2:=fun Hq=>Mo (Ms [kL,av]) aC Hq) (fun Hq hq=>ac.trL hq (MIL.cons (MI.r b5) (MIL.o (MI.r b9)))) ?_⟩;have ac:Mo (Ms [kL,av]) aC aC:=Mo.refl _ _;have b_:=Nx.refl kL aC.size;have ca:=Nx.refl av aC.size;refine LH.o1 8 ?_;refine LO.z rfl (Z.litw _ ([((bu,rc):SV×Rec)]) rfl inf22 rfl rfl rfl (by decide) (by decide) fP_len fP_one (rfl)) (Wd.u rfl) rfl rfl (fun d6 aG c3=>?_);obtain⟨cb,aA,dg,cc⟩:=c3;have c4:aG.size=aC.size+1:=by rw[cc];simp
      have cd:Nx 0 aC.size (aC.size+1):=Nx.new ac.size;replace hf:=hf.nw aA;replace hL:=hL.nw aA;replace hxl:=fun x hx_=>(hxl x hx_).nw aA;replace hlg:=hlg.nw aA;replace nd:=nd.nw aA;replace hm0:=hm0.trN aA;replace ac:=ac.trN aA;have d7:=aA.size;refine⟨.inr ac,LH.narrow (SH2:=fun Hq=>Mo (Ms [kL,av,(aC.size+1)]) aG Hq) (fun Hq hq=>ac.trL hq (MIL.cons (MI.r b_) (MIL.cons (MI.r ca) (MIL.o (MI.q cd))))) ?_⟩;have ac:Mo (Ms [kL,av,(aC.size+1)]) aG aG:=Mo.refl _ _;have bg:=Nx.refl kL aG.size;have ce:=Nx.refl av aG.size;have cf:=Nx.refl (aC.size+1) aG.size;refine LH.o1 9 ?_;refine LO.z rfl (Z.apnd hL cb.rd rfl inf22 rfl rfl (by first|omega|(simp;omega)) (by first|omega|(simp;omega))) (Wd.u rfl) rfl rfl (fun bv c5 c6=>?_);obtain⟨bh,hL,aB,ax⟩:=c6;replace aB:Nx kL aG.size bh:=aB;replace ax:=ax.md;have cg:DL bh a6:=DL.app2 (bt) hf.bk aB;have ch:=DF.app (dgL) (bf_hxl.mono hm0.size) aB;have bi:Dj (lb+1) bh:=Dj.app (dlL) hlg.lt aB;have ci:Dj av bh:=Dj.app (be.symm) nd.le aB;have cj:Nx kL H0.size bh:=Nx.tr (ai) aB hm0.size;have ck:Nx kL aG.size bh:=Nx.tr (bg) aB ac.size;replace hf:=hf.upL ax (DKL.cons bt DKL.nil);replace hxl:=fun x hx_=>(hxl x hx_).upL ax (DFL.o dgL);replace hlg:=hlg.upL ax (DL.o dlL);replace nd:=nd.upL ax (DL.o be.symm);replace hm0:=hm0.trL ax (MIL.o (MI.r ai));replace ac:=ac.trL ax (MIL.o (MI.r bg));have d8:=ax.size;have bj:=hL.le;refine⟨.inr ac,LH.narrow (SH2:=fun Hq=>Mo (Ms [bh,av,(aC.size+1)]) c5 Hq) (fun Hq hq=>ac.trL hq (MIL.cons (MI.r ck) (MIL.cons (MI.r ce) (MIL.o (MI.r cf))))) ?_⟩;refine LH.o1 10 ?_;refine LO.v rfl (Y.nilCheck rfl rfl) (Wd.u rfl) rfl rfl (.inl rfl) ?_;refine LH.o1 11 ?_;refine LO.v rfl (Y.FA hlg.pt rfl u'64 rfl s'22) (Wd.u rfl) rfl rfl (.inl rfl) ?_;refine LH.o1 12 ?_;refine LO.s rfl (S.var1 hlg 2 ([ptr b,Str p,bv,.bool false]) rfl rfl rfl (hL.rd.oneCell) s'22 (by simp) (rfl)) (Wd.u rfl) rfl (fun c7 bw=>?_);obtain⟨hlg,ah⟩:=bw;replace ah:=ah.md1;replace hf:=hf.upL ah (DKL.cons aQ DKL.nil);replace hL:=hL.upL ah (DL.o bi.symm);replace hxl:=fun x hx_=>(hxl x hx_).upL ah (DFL.o dgl);replace nd:=nd.upL ah (DL.o bf.symm);replace hm0:=hm0.trL ah (MIL.o (MI.r ak));have d9:=ah.size;refine⟨.inl rfl,?_⟩;refine LH.done (by kernel_rfl) ?_;refine cZ _ _ (CW.sr (fun c8=>?_));refine LR.an ?_;refine c8 _ _ ?_;refine CW.ret (hret .ret (.inr rfl) _ _ _ (res1 rfl rfl) ?_);obtain⟨d_,rfl⟩:∃s:SV,bv=s.v:=⟨toSV bv,hL.sv.symm⟩;have hz:(runD ((apS p (recs l).length rc).take 4) D1).1=0:=by omega
      have hgo:=appR_go (r:=rc) hpre;rw[show runD (apS p (recs l).length rc) D1=(runD ((apS p (recs l).length rc).take 4) D1)from rfl,if_pos hz,if_pos hz]at hgo;exact⟨a6,de,d_,bh,l++[(bu,rc)],(fun c=>G c∨c+1=av),by rw[hgo,hz];rfl,by rw[hgo];exact hf,a7,by omega,by rw[hgo];exact hlg,hL,cj,aQ,cg,bi,by rw[hgo];simp[recs],snocP (α:=Unit) (fb:=fun _=>(bu,[])) hxl (fun c e=> .inl e) (nd.rd.imp (fun c _ e=> .inr e)),(fun c e=>e.imp id (fun e=>by have h9:=(b8);unfold Nx at h9;omega)),BF.or1 (bf_hxl.mono (by omega)) nd.le,(fun k hk=>DF.or1 ((b0) k hk) ((b7) k hk).symm),DF.or1 (dgl) (bf),DF.or1 (ch) (ci.symm),hm0⟩
end WdkC

namespace WdkD
open E Go.RowKit SumB SumC SumF SumG DelA SimA SimB SimC SimD SimE SimF SimG SimH SimI SimL SimN SimQ SimR SimS SimU SimX WalA WalB WalC WalD WalE WalF WalG WalH WalI WalJ WalK DskA DskB DskC DskD DskE DskF DskH DskI WdkA WdkB WdkC
set_option maxRecDepth 100000 in
theorem inf22:Inf Tryz.prog 22 34 1 24:=⟨Tryz.underlying22,_,_,rfl,rfl,rfl,rfl,rfl⟩
set_option maxRecDepth 100000 in
theorem inf34:Inf Tryz.prog 34 5 1 1:=⟨Tryz.underlying34,_,_,rfl,rfl,rfl,rfl,rfl⟩
theorem rckp_ct(K:List Nat)(g:Rg)(b:Nat)(D:Dk)(lb:Nat)(p:Pth)(lv:SV)(kL:Nat)(l:List (SV×Rec))(br:Bool)(s:SV)(m:List (SV×Rec))(F G:Nat→Prop)(N:Nat)(w0:World)(H0:Heap)
 (hf:RDk K g H0 b D) (hlg:Var 64 H0 lb [ptr b,Str p,lv.v,.bool br]) (hL:Ow kL 34 H0 fP 1 lv.v l) (dlf:DL (lb+1) K) (dLf:DL kL K) (dlL:Dj (lb+1) kL) (hxl:∀x∈l,Rd G H0 fB 1 x.1.v x.2) (bf_hxl:BF G H0.size) (dgf:DFL G K) (dgl:DF G (lb+1)) (dgL:DF G kL) (hr:Rd F H0 fP 1 s.v m) (bf_hr:BF F H0.size) (dfr:DFL F K) (dfl:DF F (lb+1)) (dfL:DF F kL) (hxm:∀x∈m,Rd F H0 fB 1 x.1.v x.2) (bf_hxm:BF F H0.size) (dmf:DFL F K) (dml:DF F (lb+1)) (dmL:DF F kL) (hdl:g.dm.length≤1000000) (hl:p.length≤4294960000) (hmr:∀x∈m,x.2.length≤1000000) (hem:(encN 0 (recs m)).length≤500000) (hml:m.length≤500000) (hB:Bs N D) (hN:N≤1000000):
 Ct Tryz.prog w0 21 #[ptr lb,s.v] H0 (fun r H2=>∃K2:List Nat,∃g2:Rg,∃lv2:SV,∃kL2:Nat,∃l2:List (SV×Rec),∃G2:Nat→Prop,r= .int .i64 ((freshD D p (recs m)).1:Int)∧(RDk K2 g2 H2 b ((freshD D p (recs m)).2))∧(NxK K H0.size K2)∧(g2.dm.length≤g.dm.length+8)∧(Var 64 H2 lb [ptr b,Str p,lv2.v,.bool (if(freshD D p (recs m)).1=0 then false else br)])∧(Ow kL2 34 H2 fP 1 lv2.v l2)∧(Nx kL H0.size kL2)∧(DL (lb+1) K2)∧(DL kL2 K2)∧(Dj (lb+1) kL2)∧(recs l2=if(freshD D p (recs m)).1=0 then recs m else recs l)∧(∀x∈l2,Rd G2 H2 fB 1 x.1.v x.2)∧(∀c,G2 c→G c∨H0.size≤c)∧(BF G2 H2.size)∧(DFL G2 K2)∧(DF G2 (lb+1))∧(DF G2 kL2)∧Mo (Ms (K++[(lb+1),kL])) H0 H2):=by
 refine Ct.enter (args:=[ptr lb,s.v]) Tryz.func21 rfl rfl rfl ?_;intro Q0 hret;have hm0:Mo (Ms (K++[(lb+1),kL])) H0 H0:=Mo.refl _ _;have ai:=NxK.refl K H0.size;have aG:=hf.bk;have ae:=Nx.refl (lb+1) H0.size;have aU:=hlg.lt;have aA:=Nx.refl kL H0.size;have aV:=hL.le;have hrn:(recs m).length=m.length:=by simp[recs]
 have h8:W8.length=8:=rfl;have hel2:(encW (recs m)).length=W8.length+(encN 0 (recs m)).length:=by unfold encW;rw[List.length_append]
 refine CW.sr (fun bV=>?_);refine LR.an ?_;refine bV _ _ (CW.seq (fun K2 bW _=>CW.sr (fun bX=>?_)));refine LR.an ?_;refine bX _ _ (CW.block (fun _ _ bY _=>?_))
 refine CW.loop (fun(i:(Nat))=>[(0,ptr lb),(1,s.v),(5,.int .i64 (i:Int))])
  (fun(i:(Nat)) (H:Heap)=>(i≤m.length)∧Nw H0 H)
  (fun(i:(Nat))=>m.length-i) 0 ⟨rfl,rfl,rfl,trivial⟩ ?_ ?_
 ·
  exact⟨(by omega),Mo.refl _ _⟩
 intro i cr bZ K5 b0 b1;obtain⟨hi,aj⟩:=bZ;replace hf:=hf.nw aj;replace hlg:=hlg.nw aj;replace hL:=hL.nw aj;replace hxl:=fun x hx_=>(hxl x hx_).nw aj;replace hr:=hr.nw aj;replace hxm:=fun x hm_=>(hxm x hm_).nw aj;replace hm0:=hm0.trN aj;have cs:=aj.size;refine CW.s2 (fun b2 b3=>CW.sr (fun b4=>?_));refine LR.m1 ?_;refine LR.m1 ?_;refine LR.v1 (Y.len hr rfl u'22 rfl) ?_;refine LR.v1 (Y.lss rfl rfl rfl) (LR.nil (b4 _ _ ?_));refine CW.condp rfl (fun b5=>?_) (fun b5=>?_)
 ·
  have hil:i<m.length:=by omega
  have hri:=hmr m[i] (List.getElem_mem hil);refine CW.skip (b2 _ _ (CW.s1 (fun b6=>CW.block (fun _ b7 _ _=>CW.sr (fun aW=>?_)))));refine LR.m1 ?_;refine LR.m1 ?_;refine LR.e1 (g:=fun ad=> .pointer (some ad)) (Y.iF hr (i) rfl u'22 s'34 rfl rfl) fun b8 aX=>?_;refine LR.v1 (Y.load1 aX.pt rfl a'34 rfl) ?_;refine LR.v1 (Y.len (hxm m[i] (List.getElem_mem hil)) rfl u'34 rfl) ?_;refine LR.v1 ((Y.gtr rfl rfl rfl).isF (by omega)) (LR.nil (aW _ _ ?_));refine CW.cond_f rfl ?_;refine CW.skip (b7 _ _ (b6 _ _ (CW.region ?_)));refine LR.m1 ?_;refine LR.v1 (Y.addi rfl rfl rfl (by omega)) ?_;refine LR.an ?_;refine QN.sub (b0 (i+1) _ ?_ ?_) ⟨rfl,rfl,(iv (by omega)),trivial⟩
  ·exact⟨(by omega),aj⟩
  ·first|omega|(simp only;omega)|(simp;omega)
 ·
  refine CW.exit (b3 (.exit 0) nofun _ _ (b1 (.exit 0) nofun _ _ (bY _ _ ?_)));refine bW _ _ (CW.s1 (fun aY=>?_));refine CW.region_tail 9 rfl (by kernel_rfl) (fun T6 hT6=>?_);refine LR.m1 ?_;refine LR.n1 ?_;refine LR.v1 (Y.FA hlg.pt rfl u'64 rfl s'45) ?_;refine LR.v1 (Y.load1 hlg.pt rfl a'45 rfl) ?_;refine LR.m1 ?_;refine LR.n1 ?_;refine LR.v1 (Y.FA hlg.pt rfl u'64 rfl s'9) ?_;refine LR.v1 (Y.load1 (hlg.pt.drop 1) rfl a'9 rfl) ?_;refine LR.m1 ?_;refine LR.nil (hT6 _ ?_);refine LR.call rfl c'54 rfl (Wd.u rfl) rfl rfl (rfresh_ct K g b D p s m N w0 _ hf (by omega) hl hr.any (fun x h=>(hxm x h).any) hmr (by omega) hB (by omega)) (fun ct cu b9=>?_);have b_:=hlg.lt;have ca:=hL.le;obtain⟨aH,bP,rfl,hf,az,cb,av⟩:=b9;have aK:DL (lb+1) aH:=DL.appK (dlf) b_ az;have cc:DL kL aH:=DL.appK (dLf) ca az;have cd:=DFL.appK (dgf) (bf_hxl.mono hm0.size) az;have bQ:NxK K H0.size aH:=NxK.tr (ai) az hm0.size;replace hlg:=hlg.upL av (dlf);replace hL:=hL.upL av (dLf);replace hxl:=fun x hx_=>(hxl x hx_).upL av (dgf);replace hr:=hr.upL av (dfr);replace hxm:=fun x hm_=>(hxm x hm_).upL av (dmf);replace hm0:=hm0.trL av (MIL.ofK (ai) (by intro k hk;simp[hk]));have cv:=av.size;have aG:=hf.bk;refine LR.an ?_;refine aY _ _ (CW.s2 (fun aZ a0=>CW.sr (fun a1=>?_)));refine LR.m1 ?_;refine LR.v1 (Y.neq rfl rfl rfl) (LR.nil (a1 _ _ ?_));refine CW.condp rfl (fun ce=>?_) (fun ce=>?_)
  ·
   refine CW.sr (fun a2=>?_);refine LR.m1 ?_;refine LR.an ?_;refine a2 _ _ ?_;refine CW.ret (a0 .ret nofun _ _ (hret .ret (.inr rfl) _ _ _ (res1 rfl rfl) ?_));have hz:(freshD D p (recs m)).1≠0:=by omega
   exact⟨_,bP,lv,kL,l,G,rfl,hf,bQ,by omega,by rw[if_neg hz];exact hlg,hL,aA,aK,cc,dlL,by rw[if_neg hz],hxl,(fun c h=> .inl h),bf_hxl.mono (by omega),(cd),(dgl),(dgL),hm0⟩
  ·
   refine CW.skip (aZ _ _ (CW.sr (fun a3=>?_)));refine LR.m1 ?_;refine LR.n1 ?_;refine LR.v1 (Y.FA hlg.pt rfl u'64 rfl s'4) ?_;refine LR.s1 (S.var1 hlg 3 ([ptr b,Str p,lv.v,.bool false]) rfl rfl rfl (rfl) s'4 (by simp) (rfl)) fun cf a4=>?_;obtain⟨hlg,ag⟩:=a4;replace ag:=ag.md1;replace hf:=hf.upL ag (DKL.cons aK DKL.nil);replace hr:=hr.upL ag (DFL.o dfl);replace hxm:=fun x hm_=>(hxm x hm_).upL ag (DFL.o dml);replace hm0:=hm0.trL ag (MIL.o (MI.r ae));have cw:=ag.size;refine LR.nil (a3 _ _ (CW.sr (fun a5=>?_)));refine LR.m1 ?_;refine LR.n1 ?_;refine LR.v1 (Y.FA hlg.pt rfl u'64 rfl s'22) ?_;refine LR.s1 (S.var1 hlg 2 ([ptr b,Str p,.slice none 0 0,.bool false]) rfl rfl rfl (rfl) s'22 (by simp) (rfl)) fun aq aL=>?_;obtain⟨hlg,af⟩:=aL;replace af:=af.md1;replace hf:=hf.upL af (DKL.cons aK DKL.nil);replace hr:=hr.upL af (DFL.o dfl);replace hxm:=fun x hm_=>(hxm x hm_).upL af (DFL.o dml);replace hm0:=hm0.trL af (MIL.o (MI.r ae));have cx:=af.size;refine LR.nil (a5 _ _ (CW.s1 (fun a6=>CW.sr (fun a7=>?_))));refine LR.an ?_;refine a7 _ _ (CW.block (fun _ _ a8 _=>?_))
   refine CW.loop (fun(s_:(Nat)×(SV)×(Nat)×(List (SV×Rec))×(Nat→Prop))=>match s_ with|(i,lw,kq,q,G3)=>[(0,ptr lb),(1,s.v),(7,.int .i64 (i:Int))])
    (fun(i,lw,kq,q,G3) (H:Heap)=>(i≤m.length)∧(Var 64 H lb [ptr b,Str p,lw.v,.bool false])∧(Ow kq 34 H fP 1 lw.v q)∧(∀x∈q,Rd G3 H fB 1 x.1.v x.2)∧(BF G3 H.size)∧(DF G3 kq)∧(DF G3 (lb+1))∧(DFL G3 aH)∧(∀c,G3 c→H0.size≤c)∧(recs q=(recs m).take i)∧(Nx 0 aq.size kq)∧(Dj (lb+1) kq)∧Mo (Ms [(lb+1)]) aq H)
    (fun(i,lw,kq,q,G3)=>m.length-i) (0,⟨none,0,0⟩,0,[],fun _=>False) ⟨rfl,rfl,rfl,trivial⟩ ?_ ?_
   ·
    exact⟨(by omega),hlg,Ow.nil fP_len fP_one,(fun x h=>by cases h),(fun b e=>e.elim),(fun b e=>e.elim),(fun b e=>e.elim),(fun k hk b e=>e.elim),(fun c e=>e.elim),rfl,Nx.refl _ _,Dj.z,Mo.refl _ _⟩
   rintro⟨i,lw,kq,q,G3⟩ ak cg cy a9 a_;obtain⟨hi,hlg,hq,hxq,al,f1,f2,f3,bR,hrq,ah,aB,ac⟩:=cg;have ba:DL kq aH:=DL.app2 (DL.zK) hf.bk ah;have bb:=DF.app (DF.z) (bf_hr.mono hm0.size) ah;have bc:=DF.app (DF.z) (bf_hxm.mono hm0.size) ah;have bd:Nx 0 H0.size kq:=Nx.tr (Nx.refl 0 _) ah hm0.size;replace hf:=hf.upL ac (DKL.cons aK DKL.nil);replace hr:=hr.upL ac (DFL.o dfl);replace hxm:=fun x hm_=>(hxm x hm_).upL ac (DFL.o dml);replace hm0:=hm0.trL ac (MIL.o (MI.r ae));have cz:=ac.size;have aI:=hq.le;have aD:=aB;have ar:=Nx.refl (lb+1) aq.size;have aM:=ah;refine CW.s2 (fun be bf=>CW.sr (fun bg=>?_));refine LR.m1 ?_;refine LR.m1 ?_;refine LR.v1 (Y.len hr rfl u'22 rfl) ?_;refine LR.v1 (Y.lss rfl rfl rfl) (LR.nil (bg _ _ ?_));refine CW.condp rfl (fun ch=>?_) (fun ch=>?_)
   ·
    have hil:i<m.length:=by omega
    have hri:=hmr m[i] (List.getElem_mem hil);have hqn:q.length=i:=by have h9:=congrArg List.length hrq;rw[List.length_take,hrn]at h9;simp only[recs,List.length_map]at h9;omega
    refine CW.skip (be _ _ (CW.s1 (fun bh=>CW.block (fun _ bi _ _=>?_))));refine CW.region_any (fun Hq=>Mo (Ms [kq]) ak Hq) [13,14,15] rfl ?_;have aa:Mo (Ms [kq]) ak ak:=Mo.refl _ _;have bj:=Nx.refl kq ak.size;refine LH.m1 0 rfl aa ?_;refine LH.m1 1 rfl aa ?_;refine LH.n1 2 rfl aa ?_;refine LH.t1 3 rfl (fun Hq hq=>Y.fieldAddr (hlg.upL hq (DL.o aD)).pt rfl u'64 rfl rfl s'22 (by decide) rfl) aa ?_;refine LH.t1 4 rfl (fun Hq hq=>Y.load1 ((hlg.upL hq (DL.o aD)).pt.drop 2) rfl a'22 rfl) aa ?_;refine LH.m1 6 rfl aa ?_;refine LH.m1 7 rfl aa ?_;refine LH.e (g:=fun ad=> .pointer (some ad)) 8 (by kernel_rfl) rfl (by kernel_rfl) (by kernel_rfl) (by kernel_rfl) (Y.iF hr (i) rfl u'22 s'34 rfl rfl) (Wd.u rfl) rfl rfl aa (fun ci bl=>?_);refine LH.t1 9 rfl (fun Hq hq=>Y.load1 (bl.upL hq (DFL.o bb)).pt rfl a'34 rfl) aa ?_;refine LH.o1 5 ?_;refine LO.z rfl (Z.litw _ (([]:List UInt8)) rfl inf34 rfl rfl rfl (by decide) (by decide) fB_len fB_one (rfl)) (Wd.u rfl) rfl rfl (fun cA aF cj=>?_);obtain⟨nd,am,ck,bm⟩:=cj;have bS:aF.size=ak.size+1:=by rw[bm];simp
    have bn:DL (ak.size+1) aH:=DL.newK hf.bk;have bo:=(DF.new (bf_hxm.mono hm0.size):DF _ (ak.size+1));have aN:Dj (lb+1) (ak.size+1):=Dj.new hlg.lt;have aO:Dj kq (ak.size+1):=Dj.new hq.le;have bp:=(DF.new (al.mono (by omega)):DF _ (ak.size+1));have bq:Nx 0 H0.size (ak.size+1):=Nx.new hm0.size;have bs:Nx 0 aq.size (ak.size+1):=Nx.new ac.size;have bt:Nx 0 ak.size (ak.size+1):=Nx.new aa.size;replace hf:=hf.nw am;replace hxm:=fun x hm_=>(hxm x hm_).nw am;replace hlg:=hlg.nw am;replace hq:=hq.nw am;replace hxq:=fun x hq_=>(hxq x hq_).nw am;replace hm0:=hm0.trN am;replace ac:=ac.trN am;replace aa:=aa.trN am;have cB:=am.size;refine⟨.inr aa,LH.narrow (SH2:=fun Hq=>Mo (Ms [kq,(ak.size+1)]) aF Hq) (fun Hq hq=>aa.trL hq (MIL.cons (MI.r bj) (MIL.o (MI.q bt)))) ?_⟩;have aa:Mo (Ms [kq,(ak.size+1)]) aF aF:=Mo.refl _ _;have bu:=Nx.refl kq aF.size;have aP:=Nx.refl (ak.size+1) aF.size;refine LH.o1 10 ?_;refine LO.z rfl (Z.apnd nd (hxm m[i] (List.getElem_mem hil)) rfl inf34 rfl rfl (by first|omega|(simp;omega)) (by first|omega|(simp;omega))) (Wd.u rfl) rfl rfl (fun bT aC cl=>?_);obtain⟨aw,nd,ax,ao⟩:=cl;replace ax:Nx (ak.size+1) aF.size aw:=ax;replace ao:=ao.md;have bv:DL aw aH:=DL.app2 (bn) hf.bk ax;have aQ:Dj (lb+1) aw:=Dj.app (aN) hlg.lt ax;have aR:Dj kq aw:=Dj.app (aO) hq.le ax;have bw:Nx 0 H0.size aw:=Nx.tr (bq) ax hm0.size;have bx:Nx (ak.size+1) aF.size aw:=Nx.tr (aP) ax aa.size;replace hxm:=fun x hm_=>(hxm x hm_).upL ao (DFL.o bo);replace hlg:=hlg.upL ao (DL.o aN);replace hq:=hq.upL ao (DL.o aO);replace hxq:=fun x hq_=>(hxq x hq_).upL ao (DFL.o bp);replace ac:=ac.trL ao (MIL.o (MI.q bs));replace aa:=aa.trL ao (MIL.o (MI.r aP));have cC:=ao.size;have bz:=nd.le;rw[List.nil_append]at nd;obtain⟨bA,rfl⟩:∃s:SV,bT=s.v:=⟨toSV bT,nd.sv.symm⟩;refine⟨.inr aa,LH.narrow (SH2:=fun Hq=>Mo (Ms [kq,aw]) aC Hq) (fun Hq hq=>aa.trL hq (MIL.cons (MI.r bu) (MIL.o (MI.r bx)))) ?_⟩;have aa:Mo (Ms [kq,aw]) aC aC:=Mo.refl _ _;have bB:=Nx.refl kq aC.size;have bC:=Nx.refl aw aC.size;refine LH.o1 11 ?_;refine LO.z rfl (Z.litw _ ([((bA,m[i].2):SV×Rec)]) rfl inf22 rfl rfl rfl (by decide) (by decide) fP_len fP_one (rfl)) (Wd.u rfl) rfl rfl (fun cD aE cm=>?_);obtain⟨bD,au,cn,bE⟩:=cm;have bU:aE.size=aC.size+1:=by rw[bE];simp
    have bF:Nx 0 aC.size (aC.size+1):=Nx.new aa.size;replace hxm:=fun x hm_=>(hxm x hm_).nw au;replace hlg:=hlg.nw au;replace hq:=hq.nw au;replace hxq:=fun x hq_=>(hxq x hq_).nw au;replace nd:=nd.nw au;replace ac:=ac.trN au;replace aa:=aa.trN au;have cE:=au.size;refine⟨.inr aa,LH.narrow (SH2:=fun Hq=>Mo (Ms [kq,aw,(aC.size+1)]) aE Hq) (fun Hq hq=>aa.trL hq (MIL.cons (MI.r bB) (MIL.cons (MI.r bC) (MIL.o (MI.q bF))))) ?_⟩;have aa:Mo (Ms [kq,aw,(aC.size+1)]) aE aE:=Mo.refl _ _;have aS:=Nx.refl kq aE.size;have bG:=Nx.refl aw aE.size;have bH:=Nx.refl (aC.size+1) aE.size;refine LH.o1 12 ?_;refine LO.z rfl (Z.apnd hq bD.rd rfl inf22 rfl rfl (by first|omega|(simp;omega)) (by first|omega|(simp;omega))) (Wd.u rfl) rfl rfl (fun bI co cp=>?_);obtain⟨kq3,hq,ay,ap⟩:=cp;replace ay:Nx kq aE.size kq3:=ay;replace ap:=ap.md;have aT:Dj (lb+1) kq3:=Dj.app (aD) hlg.lt ay;have bJ:=DF.app (f1) (al.mono (by omega)) ay;have bK:Dj aw kq3:=Dj.app (aR.symm) nd.le ay;have bL:Nx 0 aq.size kq3:=Nx.tr (aM) ay ac.size;have bM:Nx kq aE.size kq3:=Nx.tr (aS) ay aa.size;replace hxm:=fun x hm_=>(hxm x hm_).upL ap (DFL.o bc);replace hlg:=hlg.upL ap (DL.o aD);replace hxq:=fun x hq_=>(hxq x hq_).upL ap (DFL.o f1);replace nd:=nd.upL ap (DL.o aR.symm);replace ac:=ac.trL ap (MIL.o (MI.q aM));replace aa:=aa.trL ap (MIL.o (MI.r aS));have cF:=ap.size;have aI:=hq.le;refine⟨.inr aa,LH.narrow (SH2:=fun Hq=>Mo (Ms [kq3,aw,(aC.size+1)]) co Hq) (fun Hq hq=>aa.trL hq (MIL.cons (MI.r bM) (MIL.cons (MI.r bG) (MIL.o (MI.r bH))))) ?_⟩;refine LH.o1 13 ?_;refine LO.v rfl (Y.nilCheck rfl rfl) (Wd.u rfl) rfl rfl (.inl rfl) ?_;refine LH.o1 14 ?_;refine LO.v rfl (Y.FA hlg.pt rfl u'64 rfl s'22) (Wd.u rfl) rfl rfl (.inl rfl) ?_;refine LH.o1 15 ?_;refine LO.s rfl (S.var1 hlg 2 ([ptr b,Str p,bI,.bool false]) rfl rfl rfl (hq.rd.oneCell) s'22 (by simp) (rfl)) (Wd.u rfl) rfl (fun bN aJ=>?_);obtain⟨hlg,ab⟩:=aJ;replace ab:=ab.md1;replace hxm:=fun x hm_=>(hxm x hm_).upL ab (DFL.o dml);replace hq:=hq.upL ab (DL.o aT.symm);replace hxq:=fun x hq_=>(hxq x hq_).upL ab (DFL.o f2);replace nd:=nd.upL ab (DL.o aQ.symm);replace ac:=ac.trL ab (MIL.o (MI.r ar));have cq:=ab.size;refine⟨.inl rfl,?_⟩;refine LH.done (by kernel_rfl) ?_;refine bi _ _ (bh _ _ (CW.region ?_));refine LR.m1 ?_;refine LR.v1 (Y.addi rfl rfl rfl (by omega)) ?_;refine LR.an ?_;obtain⟨lw3,rfl⟩:∃s:SV,bI=s.v:=⟨toSV bI,hq.sv.symm⟩;refine QN.sub (a9 (i+1,lw3,kq3,q++[(bA,m[i].2)],fun c=>G3 c∨c+1=aw) _ ?_ ?_) ⟨rfl,rfl,(iv (by omega)),trivial⟩
    ·exact⟨(by omega),hlg,hq,snocP (α:=Unit) (fb:=fun _=>(bA,[])) hxq (fun c e=> .inl e) (nd.rd.imp (fun c _ e=> .inr e)),BF.or1 (al.mono (by omega)) nd.le,DF.or1 (bJ) (bK.symm),DF.or1 (f2) (aQ),(fun k hk=>DF.or1 ((f3) k hk) ((bv) k hk).symm),(fun c e=>e.elim (bR c) (fun e=>by have h9:=(bw);unfold Nx at h9;omega)),by rw[List.take_succ_eq_append_getElem (by omega),←hrq];simp[recs],bL,aT,ac⟩
    ·first|omega|(simp only;omega)|(simp;omega)
   ·
    refine CW.exit (bf (.exit 2) nofun _ _ (a_ (.exit 2) nofun _ _ (a8 _ _ ?_)));refine a6 _ _ (CW.sr (fun bO=>?_));refine LR.an ?_;refine bO _ _ ?_;refine CW.ret (hret .ret (.inr rfl) _ _ _ (res1 rfl rfl) ?_);have hz:(freshD D p (recs m)).1=0:=by omega
    obtain rfl:i=m.length:=by omega
    rw[←hrn,List.take_length]at hrq;exact⟨_,bP,lw,kq,q,G3,by rw[hz];rfl,hf,bQ,by omega,by rw[if_pos hz];exact hlg,hq,Nx.z (bd),(aK),(ba),(aD),by rw[if_pos hz];exact hrq,hxq,(fun c h=> .inr (bR c h)),al.mono (by omega),(f3),(f2),(f1),hm0⟩
structure RlP (k:Nat) (H:Heap) (v:Value) (b:Nat) (p:Pth) (t:SV) (br:Bool):Prop where
 ex:(k=0∧v= .pointer none)∨∃lb,k=lb+1∧v=ptr lb∧Var 64 H lb [ptr b,Str p,t.v,.bool br]
section
variable {k b : Nat} {H H' : Heap} {v : Value} {p : Pth} {t : SV} {br : Bool} {ks : List Nat}
theorem RlP.le(h:RlP k H v b p t br):k≤H.size:=by
 rcases h.ex with⟨e,_⟩|⟨lb,e,_,h⟩
 ·omega
 ·have:=h.lt;omega
theorem RlP.nw(h:RlP k H v b p t br)(s:Nw H H'):RlP k H' v b p t br:=⟨h.ex.imp id (fun⟨lb,e,e2,h⟩=>⟨lb,e,e2,h.nw s⟩)⟩
theorem RlP.upL(h:RlP k H v b p t br)(s:Mo (Ms ks) H H')(d:DL k ks):RlP k H' v b p t br:=⟨h.ex.imp id (fun⟨lb,e,e2,h⟩=>⟨lb,e,e2,h.upL s (e▸d)⟩)⟩
end
theorem enc_each{L:List Rec}{n:Nat}(h:(encN 0 L).length≤n):∀r∈L,r.length≤n:=fun r hr=>by have:=encN_mem (n:=0) hr;omega
theorem ropen_ct(K:List Nat)(g:Rg)(b:Nat)(D:Dk)(p:Pth)(N:Nat)(w0:World)(H0:Heap)
 (hf:RDk K g H0 b D) (hdl:g.dm.length≤900000) (hl:p.length≤4294960000) (hB:Bs N D) (hN:N≤1000000) (hrd:(D.readL p).length≤70000):
 Ct Tryz.prog w0 18 #[ptr b,Str p] H0 (fun r H2=>∃K2:List Nat,∃g2:Rg,∃v2:Value,∃t:SV,∃kl:Nat,∃kL:Nat,∃l:List (SV×Rec),∃G:Nat→Prop,r= .tuple #[v2,t.v,.int .i64 ((openD D p).1:Int)]∧(RDk K2 g2 H2 b ((openD D p).2.2))∧(NxK K H0.size K2)∧(g2.dm.length≤g.dm.length+20)∧(RlP kl H2 v2 b p t false)∧(Nx 0 H0.size kl)∧(Ow kL 34 H2 fP 1 t.v l)∧(Nx 0 H0.size kL)∧(DL kl K2)∧(DL kL K2)∧(Dj kl kL)∧(((openD D p).1=0→kl≠0)∧((openD D p).1≠0→kl=0))∧(recs l=(openD D p).2.1)∧(∀x∈l,Rd G H2 fB 1 x.1.v x.2)∧(BF G H2.size)∧(∀c,G c→H0.size≤c)∧(DFL G K2)∧(DF G kl)∧(DF G kL)∧Mo (Ms K) H0 H2):=by
 refine Ct.enter (args:=[ptr b,Str p]) Tryz.func18 rfl rfl rfl ?_;intro Q0 hret;have hm0:Mo (Ms K) H0 H0:=Mo.refl _ _;have aa:=NxK.refl K H0.size;have ab:=hf.bk;have hcm:=encN_parL_le (D.readL p);have hpm:=parL_many (D.readL p);have hse:=parS_le (D.readL p);refine CW.sr (fun bE=>?_);refine LR.a1 ?_;refine LR.a1 ?_;refine LR.an ?_;refine bE _ _ (CW.seq (fun K2 bF bw=>CW.sr (fun bx=>?_)));refine LR.m1 ?_;refine LR.call rfl c'53 rfl (Wd.u rfl) rfl rfl (rname_ct p w0 _ (by omega)) (fun b7 b8 bG=>?_);obtain⟨rfl,am⟩:=bG;replace hf:=hf.nw am;replace hm0:=hm0.trN am;have b9:=am.size;refine LR.v1 (Y.not rfl rfl) ?_;refine LR.m1 ?_;refine LR.split (d:=14) rfl (fun aO=>?_) (fun aO=>?_)
 ·
  have hop:=open_a (D:=D) (p:=p) (.inl (by simpa using aO));refine LR.g1 ?_;refine LR.g1 ?_;refine LR.g1 ?_;refine LR.g1 ?_;refine LR.pt ?_;refine LR.nil (bx _ _ ?_);refine CW.cond_t rfl ?_;refine CW.sr (fun bH=>?_);refine LR.a1 ?_;refine LR.a1 ?_;refine LR.an ?_;refine bH _ _ ?_;refine CW.ret (bw .ret nofun _ _ (hret .ret (.inr rfl) _ _ _ (res3 rfl rfl rfl rfl) ?_));exact⟨K,g,.pointer none,⟨none,0,0⟩,0,0,[],(fun _=>False),by rw[hop];rfl,by rw[hop];exact hf,aa,by omega,⟨.inl ⟨rfl,rfl⟩⟩,.inl rfl,Ow.nil fP_len fP_one,.inl rfl,DL.zK,DL.zK,Dj.z,⟨fun h=>absurd h (by rw[hop];exact(Nat.succ_ne_zero 6)),fun _=>rfl⟩,by rw[hop];rfl,(fun x h=>by cases h),(fun b e=>e.elim),(fun c e=>e.elim),(fun k hk b e=>e.elim),(fun b e=>e.elim),(fun b e=>e.elim),hm0⟩
 ·
  refine LR.wm ?_;refine LR.w1 (Y.cast (v2:=Str (newP p)) (Y.sadd rfl rfl rfl (by simp only[List.length_cons,List.length_nil];omega)) (rfl)) ?_;refine LR.call rfl c'53 rfl (Wd.g rfl rfl rfl) rfl rfl (rname_ct (newP p) w0 _ (by rw[newP_len];omega)) (fun b_ ca bI=>?_);obtain⟨rfl,ao⟩:=bI;replace hf:=hf.nw ao;replace hm0:=hm0.trN ao;have cb:=ao.size;refine LR.w1 (Y.not rfl rfl) ?_;refine LR.pf ?_;refine LR.nil (bx _ _ ?_);refine CW.cond rfl (fun aP=>?_) (fun aP=>?_)
  ·
   have hop:=open_a (D:=D) (p:=p) (.inr (by simpa using aP));refine CW.sr (fun bJ=>?_);refine LR.a1 ?_;refine LR.a1 ?_;refine LR.an ?_;refine bJ _ _ ?_;refine CW.ret (bw .ret nofun _ _ (hret .ret (.inr rfl) _ _ _ (res3 rfl rfl rfl rfl) ?_));exact⟨K,g,.pointer none,⟨none,0,0⟩,0,0,[],(fun _=>False),by rw[hop];rfl,by rw[hop];exact hf,aa,by omega,⟨.inl ⟨rfl,rfl⟩⟩,.inl rfl,Ow.nil fP_len fP_one,.inl rfl,DL.zK,DL.zK,Dj.z,⟨fun h=>absurd h (by rw[hop];exact(Nat.succ_ne_zero 6)),fun _=>rfl⟩,by rw[hop];rfl,(fun x h=>by cases h),(fun b e=>e.elim),(fun c e=>e.elim),(fun k hk b e=>e.elim),(fun b e=>e.elim),(fun b e=>e.elim),hm0⟩
  ·
   have hn1:nameB p=true:=by simpa using aO
   have hn2:nameB (newP p)=true:=by simpa using aP
   refine CW.skip (bF _ _ (CW.sr (fun bK=>?_)));refine LR.m1 ?_;refine LR.m1 ?_;refine LR.call rfl c'24 rfl (Wd.u rfl) rfl rfl (rread_ct K g b D p w0 _ hf hB.an hB.ast (by omega) (by omega) (fun i=>by have:=(hB.f i).1;omega)) (fun cc cd bL=>?_);obtain⟨az,aM,bM,ce,rfl,hf,aA,ae,bN,dhr23,bO,hgd23,aB⟩:=bL;have ap:NxK K H0.size az:=NxK.tr (aa) aA hm0.size;replace hm0:=hm0.trL aB (MIL.ofK (aa) (by intro k hk;simp[hk]));have cf:=aB.size;have ab:=hf.bk;have aC:=ae.le;have hgl23:=hgd23.2;refine LR.m1 ?_;refine LR.v1 (Y.extract rfl rfl rfl) ?_;refine LR.v1 (Y.extract rfl rfl rfl) ?_;refine LR.a1 ?_;refine LR.an ?_;refine bK _ _ (CW.s2 (fun bP bz=>CW.sr (fun bQ=>?_)));refine LR.m1 ?_;refine LR.v1 (Y.eql rfl rfl rfl) (LR.nil (bQ _ _ ?_));refine CW.condp rfl (fun bR=>?_) (fun bR=>?_)
   ·
    have hop:=open_b (D:=D) hn1 hn2 (by omega);refine CW.sr (fun bS=>?_);refine LR.m1 ?_;refine LR.m1 ?_;refine LR.call rfl c'54 rfl (Wd.u rfl) rfl rfl (rfresh_ct az aM b D p ⟨none,0,0⟩ [] N w0 _ hf (by omega) hl (Rd.nil _ _ _ _) (fun x h=>by cases h) (fun x h=>by cases h) (by simp[recs,encN]) hB (by simp[recs,encW,W8,encN];omega)) (fun cg aq bT=>?_);obtain⟨aQ,aR,rfl,hf,aD,bU,aE⟩:=bT;have bA:NxK K H0.size aQ:=NxK.tr (ap) aD hm0.size;replace hm0:=hm0.trL aE (MIL.ofK (ap) (by intro k hk;simp[hk]));have ch:=aE.size;have ab:=hf.bk;replace hf:RDk aQ aR aq b (freshD D p []).2:=hf;refine LR.an ?_;refine bS _ _ (CW.s2 (fun aS aT=>CW.sr (fun aU=>?_)));refine LR.m1 ?_;refine LR.v1 (Y.neq rfl rfl rfl) (LR.nil (aU _ _ ?_));refine CW.condp rfl (fun aV=>?_) (fun aV=>?_)
    ·
     refine CW.sr (fun aW=>?_);refine LR.m1 ?_;refine LR.a1 ?_;refine LR.a1 ?_;refine LR.an ?_;refine aW _ _ ?_;refine CW.ret (aT .ret nofun _ _ (bz .ret nofun _ _ (hret .ret (.inr rfl) _ _ _ (res3 rfl rfl rfl rfl) ?_)));exact⟨_,aR,.pointer none,⟨none,0,0⟩,0,0,[],(fun _=>False),by rw[hop];rfl,by rw[hop];exact hf,bA,by omega,⟨.inl ⟨rfl,rfl⟩⟩,.inl rfl,Ow.nil fP_len fP_one,.inl rfl,DL.zK,DL.zK,Dj.z,⟨fun h=>absurd h (by rw[hop];exact(by have h9:=aV;simp only[recs,List.map_nil]at h9;show(freshD D p []).1≠0;omega)),fun _=>rfl⟩,by rw[hop];rfl,(fun x h=>by cases h),(fun b e=>e.elim),(fun c e=>e.elim),(fun k hk b e=>e.elim),(fun b e=>e.elim),(fun b e=>e.elim),hm0⟩
    ·
     refine CW.skip (aS _ _ (CW.sr (fun aX=>?_)));refine LR.m1 ?_;refine LR.m1 ?_;refine LR.v1 (Y.build (v:= .agg #[ptr b,Str p,.slice none 0 0,.bool false]) rfl rfl (by intro w;kernel_rfl)) ?_;refine LR.z1 (Z.boxv rfl rfl) fun ci bB bV=>?_;obtain⟨rfl,hvb,ar,bW,aY⟩:=bV;have bC:bB.size=aq.size+1:=by rw[aY];simp
     have bX:DL (aq.size+1) aQ:=DL.newK hf.bk;have aZ:Nx 0 H0.size (aq.size+1):=Nx.new hm0.size;replace hf:=hf.nw ar;replace hm0:=hm0.trN ar;have cj:=ar.size;replace hvb:Var 64 bB aq.size ([ptr b,Str p,.slice none 0 0,.bool false]):=hvb;refine LR.a1 ?_;refine LR.a1 ?_;refine LR.an ?_;refine aX _ _ ?_;refine CW.ret (bz .ret nofun _ _ (hret .ret (.inr rfl) _ _ _ (res3 rfl rfl rfl rfl) ?_));have h8:(freshD D p []).1=0:=by have h9:=aV;simp only[recs,List.map_nil]at h9;omega
     rw[h8]at hop;exact⟨_,aR,ptr aq.size,⟨none,0,0⟩,(aq.size+1),0,[],(fun _=>False),by rw[hop];rfl,by rw[hop];exact hf,bA,by omega,⟨.inr ⟨_,rfl,rfl,hvb⟩⟩,(aZ),Ow.nil fP_len fP_one,.inl rfl,(bX),DL.zK,Dj.z,⟨fun _=>Nat.succ_ne_zero _,fun h=>absurd (by rw[hop]) h⟩,by rw[hop];rfl,(fun x h=>by cases h),(fun b e=>e.elim),(fun c e=>e.elim),(fun k hk b e=>e.elim),(fun b e=>e.elim),(fun b e=>e.elim),hm0⟩
   ·
    refine CW.skip (bP _ _ (CW.s2 (fun a0 a2=>CW.sr (fun a3=>?_))));refine LR.m1 ?_;refine LR.v1 (Y.neq rfl rfl rfl) (LR.nil (a3 _ _ ?_));refine CW.condp rfl (fun bY=>?_) (fun bY=>?_)
    ·
     refine CW.sr (fun a4=>?_);refine LR.m1 ?_;refine LR.a1 ?_;refine LR.a1 ?_;refine LR.an ?_;refine a4 _ _ ?_;refine CW.ret (a2 .ret nofun _ _ (hret .ret (.inr rfl) _ _ _ (res3 rfl rfl rfl rfl) ?_));have h8:D.readE p≠0:=by omega
     have hop:=open_c (D:=D) hn1 hn2 (by omega) h8;exact⟨_,aM,.pointer none,⟨none,0,0⟩,0,0,[],(fun _=>False),by rw[hop];rfl,by rw[hop];exact hf,ap,by omega,⟨.inl ⟨rfl,rfl⟩⟩,.inl rfl,Ow.nil fP_len fP_one,.inl rfl,DL.zK,DL.zK,Dj.z,⟨fun h=>absurd h (by rw[hop];exact h8),fun _=>rfl⟩,by rw[hop];rfl,(fun x h=>by cases h),(fun b e=>e.elim),(fun c e=>e.elim),(fun k hk b e=>e.elim),(fun b e=>e.elim),(fun b e=>e.elim),hm0⟩
    ·
     refine CW.skip (a0 _ _ (CW.sr (fun a5=>?_)));refine LR.m1 ?_;refine LR.call rfl c'55 rfl (Wd.u rfl) rfl rfl (rparseO_ct bM (D.readL p) w0 _ ae.rd.any (by omega)) (fun ck aj bZ=>?_);obtain⟨au,aN,av,bD,rfl,hrc43,oL,aF,hxl,aG,af,ak,ah⟩:=bZ;have aw:DL av az:=DL.app2 (DL.zK) hf.bk aF;have aH:Nx 0 H0.size av:=Nx.tr (Nx.refl 0 _) aF hm0.size;replace hf:=hf.nw ah;replace ae:=ae.nw ah;replace hm0:=hm0.trN ah;have cl:=ah.size;have a6:=oL.le;have ac:=aG;have ax:=DFL.above af (by first|exact ab|exact fun k hk=>Nat.le_trans (ab k hk) (by omega)|assumption);have hlt43:=congrArg List.length hrc43;simp only[recs,List.length_map]at hlt43;refine LR.m1 ?_;refine LR.v1 (Y.extract rfl rfl rfl) ?_;refine LR.v1 (Y.extract rfl rfl rfl) ?_;refine LR.v1 (Y.extract rfl rfl rfl) ?_;refine LR.a1 ?_;refine LR.a1 ?_;refine LR.an ?_;refine a5 _ _ (CW.s2 (fun a7 a8=>CW.sr (fun a9=>?_)));refine LR.m1 ?_;refine LR.v1 (Y.neq rfl rfl rfl) (LR.nil (a9 _ _ ?_));refine CW.condp rfl (fun b0=>?_) (fun b0=>?_)
     ·
      refine CW.sr (fun a_=>?_);refine LR.m1 ?_;refine LR.a1 ?_;refine LR.a1 ?_;refine LR.an ?_;refine a_ _ _ ?_;refine CW.ret (a8 .ret nofun _ _ (hret .ret (.inr rfl) _ _ _ (res3 rfl rfl rfl rfl) ?_));have h8:parE (D.readL p)≠0:=by omega
      have hop:=open_d (D:=D) hn1 hn2 (by omega) h8;exact⟨_,aM,.pointer none,⟨none,0,0⟩,0,0,[],(fun _=>False),by rw[hop];rfl,by rw[hop];exact hf,ap,by omega,⟨.inl ⟨rfl,rfl⟩⟩,.inl rfl,Ow.nil fP_len fP_one,.inl rfl,DL.zK,DL.zK,Dj.z,⟨fun h=>absurd h (by rw[hop];exact h8),fun _=>rfl⟩,by rw[hop];rfl,(fun x h=>by cases h),(fun b e=>e.elim),(fun c e=>e.elim),(fun k hk b e=>e.elim),(fun b e=>e.elim),(fun b e=>e.elim),hm0⟩
     ·
      refine CW.skip (a7 _ _ (CW.s2 (fun aI ba=>CW.sr (fun bb=>?_))));refine LR.m1 ?_;refine LR.m1 ?_;refine LR.v1 (Y.len ae.rd rfl u'34 rfl) ?_;refine LR.v1 (Y.lss rfl rfl rfl) (LR.nil (bb _ _ ?_));refine CW.condp rfl (fun b1=>?_) (fun b1=>?_)
      ·
       refine CW.sr (fun bc=>?_);refine LR.m1 ?_;refine LR.m1 ?_;refine LR.m1 ?_;refine LR.call rfl c'54 rfl (Wd.u rfl) rfl rfl (rfresh_ct az aM b D p au aN N w0 _ hf (by omega) hl oL.rd.any (fun x h=>(hxl x h).any) (fun x h=>enc_each (n:=1000000) (by show(encN 0 (recs aN)).length≤_;rw[hrc43];omega) _ (List.mem_map_of_mem h)) (by rw[hrc43];omega) hB (by rw[hrc43];omega)) (fun cm al b2=>?_);have bd:=oL.le;obtain⟨be,b3,rfl,hf,ag,b4,ai⟩:=b2;have bf:DL av be:=DL.appK (aw) bd ag;have bg:=DFL.appK (ax) (ac.mono (by omega)) ag;have aJ:NxK K H0.size be:=NxK.tr (ap) ag hm0.size;replace oL:=oL.upL ai (aw);replace hxl:=fun x hx_=>(hxl x hx_).upL ai (ax);replace hm0:=hm0.trL ai (MIL.ofK (ap) (by intro k hk;simp[hk]));have cn:=ai.size;have ab:=hf.bk;refine LR.an ?_;refine bc _ _ (CW.sr (fun bh=>?_));refine LR.m1 ?_;refine LR.v1 (Y.neq rfl rfl rfl) (LR.nil (bh _ _ ?_));refine CW.condp rfl (fun b5=>?_) (fun b5=>?_)
       ·
        refine CW.sr (fun bi=>?_);refine LR.m1 ?_;refine LR.a1 ?_;refine LR.a1 ?_;refine LR.an ?_;refine bi _ _ ?_;refine CW.ret (ba .ret nofun _ _ (hret .ret (.inr rfl) _ _ _ (res3 rfl rfl rfl rfl) ?_));have h8:(freshD D p (parL (D.readL p))).1≠0:=by rw[←hrc43];omega
        have hop:=open_e (D:=D) hn1 hn2 (by omega) (by omega) (by omega);rw[if_neg h8]at hop;rw[hrc43]at hf;exact⟨_,b3,.pointer none,⟨none,0,0⟩,0,0,[],(fun _=>False),by rw[hop,hrc43],by rw[hop];exact hf,aJ,by omega,⟨.inl ⟨rfl,rfl⟩⟩,.inl rfl,Ow.nil fP_len fP_one,.inl rfl,DL.zK,DL.zK,Dj.z,⟨fun h=>absurd h (by rw[hop];exact h8),fun _=>rfl⟩,by rw[hop];rfl,(fun x h=>by cases h),(fun b e=>e.elim),(fun c e=>e.elim),(fun k hk b e=>e.elim),(fun b e=>e.elim),(fun b e=>e.elim),hm0⟩
       ·
        refine CW.skip (aI _ _ (CW.sr (fun bj=>?_)));refine LR.m1 ?_;refine LR.m1 ?_;refine LR.m1 ?_;refine LR.v1 (Y.build (v:= .agg #[ptr b,Str p,au.v,.bool false]) rfl rfl (by intro w;kernel_rfl)) ?_;refine LR.z1 (Z.boxv rfl rfl) fun b6 aK bl=>?_;obtain⟨rfl,hvb,ad,bm,ay⟩:=bl;have aL:aK.size=al.size+1:=by rw[ay];simp
        have bn:DL (al.size+1) be:=DL.newK hf.bk;have bo:Dj av (al.size+1):=Dj.new oL.le;have bp:=(DF.new (ac.mono (by omega)):DF _ (al.size+1));have bq:Nx 0 H0.size (al.size+1):=Nx.new hm0.size;replace hf:=hf.nw ad;replace oL:=oL.nw ad;replace hxl:=fun x hx_=>(hxl x hx_).nw ad;replace hm0:=hm0.trN ad;have co:=ad.size;replace hvb:Var 64 aK al.size ([ptr b,Str p,au.v,.bool false]):=hvb;refine LR.m1 ?_;refine LR.a1 ?_;refine LR.a1 ?_;refine LR.an ?_;refine bj _ _ ?_;refine CW.ret (hret .ret (.inr rfl) _ _ _ (res3 rfl rfl rfl rfl) ?_)
        have hop:(openD D p).1=0∧(openD D p).2.1=parL (D.readL p):=by
         first
         |(have h9:=open_e (D:=D) hn1 hn2 (by omega) (by omega) (by omega);have h8:(freshD D p (parL (D.readL p))).1=0:=(by rw[←hrc43];omega);rw[h8,if_pos rfl]at h9;rw[h9];exact⟨rfl,rfl⟩)
         |(have h9:=open_f (D:=D) hn1 hn2 (by omega) (by omega) (by omega);rw[h9];exact⟨rfl,rfl⟩)
        exact⟨_,_,ptr al.size,au,(al.size+1),av,aN,bD,by rw[hop.1];rfl,(by first|(have h9:=open_e (D:=D) hn1 hn2 (by omega) (by omega) (by omega);rw[h9];rw[hrc43]at hf;exact hf)|(have h9:=open_f (D:=D) hn1 hn2 (by omega) (by omega) (by omega);rw[h9];exact hf)),aJ,by omega,⟨.inr ⟨_,rfl,rfl,hvb⟩⟩,(bq),oL,(aH),(bn),(bf),(bo.symm),⟨fun _=>Nat.succ_ne_zero _,fun h=>absurd hop.1 h⟩,by rw[hop.2];exact hrc43,hxl,ac.mono (by omega),(fun c h=>by have:=af c h;omega),(bg),(bp),(ak),hm0⟩
      ·
       refine CW.skip (aI _ _ (CW.sr (fun br=>?_)));refine LR.m1 ?_;refine LR.m1 ?_;refine LR.m1 ?_;refine LR.v1 (Y.build (v:= .agg #[ptr b,Str p,au.v,.bool false]) rfl rfl (by intro w;kernel_rfl)) ?_;refine LR.z1 (Z.boxv rfl rfl) fun b6 aK bl=>?_;obtain⟨rfl,hvb,ad,bm,ay⟩:=bl;have aL:aK.size=aj.size+1:=by rw[ay];simp
       have bs:DL (aj.size+1) az:=DL.newK hf.bk;have bt:Dj av (aj.size+1):=Dj.new oL.le;have bu:=(DF.new (ac.mono (by omega)):DF _ (aj.size+1));have bv:Nx 0 H0.size (aj.size+1):=Nx.new hm0.size;replace hf:=hf.nw ad;replace oL:=oL.nw ad;replace hxl:=fun x hx_=>(hxl x hx_).nw ad;replace hm0:=hm0.trN ad;have cp:=ad.size;replace hvb:Var 64 aK aj.size ([ptr b,Str p,au.v,.bool false]):=hvb;refine LR.m1 ?_;refine LR.a1 ?_;refine LR.a1 ?_;refine LR.an ?_;refine br _ _ ?_;refine CW.ret (hret .ret (.inr rfl) _ _ _ (res3 rfl rfl rfl rfl) ?_)
       have hop:(openD D p).1=0∧(openD D p).2.1=parL (D.readL p):=by
        first
        |(have h9:=open_e (D:=D) hn1 hn2 (by omega) (by omega) (by omega);have h8:(freshD D p (parL (D.readL p))).1=0:=(by rw[←hrc43];omega);rw[h8,if_pos rfl]at h9;rw[h9];exact⟨rfl,rfl⟩)
        |(have h9:=open_f (D:=D) hn1 hn2 (by omega) (by omega) (by omega);rw[h9];exact⟨rfl,rfl⟩)
       exact⟨_,_,ptr aj.size,au,(aj.size+1),av,aN,bD,by rw[hop.1];rfl,(by first|(have h9:=open_e (D:=D) hn1 hn2 (by omega) (by omega) (by omega);rw[h9];rw[hrc43]at hf;exact hf)|(have h9:=open_f (D:=D) hn1 hn2 (by omega) (by omega) (by omega);rw[h9];exact hf)),ap,by omega,⟨.inr ⟨_,rfl,rfl,hvb⟩⟩,(bv),oL,(aH),(bs),(aw),(bt.symm),⟨fun _=>Nat.succ_ne_zero _,fun h=>absurd hop.1 h⟩,by rw[hop.2];exact hrc43,hxl,ac.mono (by omega),(fun c h=>by have:=af c h;omega),(ax),(bu),(ak),hm0⟩
end WdkD

namespace WdkE
open E Go.RowKit SumB SumC SumF SumG DelA SimA SimB SimC SimD SimE SimF SimG SimH SimI SimL SimN SimQ SimR SimS SimU SimX WalA WalB WalC WalD WalE WalF WalG WalH WalI WalJ WalK DskA DskB DskC DskD DskE DskF DskH DskI WdkA WdkB WdkC WdkD
section
variable (mx_ : Int) (K : List Nat) (b : Nat) (D : Dk) (p : Pth) (N : Nat) (w0 : World) (H0 : Heap)
theorem lgP_ptr{k n:Nat}{H:Heap}{v:Value}{br:Bool}(h:LgP k H v b p n br):∃o,v= .pointer o:=by
 rcases h.ex with⟨_,e⟩|⟨lb,_,e,_⟩<;>exact⟨_,e⟩
theorem rlP_ptr{k:Nat}{H:Heap}{v:Value}{t:SV}{br:Bool}(h:RlP k H v b p t br):∃o,v= .pointer o:=by
 rcases h.ex with⟨_,e⟩|⟨lb,_,e,_⟩<;>exact⟨_,e⟩
theorem lgP_nil{k n:Nat}{H:Heap}{o:Option Addr}{br:Bool}(h:LgP k H (.pointer o) b p n br):o.isNone=decide (k=0):=by
 rcases h.ex with⟨e1,e2⟩|⟨lb,e1,e2,_⟩
 ·rw[Value.pointer.inj e2,e1];rfl
 ·rw[Value.pointer.inj e2,e1];simp
theorem rlP_nil{k:Nat}{H:Heap}{o:Option Addr}{t:SV}{br:Bool}(h:RlP k H (.pointer o) b p t br):o.isNone=decide (k=0):=by
 rcases h.ex with⟨e1,e2⟩|⟨lb,e1,e2,_⟩
 ·rw[Value.pointer.inj e2,e1];rfl
 ·rw[Value.pointer.inj e2,e1];simp
theorem lgP_var{k n:Nat}{H:Heap}{v:Value}{br:Bool}(h:LgP k H v b p n br)(hk:k≠0):∃lb,k=lb+1∧v=ptr lb∧Var 76 H lb [ptr b,Str p,.int .i64 (n:Int),.bool br]:=by
 rcases h.ex with⟨e,_⟩|h
 ·exact absurd e hk
 ·exact h
theorem rlP_var{k:Nat}{H:Heap}{v:Value}{t:SV}{br:Bool}(h:RlP k H v b p t br)(hk:k≠0):∃lb,k=lb+1∧v=ptr lb∧Var 64 H lb [ptr b,Str p,t.v,.bool br]:=by
 rcases h.ex with⟨e,_⟩|h
 ·exact absurd e hk
 ·exact h
theorem wopenP_ct(g:Gh)(hf:PDk K g H0 b D)(mx:MX mx_ H0)(bf_mx:BF (fun b=>b=0) H0.size)(dmx:DFL (fun b=>b=0) K)(hl:p.length≤4294960000)(hB:Bs N D)(hN:N≤80000000):
 Ct Tryz.prog w0 9 #[ptr b,Str p] H0 (fun r H2=>∃(o:Option Addr) (kl:Nat) (t:SV) (l:List (SV×Rec)) (K2:List Nat) (g2:Gh) (G:Nat→Prop),r= .tuple #[.pointer o,t.v,.int .i64 ((openD D p).1:Int)]∧PDk K2 g2 H2 b (openD D p).2.2∧NxK K H0.size K2∧LgP kl H2 (.pointer o) b p l.length false∧Nx 0 H0.size kl∧DL kl K2∧
  (((openD D p).1=0→kl≠0)∧((openD D p).1≠0→kl=0))∧recs l=(openD D p).2.1∧Rd G H2 fP 1 t.v l∧(∀x∈l,Rd G H2 fB 1 x.1.v x.2)∧BF G H2.size∧(∀c,G c→H0.size≤c)∧DFL G K2∧DF G kl∧Mo (Ms K) H0 H2):=by
 refine(wopen_ct mx_ K g b D p N w0 H0 hf mx bf_mx dmx hl hB hN).mono ?_;rintro r H2 ⟨lv,kl,t,l,K2,g2,G,rfl,h1,h2,h3,h4,h5,h6,h7,h8,h9,h11,h12,h13,h14,h10⟩;obtain⟨o,rfl⟩:=lgP_ptr b p h3;exact⟨o,kl,t,l,K2,g2,G,rfl,h1,h2,h3,h4,h5,⟨fun e=>by obtain⟨lb,e2,_⟩:=h6.1 e;omega,fun e=>(h6.2 e).1⟩,h7,h8,h9,h11,h12,h13,h14,h10⟩
theorem ropenP_ct(g:Rg)(hf:RDk K g H0 b D)(hdl:g.dm.length≤900000)(hl:p.length≤4294960000)(hB:Bs N D)(hN:N≤1000000)(hrd:(D.readL p).length≤70000):
 Ct Tryz.prog w0 18 #[ptr b,Str p] H0 (fun r H2=>∃(K2:List Nat) (g2:Rg) (o:Option Addr) (t:SV) (kl kL:Nat) (l:List (SV×Rec)) (G:Nat→Prop),r= .tuple #[.pointer o,t.v,.int .i64 ((openD D p).1:Int)]∧RDk K2 g2 H2 b (openD D p).2.2∧NxK K H0.size K2∧g2.dm.length≤g.dm.length+20∧RlP kl H2 (.pointer o) b p t false∧Nx 0 H0.size kl∧Ow kL 34 H2 fP 1 t.v l∧Nx 0 H0.size kL∧DL kl K2∧DL kL K2∧Dj kl kL∧
  (((openD D p).1=0→kl≠0)∧((openD D p).1≠0→kl=0))∧recs l=(openD D p).2.1∧(∀x∈l,Rd G H2 fB 1 x.1.v x.2)∧BF G H2.size∧(∀c,G c→H0.size≤c)∧DFL G K2∧DF G kl∧DF G kL∧Mo (Ms K) H0 H2):=by
 refine(ropen_ct K g b D p N w0 H0 hf hdl hl hB hN hrd).mono ?_;rintro r H2 ⟨K2,g2,v2,t,kl,kL,l,G,rfl,h1,h2,h3,h4,h⟩;obtain⟨o,rfl⟩:=rlP_ptr b p h4;exact⟨K2,g2,o,t,kl,kL,l,G,rfl,h1,h2,h3,h4,h⟩
theorem wappP_ct(g:Gh)(kl n:Nat)(o:Option Addr)(br:Bool)(s:SV)(rc:Rec)(F:Nat→Prop)(hf:PDk K g H0 b D)(mx:MX mx_ H0)(bf_mx:BF (fun b=>b=0) H0.size)(dmx:DFL (fun b=>b=0) K)(hlg:LgP kl H0 (.pointer o) b p n br)(hk:kl≠0)(dl:DL kl K)(dmv:DF (fun b=>b=0) kl)(hr:Rd F H0 fB 1 s.v rc)(bf_hr:BF F H0.size)(dfr:DFL F K)(dlr:DF F kl)(hrl:rc.length≤1048576)(hl:p.length≤4294960000)(hB:Bs N D)(hN:N≤80000000)(hnn:n≤1000000000):
 Ct Tryz.prog w0 10 #[.pointer o,s.v] H0 (fun r H2=>∃(K2:List Nat) (g2:Gh),r= .int .i64 ((appD D p n br rc).1:Int)∧PDk K2 g2 H2 b (appD D p n br rc).2.2.2∧NxK K H0.size K2∧LgP kl H2 (.pointer o) b p (appD D p n br rc).2.1 (appD D p n br rc).2.2.1∧DL kl K2∧Mo (Ms (K++[kl])) H0 H2):=by
 obtain⟨lb,rfl,e,hv⟩:=lgP_var b p hlg hk;rw[e];refine(wapp_ct mx_ K g b D lb p n br s rc F N w0 H0 hf mx bf_mx dmx hv dl dmv hr bf_hr dfr dlr hrl hl hB hN hnn).mono ?_;rintro r H2 ⟨K2,g2,h1,h2,h3,h4,h5,h6⟩;exact⟨K2,g2,h1,h2,h3,⟨.inr ⟨lb,rfl,rfl,h4⟩⟩,h5,h6⟩
theorem rappP_ct(g:Rg)(kl:Nat)(o:Option Addr)(lv:SV)(kL:Nat)(l:List (SV×Rec))(br:Bool)(s:SV)(rc:Rec)(F G:Nat→Prop)(hf:RDk K g H0 b D)(hlg:RlP kl H0 (.pointer o) b p lv br)(hk:kl≠0)(hL:Ow kL 34 H0 fP 1 lv.v l)(dlf:DL kl K)(dLf:DL kL K)(dlL:Dj kl kL)(hxl:∀x∈l,Rd G H0 fB 1 x.1.v x.2)(bf_hxl:BF G H0.size)(dgf:DFL G K)(dgl:DF G kl)(dgL:DF G kL)
 (hr:Rd F H0 fB 1 s.v rc) (bf_hr:BF F H0.size) (dfr:DFL F K) (dfl:DF F kl) (dfL:DF F kL) (hrl:rc.length≤1000000) (hdl:g.dm.length≤1000000) (hl:p.length≤4294960000) (hel:(encN 0 (recs l)).length≤400000) (hB:Bs N D) (hN:N≤1000000):
 Ct Tryz.prog w0 22 #[.pointer o,s.v] H0 (fun r H2=>∃(K2:List Nat) (g2:Rg) (lv2:SV) (kL2:Nat) (l2:List (SV×Rec)) (G2:Nat→Prop),r= .int .i64 ((appR D p (recs l) br rc).1:Int)∧RDk K2 g2 H2 b (appR D p (recs l) br rc).2.2.2∧NxK K H0.size K2∧g2.dm.length≤g.dm.length+20∧RlP kl H2 (.pointer o) b p lv2 (appR D p (recs l) br rc).2.2.1∧Ow kL2 34 H2 fP 1 lv2.v l2∧Nx kL H0.size kL2∧DL kl K2∧DL kL2 K2∧Dj kl kL2∧recs l2=(appR D p (recs l) br rc).2.1∧(∀x∈l2,Rd G2 H2 fB 1 x.1.v x.2)∧(∀c,G2 c→G c∨H0.size≤c)∧BF G2 H2.size∧DFL G2 K2∧DF G2 kl∧DF G2 kL2∧Mo (Ms (K++[kl,kL])) H0 H2):=by
 obtain⟨lb,rfl,e,hv⟩:=rlP_var b p hlg hk;rw[e];have hx9:∀x∈l,x.2.length≤1000000:=fun x h=>by have:=enc_each hel x.2 (List.mem_map_of_mem h);omega
 have hl9:l.length≤500000:=by have h9:=encW_many (recs l);have h8:W8.length=8:=rfl;unfold encW at h9;rw[List.length_append]at h9;simp only[recs,List.length_map]at h9 hel⊢;omega
 refine(rapp_ct K g b D lb p lv kL l br s rc F G N w0 H0 hf hv hL dlf dLf dlL hxl bf_hxl dgf dgl dgL hr bf_hr dfr dfl dfL hrl hdl hl hx9 (by omega) (by omega) hB hN).mono ?_;rintro r H2 ⟨K2,g2,lv2,kL2,l2,G2,h1,h2,h3,h4,h5,h⟩;exact⟨K2,g2,lv2,kL2,l2,G2,h1,h2,h3,h4,⟨.inr ⟨lb,rfl,rfl,h5⟩⟩,h⟩
theorem rckpP_ct(g:Rg)(kl:Nat)(o:Option Addr)(lv:SV)(kL:Nat)(l:List (SV×Rec))(br:Bool)(s:SV)(m:List (SV×Rec))(F G:Nat→Prop)(hf:RDk K g H0 b D)(hlg:RlP kl H0 (.pointer o) b p lv br)(hk:kl≠0)(hL:Ow kL 34 H0 fP 1 lv.v l)(dlf:DL kl K)(dLf:DL kL K)(dlL:Dj kl kL)(hxl:∀x∈l,Rd G H0 fB 1 x.1.v x.2)(bf_hxl:BF G H0.size)(dgf:DFL G K)(dgl:DF G kl)(dgL:DF G kL)
 (hr:Rd F H0 fP 1 s.v m) (hxm:∀x∈m,Rd F H0 fB 1 x.1.v x.2) (bf_hr:BF F H0.size) (dfr:DFL F K) (dfl:DF F kl) (dfL:DF F kL) (hdl:g.dm.length≤1000000) (hl:p.length≤4294960000) (hem:(encN 0 (recs m)).length≤400000) (hB:Bs N D) (hN:N≤1000000):
 Ct Tryz.prog w0 21 #[.pointer o,s.v] H0 (fun r H2=>∃(K2:List Nat) (g2:Rg) (lv2:SV) (kL2:Nat) (l2:List (SV×Rec)) (G2:Nat→Prop),r= .int .i64 ((freshD D p (recs m)).1:Int)∧RDk K2 g2 H2 b (freshD D p (recs m)).2∧NxK K H0.size K2∧g2.dm.length≤g.dm.length+8∧RlP kl H2 (.pointer o) b p lv2 (if(freshD D p (recs m)).1=0 then false else br)∧Ow kL2 34 H2 fP 1 lv2.v l2∧Nx kL H0.size kL2∧DL kl K2∧DL kL2 K2∧Dj kl kL2∧(recs l2=if(freshD D p (recs m)).1=0 then recs m else recs l)∧(∀x∈l2,Rd G2 H2 fB 1 x.1.v x.2)∧(∀c,G2 c→G c∨H0.size≤c)∧BF G2 H2.size∧DFL G2 K2∧DF G2 kl∧DF G2 kL2∧Mo (Ms (K++[kl,kL])) H0 H2):=by
 obtain⟨lb,rfl,e,hv⟩:=rlP_var b p hlg hk;rw[e];have hx9:∀x∈m,x.2.length≤1000000:=fun x h=>by have:=enc_each hem x.2 (List.mem_map_of_mem h);omega
 have hl9:m.length≤500000:=by have h9:=encW_many (recs m);have h8:W8.length=8:=rfl;unfold encW at h9;rw[List.length_append]at h9;simp only[recs,List.length_map]at h9 hem⊢;omega
 refine(rckp_ct K g b D lb p lv kL l br s m F G N w0 H0 hf hv hL dlf dLf dlL hxl bf_hxl dgf dgl dgL hr bf_hr dfr dfl dfL hxm bf_hr dfr dfl dfL hdl hl hx9 (by omega) (by omega) hB hN).mono ?_;rintro r H2 ⟨K2,g2,lv2,kL2,l2,G2,h1,h2,h3,h4,h5,h⟩;exact⟨K2,g2,lv2,kL2,l2,G2,h1,h2,h3,h4,⟨.inr ⟨lb,rfl,rfl,h5⟩⟩,h⟩
theorem wckpP_ct(g:Gh)(kl n:Nat)(o:Option Addr)(br:Bool)(s:SV)(m:List (SV×Rec))(F:Nat→Prop)(hf:PDk K g H0 b D)(mx:MX mx_ H0)(bf_mx:BF (fun b=>b=0) H0.size)(dmx:DFL (fun b=>b=0) K)(hlg:LgP kl H0 (.pointer o) b p n br)(hk:kl≠0)(dl:DL kl K)(dmv:DF (fun b=>b=0) kl)(hr:Rd F H0 fP 1 s.v m)(hxm:∀x∈m,Rd F H0 fB 1 x.1.v x.2)(bf_hr:BF F H0.size)(dfr:DFL F K)(dlr:DF F kl)(hl:p.length≤4294960000)(hem:(encN 0 (recs m)).length≤500000)(hB:Bs N D)(hN:N≤80000000):
 Ct Tryz.prog w0 16 #[.pointer o,s.v] H0 (fun r H2=>∃(K2:List Nat) (g2:Gh),r= .int .i64 ((freshD D p (recs m)).1:Int)∧PDk K2 g2 H2 b (freshD D p (recs m)).2∧NxK K H0.size K2∧LgP kl H2 (.pointer o) b p (lgN (freshD D p (recs m)).1 m.length n) (lgB (freshD D p (recs m)).1 br)∧DL kl K2∧Mo (Ms (K++[kl])) H0 H2):=by
 obtain⟨lb,rfl,e,hv⟩:=lgP_var b p hlg hk;rw[e];have hx9:∀x∈m,x.2.length≤1048576:=fun x h=>by have:=enc_each hem x.2 (List.mem_map_of_mem h);omega
 have h8:W8.length=8:=rfl;have hl9:m.length≤500008:=by have h9:=encW_many (recs m);unfold encW at h9;rw[List.length_append]at h9;simp only[recs,List.length_map]at h9 hem⊢;omega
 refine(ckpt_ct mx_ K g b D lb p n br s m F N w0 H0 hf mx bf_mx dmx hv dl dmv hr bf_hr dfr hxm bf_hr dfr hx9 (by omega) dlr dlr hl hB (by unfold encW;rw[List.length_append];omega) (by omega)).mono ?_;rintro r H2 ⟨K2,g2,h1,h2,h3,h4,h5,h6⟩;exact⟨K2,g2,h1,h2,h3,⟨.inr ⟨lb,rfl,rfl,h4⟩⟩,h5,h6⟩
theorem countP_ct{kl n:Nat}{o:Option Addr}{br:Bool}(hlg:LgP kl H0 (.pointer o) b p n br)(hk:kl≠0):Ct Tryz.prog w0 11 #[.pointer o] H0 (fun r H2=>r= .int .i64 (n:Int)∧Nw H0 H2):=by
 obtain⟨lb,rfl,e,hv⟩:=lgP_var b p hlg hk;rw[e];exact count_ct lb _ _ _ _ w0 H0 hv
end
end WdkE

namespace WdkF
open E Go.RowKit SumB SumC SumF SumG DelA SimA SimB SimC SimD SimE SimF SimG SimH SimI SimL SimN SimP SimQ SimR SimS SimU SimX WalA WalB WalC WalD WalE WalF WalG WalH WalI WalJ WalK DskA DskB DskC DskD DskE DskF DskH DskI WdkA WdkB WdkC WdkD WdkE
set_option maxRecDepth 100000 in
theorem inf39:Inf Tryz.prog 39 3 1 8:=⟨Tryz.underlying39,_,_,rfl,rfl,rfl,rfl,rfl⟩
structure Wl where
 kd:Int
 n:Int
 lv:SV
 L:List (SV×Rec)
 pv:SV
 pk:List Int
abbrev fWl(x:Wl):List Value:=[.int .i64 x.kd,.int .i64 x.n,x.lv.v,x.pv.v]
theorem fWl_len(x:Wl):(fWl x).length=4:=rfl
theorem fWl_one(x:Wl):∀u∈fWl x,u.oneCell'=true:=by
 intro u hu;simp only[fWl,List.mem_cons,List.not_mem_nil,or_false]at hu;rcases hu with rfl|rfl|rfl|rfl<;>rfl
def WlI(x:Wl):Prop:=(-9223372036854775808≤x.kd∧x.kd≤9223372036854775807)∧(-9223372036854775808≤x.n∧x.n≤9223372036854775807)∧∀y∈x.pk,-9223372036854775808≤y∧y≤9223372036854775807
theorem df_or{G G2:Nat→Prop}{k n:Nat}(h:∀c,G2 c→G c∨n≤c)(d:DF G k)(hk:k≤n):DF G2 k:=fun b hb e=>by
 rcases h b hb with h1|h1
 ·exact d b h1 e
 ·omega
theorem wl_spl{a b:List Value}(h:a.length=b.length):splice a 0 b=b:=by simp[splice,h]
section
variable {D : Dk} {p : Pth} {L m : List Rec} {br : Bool} {kl km n N e : Nat} {r : Rec}
theorem bq_rd(h:Bq N D)(p:Pth):(D.readL p).length≤65536:=by
 have h1:(D.wasL p).length≤65536:=by
  cases hq:mget D.now p with
  |some i=>rw[was_some hq];exact(h.f i).1
  |none=>rw[was_none hq];exact Nat.zero_le _
 unfold Dk.readL;split
 ·exact h1
 ·exact Nat.zero_le _
theorem open_rows(D:Dk)(p:Pth):(openD D p).2.1=[]∨(openD D p).2.1=parL (D.readL p):=by
 unfold openD;split
 ·exact .inl rfl
 ·split
  ·exact .inl rfl
  ·split
   ·exact .inl rfl
   ·split
    ·exact .inl rfl
    ·split
     ·show(if _ then _ else _)=_∨(if _ then _ else _)=_
      split
      ·exact .inr rfl
      ·exact .inl rfl
     ·exact .inr rfl
structure Wst (D:Dk) (p:Pth) (kl km n:Nat) (L:List Rec) (br:Bool) (N e:Nat):Prop where
 q:Bq N D
 le:(encN 0 L).length≤e
 z:(kl=0∧km=0)∨(kl≠0∧km≠0∧Jn D p L br∧n=L.length)
theorem Wst.mono(h:Wst D p kl km n L br N e){N2 e2:Nat}(h1:N≤N2)(h2:e≤e2):Wst D p kl km n L br N2 e2:=⟨h.q.mono h1,Nat.le_trans h.le h2,h.z⟩
theorem Wst.pos(h:Wst D p kl km n L br N e)(hk:kl≠0):km≠0∧Jn D p L br∧n=L.length:=by
 rcases h.z with⟨e1,_⟩|⟨_,h2⟩
 ·exact absurd e1 hk
 ·exact h2
theorem Wst.iff(h:Wst D p kl km n L br N e):kl=0↔km=0:=by
 rcases h.z with⟨e1,e2⟩|⟨h1,h2,_⟩
 ·exact⟨fun _=>e2,fun _=>e1⟩
 ·exact⟨fun e=>absurd e h1,fun e=>absurd e h2⟩
theorem Wst.opens(hb:Bq N D)(hid:Idl D)(h1:((openD D p).1=0→kl≠0)∧((openD D p).1≠0→kl=0))(h2:((openD D p).1=0→km≠0)∧((openD D p).1≠0→km=0))(hL:L=(openD D p).2.1)(hn:n=L.length):Wst (openD D p).2.2 p kl km n L false (N+16) 65536:=by
 subst hL;refine⟨bq_open hb p,?_,?_⟩
 ·rcases open_rows D p with e|e
  ·rw[e];exact Nat.zero_le _
  ·rw[e];exact Nat.le_trans (encN_parL_le _).1 (bq_rd hb p)
 ·by_cases h0:(openD D p).1=0
  ·exact .inr ⟨h1.1 h0,h2.1 h0,(open_J hid).2 h0,hn⟩
  ·exact .inl ⟨h1.2 h0,h2.2 h0⟩
theorem Wst.stop(h:Wst D p kl km n L br N e)(k:Nat):Wst (D.stop k) p kl km n L br N e:=⟨h.q.stop k,h.le,h.z.imp id (fun⟨h1,h2,h3,h4⟩=>⟨h1,h2,h3.stop k,h4⟩)⟩
theorem appR_rows(D:Dk)(p:Pth)(L:List Rec)(br:Bool)(r:Rec):(appR D p L br r).2.1=L∨(appR D p L br r).2.1=L++[r]:=by
 unfold appR;split
 ·exact .inl rfl
 ·show(if _ then _ else _)=_∨(if _ then _ else _)=_
  split
  ·exact .inr rfl
  ·exact .inl rfl
theorem Wst.app(h:Wst D p kl km n L br N e)(hid:Idl D)(hk:kl≠0)(hr:r.length<3000):
 appD D p n br r=((appR D p L br r).1,(appR D p L br r).2.1.length,(appR D p L br r).2.2.1,(appR D p L br r).2.2.2)∧Wst (appR D p L br r).2.2.2 p kl km (appR D p L br r).2.1.length (appR D p L br r).2.1 (appR D p L br r).2.2.1 (N+32) (e+3012):=by
 obtain⟨h1,h2,h3⟩:=h.pos hk;obtain⟨a1,a2,a3⟩:=h2.app (r:=r) hid (by omega);rw[h3];refine⟨a1,bq_app h.q,?_,.inr ⟨hk,h1,a2,rfl⟩⟩;have h9:=h.le;rcases appR_rows D p L br r with e1|e1
 ·rw[e1];omega
 ·rw[e1,encN_len]
  rw[encN_len]at h9;rw[List.map_append,List.sum_append];simp;omega
theorem Wst.ckp(h:Wst D p kl km n L br N e)(hid:Idl D)(hk:kl≠0)(hm:∀r∈m,r.length≤1048576)(he:(encN 0 m).length≤60260)(he2:60260≤e){k:Nat}(hkm:k=m.length){L2:List Rec}(hL2:L2=if(freshD D p m).1=0 then m else L):
 Wst (freshD D p m).2 p kl km (lgN (freshD D p m).1 k n) L2 (lgB (freshD D p m).1 br) (N+16) e:=by
 obtain⟨h1,h2,h3⟩:=h.pos hk;obtain⟨a1,a2,a3⟩:=h2.ckp hid hm;subst hkm hL2;unfold lgN lgB;by_cases h0:(freshD D p m).1=0
 ·rw[if_pos h0,if_pos h0,if_pos h0];exact⟨bq_fresh h.q p m,by omega,.inr ⟨hk,h1,a2 h0,rfl⟩⟩
 ·rw[if_neg h0,if_neg h0,if_neg h0];exact⟨bq_fresh h.q p m,h.le,.inr ⟨hk,h1,a3 h0,h3⟩⟩
end
theorem wplays_ct(mx_:Int)(a:Int)(p:Pth)(s2:SV)(l:List Wl)(w0:World)(H0:Heap)
 (mx:MX mx_ H0) (bf_mx:BF (fun b=>b=0) H0.size) (hl:RdT H0 fWl 4 s2.v l) (hrx:∀x∈l,RdT H0 fP 1 x.lv.v x.L) (hry:∀x∈l,∀y∈x.L,RdT H0 fB 1 y.1.v y.2) (hpx:∀x∈l,RdT H0 fI 1 x.pv.v x.pk) (hci:∀x∈l,WlI x) (hpk:∀x∈l,x.pk.length≤17592186044416) (ha: -9223372036854775808≤a∧a≤9223372036854775807):
 Ct Tryz.prog w0 5 #[.int .i64 a,Str p,s2.v] H0 (fun r H2=>r= .bool true∧Nw H0 H2):=by
 refine Ct.enter (args:=[.int .i64 a,Str p,s2.v]) Tryz.func5 rfl rfl rfl ?_;intro Q0 hret;have hm0:Nw H0 H0:=Mo.refl _ _;replace hl:=hl.bnd;have bA:=hl.bf;replace hrx:=fun x ac=>(hrx x ac).bnd;have ar:BF (fun b=>True∧b<H0.size) H0.size:=fun b h=>h.2;replace hry:=fun x ac y hy0=>(hry x ac y hy0).bnd;have au:BF (fun b=>True∧b<H0.size) H0.size:=fun b h=>h.2;replace hpx:=fun x hp0=>(hpx x hp0).bnd;have ap:BF (fun b=>True∧b<H0.size) H0.size:=fun b h=>h.2;refine CW.sr (fun j4=>?_);refine LR.an ?_;refine j4 _ _ (CW.s1 (fun j5=>CW.sr (fun j6=>?_)));refine LR.call rfl c'6 rfl (Wd.u rfl) rfl rfl (known3_ct mx_ w0 _ mx bf_mx) (fun lz lA j7=>?_);obtain⟨rfl,b6⟩:=j7;replace mx:=mx.nw b6;replace hl:=hl.nw b6;replace hrx:=fun x ac=>(hrx x ac).nw b6;replace hry:=fun x ac y hy0=>(hry x ac y hy0).nw b6;replace hpx:=fun x hp0=>(hpx x hp0).nw b6;replace hm0:=hm0.tr b6;have lB:=b6.size;refine LR.v1 (Y.not rfl rfl) (LR.nil (j6 _ _ ?_));refine CW.cond_f rfl ?_;refine CW.skip (j5 _ _ (CW.sr (fun j8=>?_)));refine LR.m1 ?_;refine LR.call rfl c'15 rfl (Wd.u rfl) rfl rfl (within3_ct a 65536 w0 _ (by omega) ha) (fun lC lD j9=>?_);obtain⟨rfl,b7⟩:=j9;replace mx:=mx.nw b7;replace hl:=hl.nw b7;replace hrx:=fun x ac=>(hrx x ac).nw b7;replace hry:=fun x ac y hy0=>(hry x ac y hy0).nw b7;replace hpx:=fun x hp0=>(hpx x hp0).nw b7;replace hm0:=hm0.tr b7;have lE:=b7.size;have hcl:=wiN_lt (a:=a) (show 0<65536 by omega);refine LR.an ?_;refine j8 _ _ (CW.sr (fun j_=>?_));refine LR.m1 ?_;refine LR.call rfl c'8 rfl (Wd.u rfl) rfl rfl (new_ct (wiN a 65536) 65536 w0 _ (by omega) (by omega)) (fun lF lG ka=>?_);obtain⟨hR,kb,bx,rfl,hf,hkn30,b8⟩:=ka;have hS:=DFL.appK (DFL.nil) (bf_mx.mono hm0.size) hkn30;have jA:=DFL.appK (DFL.nil) (bA.mono hm0.size) hkn30;have jB:=DFL.appK (DFL.nil) (ar.mono hm0.size) hkn30;have jC:=DFL.appK (DFL.nil) (au.mono hm0.size) hkn30;have jD:=DFL.appK (DFL.nil) (ap.mono hm0.size) hkn30;have jE:NxK [] H0.size hR:=NxK.tr (NxK.refl [] _) hkn30 hm0.size;replace mx:=mx.nw b8;replace hl:=hl.nw b8;replace hrx:=fun x ac=>(hrx x ac).nw b8;replace hry:=fun x ac y hy0=>(hry x ac y hy0).nw b8;replace hpx:=fun x hp0=>(hpx x hp0).nw b8;replace hm0:=hm0.tr b8;have lH:=b8.size;have aq:=hf.bk;have hB0:=Bq.empty (wiN a 65536) 65536 (Nat.le_refl _);refine LR.m1 ?_;refine LR.v1 (Y.extract rfl rfl rfl) ?_;refine LR.v1 (Y.extract rfl rfl rfl) ?_;refine LR.a1 ?_;refine LR.an ?_;refine j_ _ _ (CW.sr (fun kc=>?_));refine LR.m1 ?_;refine LR.call rfl c'17 rfl (Wd.u rfl) rfl rfl (rnew_ct (wiN a 65536) 65536 w0 _ (by omega) (by omega)) (fun lI lJ ke=>?_);obtain⟨eH,jF,bS,rfl,hx,hkn35,hT,bY⟩:=ke;have jG:=DFL.appK (DFL.nil) (bf_mx.mono hm0.size) hkn35;have jH:=DFL.appK (DFL.nil) (bA.mono hm0.size) hkn35;have jI:=DFL.appK (DFL.nil) (ar.mono hm0.size) hkn35;have eI:=DFL.appK (DFL.nil) (au.mono hm0.size) hkn35;have eJ:=DFL.appK (DFL.nil) (ap.mono hm0.size) hkn35;have eK:DKL hR eH:=DKL.appK (DKL.nil) hf.bk hkn35;have eL:NxK [] H0.size eH:=NxK.tr (NxK.refl [] _) hkn35 hm0.size;replace mx:=mx.nw bY;replace hl:=hl.nw bY;replace hrx:=fun x ac=>(hrx x ac).nw bY;replace hry:=fun x ac y hy0=>(hry x ac y hy0).nw bY;replace hpx:=fun x hp0=>(hpx x hp0).nw bY;replace hf:=hf.nw bY;replace hm0:=hm0.tr bY;have lK:=bY.size;have ao:=hx.bk;have hgl35:jF.dm.length=0:=by rw[hT];rfl
 refine LR.m1 ?_;refine LR.v1 (Y.extract rfl rfl rfl) ?_;refine LR.v1 (Y.extract rfl rfl rfl) ?_;refine LR.a1 ?_;refine LR.an ?_;refine kc _ _ (CW.s2 (fun kf kg=>CW.sr (fun kh=>?_)));refine LR.m1 ?_;refine LR.v1 (Y.cast (v2:= .bool false) (Y.peq rfl (by kernel_rfl) (by kernel_rfl) rfl rfl) rfl) ?_;refine LR.m1 ?_;refine LR.wm ?_;refine LR.w1 (Y.slen rfl u'9 rfl) ?_;refine LR.w1 (Y.gtr rfl rfl rfl) ?_;refine LR.pf ?_;refine LR.nil (kh _ _ ?_);refine CW.condp rfl (fun ki=>?_) (fun ki=>?_)
 ·
  refine CW.sr (fun kj=>?_);refine LR.m1 ?_;refine LR.v1 (Y.cast (v2:= .bool true) (Y.pne rfl (by kernel_rfl) (by kernel_rfl) rfl rfl) rfl) ?_;refine LR.an ?_;refine kj _ _ ?_;refine CW.ret (kg .ret nofun _ _ (hret .ret (.inr rfl) _ _ _ (res1 rfl rfl) ?_));exact⟨rfl,hm0⟩
 ·
  refine CW.skip (kf _ _ (CW.sr (fun hU=>?_)));refine LR.m1 ?_;refine LR.m1 ?_;refine LR.call rfl c'9 rfl (Wd.u rfl) rfl rfl (wopenP_ct mx_ hR bx (Dk.empty (wiN a 65536) 65536) p _ w0 _ kb hf mx (bf_mx.mono (by omega)) (hS) (by omega) (hB0).bs (by omega)) (fun lL lM kk=>?_);have eM:=hx.bk;obtain⟨kn,bP,ko,hV,cW,kp,lN,rfl,hf,bB,hlg,bC,dl250,hW,c1,d5,d6,jJ,c2,jK,jL,bZ⟩:=kk;have eN:=DFL.appK (hS) (bf_mx.mono hm0.size) bB;have hX:=DFL.appK (jA) (bA.mono hm0.size) bB;have eO:=DFL.appK (jB) (ar.mono hm0.size) bB;have eP:=DFL.appK (jC) (au.mono hm0.size) bB;have eQ:=DFL.appK (jD) (ap.mono hm0.size) bB;have eR:DKL eH cW:=DKL.appK (eK.symm) eM bB;have hY:NxK [] H0.size cW:=NxK.tr (jE) bB hm0.size;have eS:=DF.app (DF.z) (bf_mx.mono hm0.size) bC;have hZ:=DF.app (DF.z) (bA.mono hm0.size) bC;have eT:=DF.app (DF.z) (ar.mono hm0.size) bC;have eU:=DF.app (DF.z) (au.mono hm0.size) bC;have eV:=DF.app (DF.z) (ap.mono hm0.size) bC;have eW:DL bP eH:=DL.app2 (DL.zK) eM bC;have h0:Nx 0 H0.size bP:=Nx.tr (Nx.refl 0 _) bC hm0.size;replace mx:=mx.upL bZ (hS);replace hl:=hl.upL bZ (jA);replace hrx:=fun x ac=>(hrx x ac).upL bZ (jB);replace hry:=fun x ac y hy0=>(hry x ac y hy0).upL bZ (jC);replace hpx:=fun x hp0=>(hpx x hp0).upL bZ (jD);replace hx:=hx.upL bZ (eK.symm);replace hm0:=hm0.tq bZ (MIL.ofK0 (jE));have lO:=bZ.size;have aq:=hf.bk;have a5:=hlg.le;have h1:=DFL.above c2 (by first|exact ao|exact fun k hk=>Nat.le_trans (ao k hk) (by omega)|assumption);have h2:=DFL.above c2 (by first|exact ao|exact fun k hk=>Nat.le_trans (ao k hk) (by omega)|assumption);have hid50:=hx.ids.1;refine LR.m1 ?_;refine LR.v1 (Y.extract rfl rfl rfl) ?_;refine LR.v1 (Y.extract rfl rfl rfl) ?_;refine LR.v1 (Y.extract rfl rfl rfl) ?_;refine LR.a1 ?_;refine LR.a1 ?_;refine LR.an ?_;refine hU _ _ (CW.sr (fun h3=>?_));refine LR.m1 ?_;refine LR.m1 ?_;refine LR.call rfl c'18 rfl (Wd.u rfl) rfl rfl (ropenP_ct eH bS (Dk.empty (wiN a 65536) 65536) p _ w0 _ jF hx (by omega) (by omega) (hB0).bs (by omega) (by have:=bq_rd (hB0) p;omega)) (fun lP lQ kq=>?_);have d7:=hf.bk;have d8:=hlg.le;obtain⟨c3,kr,ks,jM,b9,b_,jN,kt,rfl,hx,bm,ku,hlm,bn,hL,hkL57,d157,d257,d357,h4,cE,hxl,bf957,eX,eY,eZ,e0,bD⟩:=kq;have e2:=DFL.appK (jG) (bf_mx.mono hm0.size) bm;have h5:=DFL.appK (jH) (bA.mono hm0.size) bm;have e3:=DFL.appK (jI) (ar.mono hm0.size) bm;have e4:=DFL.appK (eI) (au.mono hm0.size) bm;have e5:=DFL.appK (eJ) (ap.mono hm0.size) bm;have h6:DKL cW c3:=DKL.appK (eR.symm) d7 bm;have h7:DL bP c3:=DL.appK (eW) d8 bm;have h_:NxK [] H0.size c3:=NxK.tr (eL) bm hm0.size;have e6:=DF.app (DF.z) (bf_mx.mono hm0.size) bn;have ia:=DF.app (DF.z) (bA.mono hm0.size) bn;have e7:=DF.app (DF.z) (ar.mono hm0.size) bn;have e8:=DF.app (DF.z) (au.mono hm0.size) bn;have e_:=DF.app (DF.z) (ap.mono hm0.size) bn;have ib:DL b9 cW:=DL.app2 (DL.zK) d7 bn;have ic:Dj bP b9:=Dj.app (Dj.z) d8 bn;have id:Nx 0 H0.size b9:=Nx.tr (Nx.refl 0 _) bn hm0.size;have fa:=DF.app (DF.z) (bf_mx.mono hm0.size) hkL57;have ie:=DF.app (DF.z) (bA.mono hm0.size) hkL57;have fb:=DF.app (DF.z) (ar.mono hm0.size) hkL57;have fc:=DF.app (DF.z) (au.mono hm0.size) hkL57;have fd:=DF.app (DF.z) (ap.mono hm0.size) hkL57;have ig:DL b_ cW:=DL.app2 (DL.zK) d7 hkL57;have ih:Dj bP b_:=Dj.app (Dj.z) d8 hkL57;have ii:Nx 0 H0.size b_:=Nx.tr (Nx.refl 0 _) hkL57 hm0.size;replace mx:=mx.upL bD (jG);replace hl:=hl.upL bD (jH);replace hrx:=fun x ac=>(hrx x ac).upL bD (jI);replace hry:=fun x ac y hy0=>(hry x ac y hy0).upL bD (eI);replace hpx:=fun x hp0=>(hpx x hp0).upL bD (eJ);replace hf:=hf.upL bD (eR.symm);replace hlg:=hlg.upL bD (eW);replace d5:=d5.upL bD (h1);replace d6:=fun x hx_=>(d6 x hx_).upL bD (h2);replace hm0:=hm0.tq bD (MIL.ofK0 (eL));have lR:=bD.size;have ao:=hx.bk;have bz:=hlm.le;have a8:=hL.le;have aA:=bf957;have ij:=DFL.above eX (by first|exact aq|exact fun k hk=>Nat.le_trans (aq k hk) (by omega)|assumption);have ik:DF _ bP:=DF.above eX (by first|exact a5|exact hlt_hlg|omega);have fe:=Wst.opens hB0 hid50 hW h4 cE (n:=hV.length) (by rw[cE,←c1];simp[recs]);refine LR.m1 ?_;refine LR.v1 (Y.extract rfl rfl rfl) ?_;refine LR.v1 (Y.extract rfl rfl rfl) ?_;refine LR.v1 (Y.extract rfl rfl rfl) ?_;refine LR.a1 ?_;refine LR.a1 ?_;refine LR.an ?_;refine h3 _ _ (CW.s1 (fun il=>CW.sr (fun im=>?_)));refine LR.m1 ?_;refine LR.m1 ?_;refine LR.call rfl c'13 rfl (Wd.u rfl) rfl rfl (sameR_ct ko jM hV jN w0 _ d5.any hL.rd.any (fun x h=>(d6 x h).any) (fun x h=>(hxl x h).any)) (fun lS cz kv=>?_);obtain⟨rfl,a9⟩:=kv;replace mx:=mx.nw a9;replace hl:=hl.nw a9;replace hrx:=fun x ac=>(hrx x ac).nw a9;replace hry:=fun x ac y hy0=>(hry x ac y hy0).nw a9;replace hpx:=fun x hp0=>(hpx x hp0).nw a9;replace hf:=hf.nw a9;replace hx:=hx.nw a9;replace hlg:=hlg.nw a9;replace hlm:=hlm.nw a9;replace hL:=hL.nw a9;replace hxl:=fun x hx_=>(hxl x hx_).nw a9;replace hm0:=hm0.tr a9;have lT:=a9.size;rw[c1,cE,decide_eq_true rfl];refine LR.v1 (Y.not rfl rfl) ?_;refine LR.m1 ?_;refine LR.wm ?_;refine LR.wm ?_;refine LR.w1 ((Y.neq rfl rfl rfl).isF ((fun h=>h rfl))) ?_;refine LR.pf ?_;refine LR.m1 ?_;refine LR.wm ?_;refine LR.w1 (Y.peq rfl (by kernel_rfl) (by kernel_rfl) rfl rfl) ?_;refine LR.wm ?_;refine LR.w1 (Y.peq rfl (by kernel_rfl) (by kernel_rfl) rfl rfl) ?_;refine LR.w1 ((Y.bneq rfl Tryz.underlying4 rfl rfl).isF ((fun h=>h (by rw[lgP_nil bx p hlg,rlP_nil bS p hlm];exact decide_eq_decide.2 fe.iff)))) ?_;refine LR.pf ?_;refine LR.nil (im _ _ ?_);refine CW.cond_f rfl ?_;refine CW.skip (il _ _ (CW.s1 (fun ff=>CW.sr (fun io=>?_))));refine LR.an ?_;refine io _ _ (CW.block (fun _ _ fg _=>?_))
  refine CW.loop (fun(s_:(Nat)×(List Nat)×(Gh)×(List Nat)×(Rg)×(Dk)×(Option Addr)×(Nat)×(Nat)×(Bool)×(Option Addr)×(Nat)×(SV)×(Nat)×(List (SV×Rec))×(Nat→Prop))=>match s_ with|(i,Ka,ga,Kb,gb,Di,o,kl,n,br,q,km,lv,kL,rr,G)=>[(1,Str p),(2,s2.v),(7,ptr bx),(9,ptr bS),(11,.pointer o),(14,.pointer q),(17,.int .i64 (i:Int))])
   (fun(i,Ka,ga,Kb,gb,Di,o,kl,n,br,q,km,lv,kL,rr,G) (H:Heap)=>(PDk Ka ga H bx Di)∧(RDk Kb gb H bS Di)∧(LgP kl H (.pointer o) bx p n br)∧(RlP km H (.pointer q) bS p lv br)∧(Ow kL 34 H fP 1 lv.v rr)∧(∀x∈rr,Rd G H fB 1 x.1.v x.2)∧(BF G H.size)∧(DFL G Ka)∧(DFL G Kb)∧(DF G kl)∧(DF G km)∧(DF G kL)∧(Wst Di p kl km n (recs rr) br (16+i*32) (65536+i*3012))∧(gb.dm.length≤30+i*30)∧(i≤l.length∧i≤40)∧(NxK cW cz.size Ka)∧(NxK c3 cz.size Kb)∧(Nx bP cz.size kl)∧(Nx b9 cz.size km)∧(Nx b_ cz.size kL)∧(DKL Ka Kb)∧(DL kl Ka)∧(DL kl Kb)∧(DL km Ka)∧(DL km Kb)∧(Dj kl km)∧(DL kL Ka)∧(DL kL Kb)∧(Dj kl kL)∧(Dj km kL)∧Mo (Ms (cW++(c3++[bP,b9,b_]))) cz H)
   (fun(i,Ka,ga,Kb,gb,Di,o,kl,n,br,q,km,lv,kL,rr,G)=>l.length-i) (0,cW,kp,c3,kr,(openD (Dk.empty (wiN a 65536) 65536) p).2.2,kn,bP,hV.length,false,ks,b9,jM,b_,jN,kt) ⟨rfl,rfl,rfl,rfl,rfl,rfl,rfl,trivial⟩ ?_ ?_
  ·
   exact⟨hf,hx,hlg,hlm,hL,hxl,aA.mono (by omega),(ij),(eY),(ik),(eZ),(e0),fe.mono (by omega) (by omega),by omega,⟨by omega,by omega⟩,NxK.refl _ _,NxK.refl _ _,Nx.refl _ _,Nx.refl _ _,Nx.refl _ _,h6,dl250,h7,ib,d157,ic,ig,d257,ih,d357,Mo.refl _ _⟩
  rintro⟨i,Ka,ga,Kb,gb,Di,o,kl,n,br,q,km,lv,kL,rr,G⟩ cq kw lU fh fi;obtain⟨hf,hx,hlg,hlm,hL,hxl,aA,cU,c4,cX,d9,d_,hw,hgd,hi,ay,aw,aE,aF,a3,aK,a_,ba,bb,bc,a4,bE,bF,be,bg,av⟩:=kw;have cF:=DFL.appK (eN) (bf_mx.mono hm0.size) ay;have ca:=DFL.appK (eO) (ar.mono hm0.size) ay;have cb:=DFL.appK (eP) (au.mono hm0.size) ay;have cc:=DFL.appK (eQ) (ap.mono hm0.size) ay;have fj:=DFL.appK (e2) (bf_mx.mono hm0.size) aw;have b0:=DFL.appK (e3) (ar.mono hm0.size) aw;have b1:=DFL.appK (e4) (au.mono hm0.size) aw;have bU:=DFL.appK (e5) (ap.mono hm0.size) aw;have ea:=DF.app (eS) (bf_mx.mono hm0.size) aE;have eb:=DF.app (eT) (ar.mono hm0.size) aE;have ec:=DF.app (eU) (au.mono hm0.size) aE;have ed:=DF.app (eV) (ap.mono hm0.size) aE;have ip:=DF.app (e6) (bf_mx.mono hm0.size) aF;have ee:=DF.app (e7) (ar.mono hm0.size) aF;have ef:=DF.app (e8) (au.mono hm0.size) aF;have eg:=DF.app (e_) (ap.mono hm0.size) aF;have iq:=DF.app (fa) (bf_mx.mono hm0.size) a3;have eh:=DF.app (fb) (ar.mono hm0.size) a3;have ei:=DF.app (fc) (au.mono hm0.size) a3;have ej:=DF.app (fd) (ap.mono hm0.size) a3;replace mx:=mx.upL av (DFL.app eN (DFL.app e2 (DFL.cons eS (DFL.cons e6 (DFL.o fa)))));replace hl:=hl.upL av (DFL.app hX (DFL.app h5 (DFL.cons hZ (DFL.cons ia (DFL.o ie)))));replace hrx:=fun x ac=>(hrx x ac).upL av (DFL.app eO (DFL.app e3 (DFL.cons eT (DFL.cons e7 (DFL.o fb)))));replace hry:=fun x ac y hy0=>(hry x ac y hy0).upL av (DFL.app eP (DFL.app e4 (DFL.cons eU (DFL.cons e8 (DFL.o fc)))));replace hpx:=fun x hp0=>(hpx x hp0).upL av (DFL.app eQ (DFL.app e5 (DFL.cons eV (DFL.cons e_ (DFL.o fd)))));replace hm0:=hm0.tq av (MIL.app (MIL.ofK0 (hY)) (MIL.app (MIL.ofK0 (h_)) (MIL.cons (MI.q h0) (MIL.cons (MI.q id) (MIL.o (MI.q ii))))));have lV:=av.size;have aq:=hf.bk;have ao:=hx.bk;have a5:=hlg.le;have bz:=hlm.le;have a8:=hL.le;have aB:=aK;have bo:=a_;have aG:=ba;have aY:=bb;have bp:=bc;have aL:=a4;have aZ:=bE;have bq:=bF;have aM:=be;have bG:=bg;have c5:=ay;have c6:=aw;have c7:=aE;have c8:=aF;have c9:=a3;refine CW.s2 (fun ir fk=>CW.sr (fun fl=>?_));refine LR.m1 ?_;refine LR.m1 ?_;refine LR.v1 (Y.len hl rfl u'44 rfl) ?_;refine LR.v1 (Y.lss rfl rfl rfl) ?_;refine LR.m1 ?_;refine LR.splitp (d:=81) rfl (fun kx=>?_) (fun kx=>?_)
  ·
   refine LR.wm ?_;refine LR.w1 (Y.lss rfl rfl rfl) ?_;refine LR.pt ?_;refine LR.nil (fl _ _ ?_);refine CW.condp rfl (fun ky=>?_) (fun ky=>?_)
   ·
    have hil:i<l.length:=by omega
    have hpl:=hpk _ (List.getElem_mem hil);have hcii:=hci _ (List.getElem_mem hil);refine CW.skip (ir _ _ (CW.s1 (fun fm=>CW.block (fun _ fn _ _=>CW.sr (fun it=>?_)))));refine LR.m1 ?_;refine LR.m1 ?_;refine LR.e1 (g:=fun ad=> .pointer (some ad)) (Y.iF hl (i) rfl u'44 s'52 rfl rfl) fun kz iu=>?_;refine LR.v1 (Y.cast (v2:= .agg (fWl l[i]).toArray) (Y.loadN iu.pt rfl a'52 s'52 (fWl_len _) rfl) (rfl)) ?_;refine LR.z1 (Z.allocv rfl z'52) fun bw kA kB=>?_;obtain⟨rfl,bw,bh,kC,iw⟩:=kB;have jO:kA.size=cq.size+1:=by rw[iw];simp
    have fo:=(DF.new (bf_mx.mono hm0.size):DF _ (cq.size+1));have fp:=(DF.new (ar.mono hm0.size):DF _ (cq.size+1));have fq:=(DF.new (au.mono hm0.size):DF _ (cq.size+1));have fr:=(DF.new (ap.mono hm0.size):DF _ (cq.size+1));have fs:Dj kL (cq.size+1):=Dj.new hL.le;have bt:DL (cq.size+1) Ka:=DL.newK hf.bk;have bH:DL (cq.size+1) Kb:=DL.newK hx.bk;have ft:Dj kl (cq.size+1):=Dj.new hlg.le;have fu:Dj km (cq.size+1):=Dj.new hlm.le;have fv:=(DF.new (aA.mono (by omega)):DF _ (cq.size+1));have fw:Nx 0 H0.size (cq.size+1):=Nx.new hm0.size;have fx:Nx 0 cz.size (cq.size+1):=Nx.new av.size;replace mx:=mx.nw bh;replace hrx:=fun x ac=>(hrx x ac).nw bh;replace hry:=fun x ac y hy0=>(hry x ac y hy0).nw bh;replace hpx:=fun x hp0=>(hpx x hp0).nw bh;replace hL:=hL.nw bh;replace hf:=hf.nw bh;replace hx:=hx.nw bh;replace hlg:=hlg.nw bh;replace hlm:=hlm.nw bh;replace hxl:=fun x hx_=>(hxl x hx_).nw bh;replace hm0:=hm0.tr bh;replace av:=av.trN bh;have lW:=bh.size;refine LR.s1 (S.var bw (_) (fWl l[i]) rfl rfl rfl rfl (fWl_one _) s'52 (fWl_len _) (by decide) ((wl_spl (fWl_len _).symm))) fun aN fy=>?_;obtain⟨bw,ax⟩:=fy;replace ax:=ax.md1;replace mx:=mx.upL ax (DFL.o fo);replace hrx:=fun x ac=>(hrx x ac).upL ax (DFL.o fp);replace hry:=fun x ac y hy0=>(hry x ac y hy0).upL ax (DFL.o fq);replace hpx:=fun x hp0=>(hpx x hp0).upL ax (DFL.o fr);replace hL:=hL.upL ax (DL.o fs);replace hf:=hf.upL ax (DKL.cons bt DKL.nil);replace hx:=hx.upL ax (DKL.cons bH DKL.nil);replace hlg:=hlg.upL ax (DL.o ft);replace hlm:=hlm.upL ax (DL.o fu);replace hxl:=fun x hx_=>(hxl x hx_).upL ax (DFL.o fv);replace hm0:=hm0.tq ax (MIL.o (MI.q fw));replace av:=av.trL ax (MIL.o (MI.q fx));have kD:=ax.size;refine LR.nil (it _ _ (CW.sr (fun ix=>?_)));refine LR.v1 (Y.FA bw.pt rfl u'52 rfl s'22) ?_;refine LR.v1 (Y.load1 (bw.pt.drop 2) rfl a'22 rfl) ?_;refine LR.call rfl c'7 rfl (Wd.u rfl) rfl rfl (few_ct l[i].lv l[i].L w0 _ (hrx _ (List.getElem_mem hil)).any (fun y h=>(hry _ (List.getElem_mem hil) y h).any)) (fun lX aC kE=>?_);obtain⟨iy,m93,rfl,hrm93,hm,hxm,a6⟩:=kE;replace mx:=mx.nw a6;replace hrx:=fun x ac=>(hrx x ac).nw a6;replace hry:=fun x ac y hy0=>(hry x ac y hy0).nw a6;replace hpx:=fun x hp0=>(hpx x hp0).nw a6;replace hL:=hL.nw a6;replace hf:=hf.nw a6;replace hx:=hx.nw a6;replace hlg:=hlg.nw a6;replace hlm:=hlm.nw a6;replace hxl:=fun x hx_=>(hxl x hx_).nw a6;replace bw:=bw.nw a6;replace hm0:=hm0.tr a6;replace av:=av.trN a6;have kF:=a6.size;replace hm:=hm.bnd;have c_:=hm.bf;have cr:DF (fun b=>aN.size≤b∧b<aC.size) kL:=DF.above (fun b h=>h.1) (by first|exact a8|exact hlt_hL|omega);have b2:DFL (fun b=>aN.size≤b∧b<aC.size) Ka:=DFL.above (fun b h=>h.1) (by first|exact aq|exact fun k hk=>Nat.le_trans (aq k hk) (by omega)|assumption);have cs:DFL (fun b=>aN.size≤b∧b<aC.size) Kb:=DFL.above (fun b h=>h.1) (by first|exact ao|exact fun k hk=>Nat.le_trans (ao k hk) (by omega)|assumption);have b3:DF (fun b=>aN.size≤b∧b<aC.size) kl:=DF.above (fun b h=>h.1) (by first|exact a5|exact hlt_hlg|omega);have ct:DF (fun b=>aN.size≤b∧b<aC.size) km:=DF.above (fun b h=>h.1) (by first|exact bz|exact hlt_hlm|omega);replace hxm:=fun x hx_=>(hxm x hx_).bnd;have cG:BF (fun b=>aN.size≤b∧b<aC.size) aC.size:=fun b h=>h.2;have fz:DF (fun b=>aN.size≤b∧b<aC.size) kL:=DF.above (fun b h=>h.1) (by first|exact a8|exact hlt_hL|omega);have cH:DFL (fun b=>aN.size≤b∧b<aC.size) Ka:=DFL.above (fun b h=>h.1) (by first|exact aq|exact fun k hk=>Nat.le_trans (aq k hk) (by omega)|assumption);have fA:DFL (fun b=>aN.size≤b∧b<aC.size) Kb:=DFL.above (fun b h=>h.1) (by first|exact ao|exact fun k hk=>Nat.le_trans (ao k hk) (by omega)|assumption);have cI:DF (fun b=>aN.size≤b∧b<aC.size) kl:=DF.above (fun b h=>h.1) (by first|exact a5|exact hlt_hlg|omega);have fC:DF (fun b=>aN.size≤b∧b<aC.size) km:=DF.above (fun b h=>h.1) (by first|exact bz|exact hlt_hlm|omega);have hfe:=(few_enc (recs l[i].L)).2;have hfm:∀x∈m93,x.2.length<3000:=fun x h=>few_mem (l:=recs l[i].L) _ (by rw[←hrm93];exact List.mem_map_of_mem h);have hmn:m93.length=(recs m93).length:=by simp[recs]
    rw[←hrm93]at hfe;refine LR.an ?_;refine ix _ _ ?_
    refine CW.cut (fun(s_:(List Nat)×(Gh)×(List Nat)×(Rg)×(Dk)×(Option Addr)×(Nat)×(Nat)×(Bool)×(Option Addr)×(Nat)×(SV)×(Nat)×(List (SV×Rec))×(Nat→Prop))=>match s_ with|(Kc,gc,Kd,gd,Dc,o2,cd,n2,br2,q2,km2,eE,cA,rr2,G2)=>[(1,Str p),(2,s2.v),(7,ptr bx),(9,ptr bS),(11,.pointer o2),(14,.pointer q2),(17,.int .i64 (i:Int))])
     (fun(Kc,gc,Kd,gd,Dc,o2,cd,n2,br2,q2,km2,eE,cA,rr2,G2) (H:Heap)=>(PDk Kc gc H bx Dc)∧(RDk Kd gd H bS Dc)∧(LgP cd H (.pointer o2) bx p n2 br2)∧(RlP km2 H (.pointer q2) bS p eE br2)∧(Ow cA 34 H fP 1 eE.v rr2)∧(∀x∈rr2,Rd G2 H fB 1 x.1.v x.2)∧(BF G2 H.size)∧(DFL G2 Kc)∧(DFL G2 Kd)∧(DF G2 cd)∧(DF G2 km2)∧(DF G2 cA)∧(Wst Dc p cd km2 n2 (recs rr2) br2 (16+i*32+32) (65536+i*3012+3012))∧(gd.dm.length≤30+i*30+20)∧(NxK Ka aC.size Kc)∧(NxK Kb aC.size Kd)∧(Nx kl aC.size cd)∧(Nx km aC.size km2)∧(Nx kL aC.size cA)∧(DKL Kc Kd)∧(DL cd Kc)∧(DL cd Kd)∧(DL km2 Kc)∧(DL km2 Kd)∧(Dj cd km2)∧(DL cA Kc)∧(DL cA Kd)∧(Dj cd cA)∧(Dj km2 cA)∧Mo (Ms (Ka++(Kb++[kl,km,kL]))) aC H) (fun _ b4 _=>?_) ?_
    ·
     have ab:Mo (Ms (Ka++(Kb++[kl,km,kL]))) aC aC:=Mo.refl _ _;have ag:=NxK.refl Ka aC.size;have ah:=NxK.refl Kb aC.size;have ai:=Nx.refl kl aC.size;have aj:=Nx.refl km aC.size;have am:=Nx.refl kL aC.size;refine CW.sr (fun iz=>?_);refine LR.v1 (Y.FA bw.pt rfl u'52 rfl s'3) ?_;refine LR.v1 (Y.load1 bw.pt rfl a'3 rfl) (LR.nil (iz _ _ ?_));refine CW.block (fun _ b5 _ _=>?_)
     refine CW.cut (fun(e96:(Bool))=>[(1,Str p),(2,s2.v),(7,ptr bx),(9,ptr bS),(11,.pointer o),(14,.pointer q),(17,.int .i64 (i:Int)),(18,.pointer (some ⟨cq.size,0,none⟩)),(19,iy.v),(95,.int .i64 l[i].kd),(96,.bool e96)])
      (fun(e96:(Bool)) (H:Heap)=>(e96=e96)∧Nw aC H) (fun _ fD _=>?_) ?_
     ·
      have da:Nw aC aC:=Mo.refl _ _;refine CW.sr (fun iA=>?_);refine LR.v1 (Y.eql rfl rfl rfl) ?_;refine LR.an ?_;refine iA _ _ ?_;refine CW.condp rfl (fun iB=>?_) (fun iB=>?_)
      ·
       refine CW.skip ?_;refine QN.sub (fD (decide (l[i].kd=3)) _ ?_) ⟨rfl,rfl,rfl,rfl,rfl,rfl,(iv (by omega)),rfl,rfl,(iv (by omega)),rfl,trivial⟩;exact⟨rfl,da⟩
      ·
       refine CW.region ?_;refine LR.v1 (Y.eql rfl rfl rfl) ?_;refine LR.an ?_;refine QN.sub (fD (decide (l[i].kd=5)) _ ?_) ⟨rfl,rfl,rfl,rfl,rfl,rfl,(iv (by omega)),rfl,rfl,(iv (by omega)),rfl,trivial⟩;exact⟨rfl,da⟩
     ·
      intro e96 aa cJ;obtain⟨he96,af⟩:=cJ;replace mx:=mx.nw af;replace hrx:=fun x ac=>(hrx x ac).nw af;replace hry:=fun x ac y hy0=>(hry x ac y hy0).nw af;replace hpx:=fun x hp0=>(hpx x hp0).nw af;replace hL:=hL.nw af;replace hf:=hf.nw af;replace hx:=hx.nw af;replace hlg:=hlg.nw af;replace hlm:=hlm.nw af;replace hxl:=fun x hx_=>(hxl x hx_).nw af;replace bw:=bw.nw af;replace hm:=hm.nw af;replace hxm:=fun x hx_=>(hxm x hx_).nw af;replace hm0:=hm0.tr af;replace ab:=ab.trN af;have kG:=af.size;refine CW.cond rfl (fun iB=>?_) (fun iB=>?_)
      ·
       refine CW.cut (fun(s_:(List Nat)×(Gh)×(List Nat)×(Rg)×(Dk))=>match s_ with|(Ke,ge,Kg,gg,De)=>[(1,Str p),(2,s2.v),(7,ptr bx),(9,ptr bS),(17,.int .i64 (i:Int))])
        (fun(Ke,ge,Kg,gg,De) (H:Heap)=>(PDk Ke ge H bx De)∧(RDk Kg gg H bS De)∧(Bq (16+i*32) De)∧(gg.dm.length≤30+i*30)∧(NxK Ka aa.size Ke)∧(NxK Kb aa.size Kg)∧(DKL Ke Kg)∧Mo (Ms (Ka++Kb)) aa H) (fun _ fE _=>?_) ?_
       ·
        have aD:Mo (Ms (Ka++Kb)) aa aa:=Mo.refl _ _;have aO:=NxK.refl Ka aa.size;have aP:=NxK.refl Kb aa.size;refine CW.s1 (fun fF=>?_);refine CW.region_any (fun Hq=>Mo (Ms (Ka++Kb)) aa Hq) [] rfl ?_;have al:Mo (Ms (Ka++Kb)) aa aa:=Mo.refl _ _;have fG:=NxK.refl Ka aa.size;have fH:=NxK.refl Kb aa.size;refine LH.t1 0 rfl (fun Hq hq=>Y.fieldAddr (bw.upL hq (DL.app bt (bH))).pt rfl u'52 rfl rfl s'3 (by decide) rfl) al ?_;refine LH.t1 1 rfl (fun Hq hq=>Y.load1 (bw.upL hq (DL.app bt (bH))).pt rfl a'3 rfl) al ?_;refine LH.t1 2 rfl (fun Hq hq=>Y.eql rfl rfl rfl) al ?_;refine LH.m1 3 rfl al ?_;refine LH.splitp (d:=102) rfl (fun iC=>?_) (fun iC=>?_)
        ·
         refine LH.u1 4 rfl (fun Hq hq=>Y.move rfl rfl) (Wd.g rfl rfl rfl) al ?_;refine LH.u1 6 rfl (fun Hq hq=>Y.fieldAddr (bw.upL hq (DL.app bt (bH))).pt rfl u'52 rfl rfl s'39 (by decide) rfl) (Wd.g rfl rfl rfl) al ?_;refine LH.u1 7 rfl (fun Hq hq=>Y.load1 ((bw.upL hq (DL.app bt (bH))).pt.drop 3) rfl a'39 rfl) (Wd.g rfl rfl rfl) al ?_;refine LH.u1 10 rfl (fun Hq hq=>Y.move rfl rfl) (Wd.g rfl rfl rfl) al ?_;refine LH.u1 11 rfl (fun Hq hq=>Y.fieldAddr (bw.upL hq (DL.app bt (bH))).pt rfl u'52 rfl rfl s'39 (by decide) rfl) (Wd.g rfl rfl rfl) al ?_;refine LH.u1 12 rfl (fun Hq hq=>Y.load1 ((bw.upL hq (DL.app bt (bH))).pt.drop 3) rfl a'39 rfl) (Wd.g rfl rfl rfl) al ?_;refine LH.o1 5 ?_;refine LO.z rfl (Z.litw _ (([]:List Int)) rfl inf39 rfl rfl rfl (by decide) (by decide) fI_len fI_one (rfl)) (Wd.g rfl rfl rfl) rfl rfl (fun kH bV iD=>?_);obtain⟨op,bu,jP,fJ⟩:=iD;have iE:bV.size=aa.size+1:=by rw[fJ];simp
         have fK:=(DF.new (ar.mono hm0.size):DF _ (aa.size+1));have fL:=(DF.new (au.mono hm0.size):DF _ (aa.size+1));have fM:=(DF.new (ap.mono hm0.size):DF _ (aa.size+1));have db:DL (aa.size+1) Ka:=DL.newK hf.bk;have fN:DL (aa.size+1) Kb:=DL.newK hx.bk;have fO:Nx 0 aa.size (aa.size+1):=Nx.new aD.size;have fQ:Nx 0 aa.size (aa.size+1):=Nx.new al.size;replace hrx:=fun x ac=>(hrx x ac).nw bu;replace hry:=fun x ac y hy0=>(hry x ac y hy0).nw bu;replace hpx:=fun x hp0=>(hpx x hp0).nw bu;replace hf:=hf.nw bu;replace hx:=hx.nw bu;replace aD:=aD.trN bu;replace al:=al.trN bu;have kI:=bu.size;refine⟨.inr al,LH.narrow (SH2:=fun Hq=>Mo (Ms (Ka++(Kb++[(aa.size+1)]))) bV Hq) (fun Hq hq=>al.trL hq (MIL.app (MIL.ofK (fG) (by intro k hk;simp[hk])) (MIL.app (MIL.ofK (fH) (by intro k hk;simp[hk])) (MIL.o (MI.q fQ))))) ?_⟩;have al:Mo (Ms (Ka++(Kb++[(aa.size+1)]))) bV bV:=Mo.refl _ _;have fR:=NxK.refl Ka bV.size;have fS:=NxK.refl Kb bV.size;have dc:=Nx.refl (aa.size+1) bV.size;refine LH.o1 8 ?_;refine LO.z rfl (Z.apnd op (hpx _ (List.getElem_mem hil)) rfl inf39 rfl rfl (by simp;omega) (by simp;omega)) (Wd.g rfl rfl rfl) rfl rfl (fun fT ce iG=>?_);obtain⟨bI,op,cu,a0⟩:=iG;replace cu:Nx (aa.size+1) bV.size bI:=cu;replace a0:=a0.md;have fU:DL bI Ka:=DL.app2 (db) hf.bk cu;have fV:Nx (aa.size+1) bV.size bI:=Nx.tr (dc) cu al.size;replace hrx:=fun x ac=>(hrx x ac).upL a0 (DFL.o fK);replace hry:=fun x ac y hy0=>(hry x ac y hy0).upL a0 (DFL.o fL);replace hpx:=fun x hp0=>(hpx x hp0).upL a0 (DFL.o fM);replace hf:=hf.upL a0 (DKL.cons db DKL.nil);replace hx:=hx.upL a0 (DKL.cons fN DKL.nil);replace aD:=aD.trL a0 (MIL.o (MI.q fO));replace al:=al.trL a0 (MIL.o (MI.r dc));have kJ:=a0.size;have iH:=op.le;obtain⟨iI,rfl⟩:∃s:SV,fT=s.v:=⟨toSV fT,op.sv.symm⟩;rw[List.nil_append]at op;refine⟨.inr al,LH.narrow (SH2:=fun Hq=>Mo (Ms (Ka++(Kb++[bI]))) ce Hq) (fun Hq hq=>al.trL hq (MIL.app (MIL.ofK (fR) (by intro k hk;simp[hk])) (MIL.app (MIL.ofK (fS) (by intro k hk;simp[hk])) (MIL.o (MI.r fV))))) ?_⟩;have al:Mo (Ms (Ka++(Kb++[bI]))) ce ce:=Mo.refl _ _;have dd:=NxK.refl Ka ce.size;have fW:=NxK.refl Kb ce.size;have fX:=Nx.refl bI ce.size;refine LH.o1 9 ?_;refine LO.call rfl rfl c'12 rfl (Wd.g rfl rfl rfl) rfl rfl (crash_ct Ka ga bx Di _ iI l[i].pk w0 _ hf op.rd (BF.of op.le) (DFL.of (fU)) (hw.q.bs.bd (by omega)) (hw.q.bs.wy (by omega)) hcii.2.2) (fun kK cf iJ=>?_);have fY:=hx.bk;obtain⟨bQ,iK,rfl,hf,cg,bJ⟩:=iJ;have de:DKL Kb bQ:=DKL.appK (aB.symm) fY cg;have fZ:NxK Ka aa.size bQ:=NxK.tr (aO) cg aD.size;have f0:NxK Ka ce.size bQ:=NxK.tr (dd) cg al.size;replace hrx:=fun x ac=>(hrx x ac).upL bJ (ca);replace hry:=fun x ac y hy0=>(hry x ac y hy0).upL bJ (cb);replace hpx:=fun x hp0=>(hpx x hp0).upL bJ (cc);replace hx:=hx.upL bJ (aB.symm);replace aD:=aD.trL bJ (MIL.ofK (aO) (by intro k hk;simp[hk]));replace al:=al.trL bJ (MIL.ofK (dd) (by intro k hk;simp[hk]));have kM:=bJ.size;have aq:=hf.bk;refine⟨.inr al,LH.narrow (SH2:=fun Hq=>Mo (Ms (bQ++(Kb++[bI]))) cf Hq) (fun Hq hq=>al.trL hq (MIL.app (MIL.ofK (f0) (by intro k hk;simp[hk])) (MIL.app (MIL.ofK (fW) (by intro k hk;simp[hk])) (MIL.o (MI.r fX))))) ?_⟩;have al:Mo (Ms (bQ++(Kb++[bI]))) cf cf:=Mo.refl _ _;have f1:=NxK.refl bQ cf.size;have df:=NxK.refl Kb cf.size;have f2:=Nx.refl bI cf.size;refine LH.o1 13 ?_;refine LO.call rfl rfl c'19 rfl (Wd.g rfl rfl rfl) rfl rfl (rcrash_ct Kb gb bS Di _ l[i].pv l[i].pk w0 _ hx (hpx _ (List.getElem_mem hil)) (ap.mono (by omega)) (bU) (by omega) (hw.q.bs.bd (by omega)) hw.q.wf (hw.q.bs.wy (by omega)) hcii.2.2) (fun kN ek iL=>?_);have f3:=hf.bk;obtain⟨cB,iM,rfl,hx,ch,f4,bK⟩:=iL;have f5:DKL bQ cB:=DKL.appK (de.symm) f3 ch;have f6:NxK Kb aa.size cB:=NxK.tr (aP) ch aD.size;have f7:NxK Kb cf.size cB:=NxK.tr (df) ch al.size;replace hrx:=fun x ac=>(hrx x ac).upL bK (b0);replace hry:=fun x ac y hy0=>(hry x ac y hy0).upL bK (b1);replace hpx:=fun x hp0=>(hpx x hp0).upL bK (bU);replace hf:=hf.upL bK (de.symm);replace aD:=aD.trL bK (MIL.ofK (aP) (by intro k hk;simp[hk]));replace al:=al.trL bK (MIL.ofK (df) (by intro k hk;simp[hk]));have kO:=bK.size;have ao:=hx.bk;refine⟨.inr al,LH.narrow (SH2:=fun Hq=>Mo (Ms (bQ++(cB++[bI]))) ek Hq) (fun Hq hq=>al.trL hq (MIL.app (MIL.ofK (f1) (by intro k hk;simp[hk])) (MIL.app (MIL.ofK (f7) (by intro k hk;simp[hk])) (MIL.o (MI.r f2))))) ?_⟩;have al:Mo (Ms (bQ++(cB++[bI]))) ek ek:=Mo.refl _ _;refine LH.u1 14 rfl (fun Hq hq=>(Y.neq rfl rfl rfl).isF ((fun h=>h rfl))) (Wd.g rfl rfl rfl) al ?_;refine LH.t1 15 rfl (fun Hq hq=>Y.pick_t rfl rfl rfl) al ?_;refine LH.done (by kernel_rfl) ?_;refine fF _ _ ?_;refine CW.cond_f rfl ?_;refine CW.skip ?_;refine QN.sub (fE (bQ,iK,cB,iM,Di.crash l[i].pk) _ ?_) ⟨rfl,rfl,rfl,rfl,(iv (by omega)),trivial⟩;exact⟨hf,hx,hw.q.crash _,by rw[f4];omega,fZ,f6,f5,aD⟩
        ·
         refine LH.g1 4 rfl rfl rfl rfl al ?_;refine LH.g1 5 rfl rfl rfl rfl al ?_;refine LH.g1 6 rfl rfl rfl rfl al ?_;refine LH.g1 7 rfl rfl rfl rfl al ?_;refine LH.g1 8 rfl rfl rfl rfl al ?_;refine LH.g1 9 rfl rfl rfl rfl al ?_;refine LH.g1 10 rfl rfl rfl rfl al ?_;refine LH.g1 11 rfl rfl rfl rfl al ?_;refine LH.g1 12 rfl rfl rfl rfl al ?_;refine LH.g1 13 rfl rfl rfl rfl al ?_;refine LH.g1 14 rfl rfl rfl rfl al ?_;refine LH.t1 15 rfl (fun Hq hq=>Y.pick_f rfl rfl rfl) al ?_;refine LH.done (by kernel_rfl) ?_;refine fF _ _ ?_;refine CW.cond_f rfl ?_;refine CW.skip ?_;refine QN.sub (fE (Ka,ga,Kb,gb,Di) _ ?_) ⟨rfl,rfl,rfl,rfl,(iv (by omega)),trivial⟩;exact⟨hf,hx,hw.q,hgd,aO,aP,aB,aD⟩
       ·
        rintro⟨Ke,ge,Kg,gg,De⟩ f8 cC;obtain⟨hf,hx,hBe,hge,ay,aw,aK,az⟩:=cC;have f9:=DFL.appK (cF) (bf_mx.mono hm0.size) ay;have f_:=DFL.appK (ca) (ar.mono hm0.size) ay;have gf:=DFL.appK (cb) (au.mono hm0.size) ay;have gh:=DFL.appK (cc) (ap.mono hm0.size) ay;have dg:NxK Ka aC.size Ke:=NxK.tr (ag) ay ab.size;have gi:=DFL.appK (b0) (ar.mono hm0.size) aw;have gj:=DFL.appK (b1) (au.mono hm0.size) aw;have gk:=DFL.appK (bU) (ap.mono hm0.size) aw;have dh:NxK Kb aC.size Kg:=NxK.tr (ah) aw ab.size;replace mx:=mx.upL az (DFL.app cF (fj));replace hrx:=fun x ac=>(hrx x ac).upL az (DFL.app ca (b0));replace hry:=fun x ac y hy0=>(hry x ac y hy0).upL az (DFL.app cb (b1));replace hpx:=fun x hp0=>(hpx x hp0).upL az (DFL.app cc (bU));replace ab:=ab.trL az (MIL.app (MIL.ofK (ag) (by intro k hk;simp[hk])) (MIL.ofK (ah) (by intro k hk;simp[hk])));have kP:=az.size;have aq:=hf.bk;have ao:=hx.bk;have di:=aK;refine CW.sr (fun iN=>?_);refine LR.m1 ?_;refine LR.m1 ?_;refine LR.call rfl c'9 rfl (Wd.u rfl) rfl rfl (wopenP_ct mx_ Ke bx De p _ w0 _ ge hf mx (bf_mx.mono (by omega)) (f9) (by omega) (hBe).bs (by omega)) (fun kQ kR iO=>?_);have dj:=hx.bk;obtain⟨iP,bL,iQ,el,cD,iR,kS,rfl,hf,cK,hlg2,cL,dl2118,gl,cM,cN,cO,iS,cP,iT,iU,bT⟩:=iO;have dk:DKL Kg cD:=DKL.appK (di.symm) dj cK;have gm:NxK Ka aC.size cD:=NxK.tr (dg) cK ab.size;have dl:DL bL Kg:=DL.app2 (DL.zK) dj cL;have gn:Nx 0 aC.size bL:=Nx.tr (Nx.refl 0 _) cL ab.size;replace hrx:=fun x ac=>(hrx x ac).upL bT (f_);replace hry:=fun x ac y hy0=>(hry x ac y hy0).upL bT (gf);replace hpx:=fun x hp0=>(hpx x hp0).upL bT (gh);replace hx:=hx.upL bT (di.symm);replace ab:=ab.trL bT (MIL.ofK (dg) (by intro k hk;simp[hk]));have kT:=bT.size;have aq:=hf.bk;have cQ:=hlg2.le;have gp:=DFL.above cP (by first|exact ao|exact fun k hk=>Nat.le_trans (ao k hk) (by omega)|assumption);have gq:=DFL.above cP (by first|exact ao|exact fun k hk=>Nat.le_trans (ao k hk) (by omega)|assumption);have hid118:=hx.ids.1;refine LR.m1 ?_;refine LR.v1 (Y.extract rfl rfl rfl) ?_;refine LR.v1 (Y.extract rfl rfl rfl) ?_;refine LR.v1 (Y.extract rfl rfl rfl) ?_;refine LR.a1 ?_;refine LR.a1 ?_;refine LR.an ?_;refine iN _ _ (CW.sr (fun iV=>?_));refine LR.m1 ?_;refine LR.m1 ?_;refine LR.call rfl c'18 rfl (Wd.u rfl) rfl rfl (ropenP_ct Kg bS De p _ w0 _ gg hx (by omega) (by omega) (hBe).bs (by omega) (by have:=bq_rd (hBe) p;omega)) (fun kU kV iW=>?_);have cR:=hf.bk;have cS:=hlg2.le;obtain⟨cY,iX,iY,gr,cv,cw,gs,iZ,rfl,hx,ci,jQ,cT,cj,hL2,hkL125,d1125,d2125,d3125,gt,ck,hxl2,bf9125,dn,em,en,eo,a7⟩:=iW;have gu:DKL cD cY:=DKL.appK (dk.symm) cR ci;have gv:DL bL cY:=DL.appK (dl) cS ci;have gw:NxK Kb aC.size cY:=NxK.tr (dh) ci ab.size;have gx:DL cv cD:=DL.app2 (DL.zK) cR cj;have gy:Dj bL cv:=Dj.app (Dj.z) cS cj;have gz:Nx 0 aC.size cv:=Nx.tr (Nx.refl 0 _) cj ab.size;have gA:DL cw cD:=DL.app2 (DL.zK) cR hkL125;have gB:Dj bL cw:=Dj.app (Dj.z) cS hkL125;have gC:Nx 0 aC.size cw:=Nx.tr (Nx.refl 0 _) hkL125 ab.size;replace hrx:=fun x ac=>(hrx x ac).upL a7 (gi);replace hry:=fun x ac y hy0=>(hry x ac y hy0).upL a7 (gj);replace hpx:=fun x hp0=>(hpx x hp0).upL a7 (gk);replace hf:=hf.upL a7 (dk.symm);replace hlg2:=hlg2.upL a7 (dl);replace cN:=cN.upL a7 (gp);replace cO:=fun x hx_=>(cO x hx_).upL a7 (gq);replace ab:=ab.trL a7 (MIL.ofK (dh) (by intro k hk;simp[hk]));have kW:=a7.size;have ao:=hx.bk;have gD:=cT.le;have hQ:=hL2.le;have cZ:=bf9125;have gE:=DFL.above dn (by first|exact aq|exact fun k hk=>Nat.le_trans (aq k hk) (by omega)|assumption);have gF:DF _ bL:=DF.above dn (by first|exact cQ|exact hlt_hlg2|omega);have dp:=Wst.opens hBe hid118 gl gt ck (n:=el.length) (by rw[ck,←cM];simp[recs]);refine LR.m1 ?_;refine LR.v1 (Y.extract rfl rfl rfl) ?_;refine LR.v1 (Y.extract rfl rfl rfl) ?_;refine LR.v1 (Y.extract rfl rfl rfl) ?_;refine LR.a1 ?_;refine LR.a1 ?_;refine LR.an ?_;refine iV _ _ (CW.sr (fun i0=>?_));refine LR.m1 ?_;refine LR.m1 ?_;refine LR.call rfl c'13 rfl (Wd.u rfl) rfl rfl (sameR_ct iQ gr el gs w0 _ cN.any hL2.rd.any (fun x h=>(cO x h).any) (fun x h=>(hxl2 x h).any)) (fun kX kY i1=>?_);obtain⟨rfl,aQ⟩:=i1;replace hrx:=fun x ac=>(hrx x ac).nw aQ;replace hry:=fun x ac y hy0=>(hry x ac y hy0).nw aQ;replace hpx:=fun x hp0=>(hpx x hp0).nw aQ;replace hx:=hx.nw aQ;replace hf:=hf.nw aQ;replace hlg2:=hlg2.nw aQ;replace cT:=cT.nw aQ;replace hL2:=hL2.nw aQ;replace hxl2:=fun x hx_=>(hxl2 x hx_).nw aQ;replace ab:=ab.trN aQ;have kZ:=aQ.size;rw[cM,ck,decide_eq_true rfl];refine LR.v1 (Y.not rfl rfl) ?_;refine LR.m1 ?_;refine LR.wm ?_;refine LR.wm ?_;refine LR.w1 ((Y.neq rfl rfl rfl).isF ((fun h=>h rfl))) ?_;refine LR.pf ?_;refine LR.m1 ?_;refine LR.wm ?_;refine LR.w1 (Y.peq rfl (by kernel_rfl) (by kernel_rfl) rfl rfl) ?_;refine LR.wm ?_;refine LR.w1 (Y.peq rfl (by kernel_rfl) (by kernel_rfl) rfl rfl) ?_;refine LR.w1 ((Y.bneq rfl Tryz.underlying4 rfl rfl).isF ((fun h=>h (by rw[lgP_nil bx p hlg2,rlP_nil bS p cT];exact decide_eq_decide.2 dp.iff)))) ?_;refine LR.pf ?_;refine LR.nil (i0 _ _ ?_);refine CW.cond_f rfl ?_;refine CW.skip (b5 _ _ ?_);refine QN.sub (b4 (cD,iR,cY,iX,(openD De p).2.2,iP,bL,el.length,false,iY,cv,gr,cw,gs,iZ) _ ?_) ⟨rfl,rfl,rfl,rfl,rfl,rfl,(iv (by omega)),trivial⟩;exact⟨hf,hx,hlg2,cT,hL2,hxl2,cZ.mono (by omega),(gE),(em),(gF),(en),(eo),dp.mono (by omega) (by omega),by omega,gm,gw,(Nx.z (gn)),(Nx.z (gz)),(Nx.z (gC)),gu,dl2118,gv,gx,d1125,gy,gA,d2125,gB,d3125,ab⟩
      ·
       refine CW.sr (fun i2=>?_);refine LR.v1 (Y.eql rfl rfl rfl) ?_;refine LR.an ?_;refine i2 _ _ ?_;refine CW.condp rfl (fun i3=>?_) (fun i3=>?_)
       ·
        refine CW.sr (fun i4=>?_);refine LR.m1 ?_;refine LR.v1 (Y.FA bw.pt rfl u'52 rfl s'3) ?_;refine LR.v1 (Y.load1 (bw.pt.drop 1) rfl a'3 rfl) ?_;refine LR.call rfl c'15 rfl (Wd.u rfl) rfl rfl (within3_ct l[i].n 20 w0 _ (by omega) hcii.2.1) (fun k0 k1 i5=>?_);obtain⟨rfl,aH⟩:=i5;replace hrx:=fun x ac=>(hrx x ac).nw aH;replace hry:=fun x ac y hy0=>(hry x ac y hy0).nw aH;replace hpx:=fun x hp0=>(hpx x hp0).nw aH;replace hL:=hL.nw aH;replace hf:=hf.nw aH;replace hx:=hx.nw aH;replace hlg:=hlg.nw aH;replace hlm:=hlm.nw aH;replace hxl:=fun x hx_=>(hxl x hx_).nw aH;replace bw:=bw.nw aH;replace ab:=ab.trN aH;have k2:=aH.size;have hcl20:=wiN_lt (a:=l[i].n) (show 0<20 by omega);refine LR.call rfl c'14 rfl (Wd.u rfl) rfl rfl (stop_ct Ka ga bx Di (wiN l[i].n 20:Nat) w0 _ hf (by omega)) (fun k3 i6 i7=>?_);obtain⟨gG,rfl,hf,jR,aR⟩:=i7;replace hrx:=fun x ac=>(hrx x ac).upL aR (ca);replace hry:=fun x ac y hy0=>(hry x ac y hy0).upL aR (cb);replace hpx:=fun x hp0=>(hpx x hp0).upL aR (cc);replace hL:=hL.upL aR (aZ);replace hx:=hx.upL aR (aB.symm);replace hlg:=hlg.upL aR (bo);replace hlm:=hlm.upL aR (aY);replace hxl:=fun x hx_=>(hxl x hx_).upL aR (cU);replace bw:=bw.upL aR (bt);replace ab:=ab.trL aR (MIL.ofK (ag) (by intro k hk;simp[hk]));have k4:=aR.size;replace hf:PDk Ka gG i6 bx (Di.stop (wiN l[i].n 20)):=hf;refine LR.nil (i4 _ _ (CW.region ?_));refine LR.m1 ?_;refine LR.v1 (Y.FA bw.pt rfl u'52 rfl s'3) ?_;refine LR.v1 (Y.load1 (bw.pt.drop 1) rfl a'3 rfl) ?_;refine LR.call rfl c'15 rfl (Wd.u rfl) rfl rfl (within3_ct l[i].n 20 w0 _ (by omega) hcii.2.1) (fun k5 k6 i8=>?_);obtain⟨rfl,aS⟩:=i8;replace hrx:=fun x ac=>(hrx x ac).nw aS;replace hry:=fun x ac y hy0=>(hry x ac y hy0).nw aS;replace hpx:=fun x hp0=>(hpx x hp0).nw aS;replace hL:=hL.nw aS;replace hf:=hf.nw aS;replace hx:=hx.nw aS;replace hlg:=hlg.nw aS;replace hlm:=hlm.nw aS;replace hxl:=fun x hx_=>(hxl x hx_).nw aS;replace ab:=ab.trN aS;have k7:=aS.size;refine LR.call rfl c'20 rfl (Wd.u rfl) rfl rfl (rstop_ct Kb gb bS Di (wiN l[i].n 20:Nat) w0 _ hx (by omega)) (fun k8 i9 i_=>?_);obtain⟨rfl,hx,a2⟩:=i_;replace hrx:=fun x ac=>(hrx x ac).upL a2 (b0);replace hry:=fun x ac y hy0=>(hry x ac y hy0).upL a2 (b1);replace hpx:=fun x hp0=>(hpx x hp0).upL a2 (bU);replace hL:=hL.upL a2 (bq);replace hf:=hf.upL a2 (aB);replace hlg:=hlg.upL a2 (aG);replace hlm:=hlm.upL a2 (bp);replace hxl:=fun x hx_=>(hxl x hx_).upL a2 (c4);replace ab:=ab.trL a2 (MIL.ofK (ah) (by intro k hk;simp[hk]));have k9:=a2.size;replace hx:RDk Kb gb i9 bS (Di.stop (wiN l[i].n 20)):=hx;refine LR.nil (b5 _ _ ?_);refine QN.sub (b4 (Ka,gG,Kb,gb,(Di.stop (wiN l[i].n 20)),o,kl,n,br,q,km,lv,kL,rr,G) _ ?_) ⟨rfl,rfl,rfl,rfl,rfl,rfl,(iv (by omega)),trivial⟩;exact⟨hf,hx,hlg,hlm,hL,hxl,aA.mono (by omega),(cU),(c4),(cX),(d9),(d_),(hw.stop _).mono (by omega) (by omega),by omega,ag,ah,ai,aj,am,aB,bo,aG,aY,bp,aL,aZ,bq,aM,bG,ab⟩
       ·
        refine CW.sr (fun ja=>?_);refine LR.v1 (Y.eql rfl rfl rfl) ?_;refine LR.an ?_;refine ja _ _ ?_;refine CW.condp rfl (fun jb=>?_) (fun jb=>?_)
        ·
         refine CW.sr (fun gH=>?_);refine LR.m1 ?_;refine LR.v1 (Y.pne rfl (by kernel_rfl) (by kernel_rfl) rfl rfl) ?_;refine LR.m1 ?_;refine LR.split (d:=161) rfl (fun ep=>?_) (fun ep=>?_)
         ·
          have cV:kl≠0:=by
           intro e9;have h9:o.isNone=true:=by rw[lgP_nil bx p hlg,e9];rfl
           rw[Option.isNone_iff_eq_none]at h9;rw[h9]at ep;exact absurd ep (by decide)
          obtain⟨gI,hj,hn9⟩:=hw.pos cV;have hid:=hf.ids.1;have hmr:∀r∈recs m93,r.length≤1048576:=fun r h=>by have:=enc_each hfe r h;omega
          refine LR.wm ?_;refine LR.wm ?_;refine LR.call rfl c'16 rfl (Wd.g rfl rfl rfl) rfl rfl (wckpP_ct mx_ Ka bx Di p _ w0 _ ga kl n o br iy m93 _ hf mx (bf_mx.mono (by omega)) (cF) hlg cV (bo) (ea) hm hxm (c_.mono (by omega)) (b2) (b3) (by omega) (by omega) hw.q.bs (by omega)) (fun k_ la jc=>?_);have gJ:=hL.le;have gK:=hx.bk;have gL:=hlm.le;obtain⟨cl,jd,rfl,hf,bM,hlg,dl2164,aT⟩:=jc;have dq:DL kL cl:=DL.appK (aZ) gJ bM;have dr:DKL Kb cl:=DKL.appK (aB.symm) gK bM;have ds:DL km cl:=DL.appK (aY) gL bM;have gM:=DFL.appK (cU) (aA.mono (by omega)) bM;have gN:NxK Ka aC.size cl:=NxK.tr (ag) bM ab.size;replace hrx:=fun x ac=>(hrx x ac).upL aT (DFL.app ca (DFL.o eb));replace hry:=fun x ac y hy0=>(hry x ac y hy0).upL aT (DFL.app cb (DFL.o ec));replace hpx:=fun x hp0=>(hpx x hp0).upL aT (DFL.app cc (DFL.o ed));replace hL:=hL.upL aT (DL.app aZ (DL.o aM.symm));replace hx:=hx.upL aT (DKL.app aB.symm (DKL.cons aG DKL.nil));replace hlm:=hlm.upL aT (DL.app aY (DL.o aL.symm));replace hxl:=fun x hx_=>(hxl x hx_).upL aT (DFL.app cU (DFL.o cX));replace hm:=hm.upL aT (DFL.app b2 (DFL.o b3));replace hxm:=fun x hx_=>(hxm x hx_).upL aT (DFL.app cH (DFL.o cI));replace ab:=ab.trL aT (MIL.app (MIL.ofK (ag) (by intro k hk;simp[hk])) (MIL.o (MI.r ai)));have lb:=aT.size;have aq:=hf.bk;have og1:=(gM);have og3:=(cX);have ok1:=aq;have ok3:=hlg.le;refine LR.wm ?_;refine LR.wm ?_;refine LR.call rfl c'21 rfl (Wd.g rfl rfl rfl) rfl rfl (rckpP_ct Kb bS Di p _ w0 _ gb km q lv kL rr br iy m93 _ G hx hlm gI hL (bp) (bq) (bG) hxl (aA.mono (by omega)) (c4) (d9) (d_) hm hxm (c_.mono (by omega)) (cs) (ct) (cr) (by omega) (by omega) (by omega) hw.q.bs (by omega)) (fun lc ld je=>?_);have dt:=hf.bk;have du:=hlg.le;obtain⟨c0,jf,gO,cx,jg,jh,rfl,hx,cm,jS,hlm,hL,hkL167,d1167,d2167,d3167,er,hxl,dv,bfG167,es,et,eu,bN⟩:=je;have gP:DKL cl c0:=DKL.appK (dr.symm) dt cm;have gQ:DL kl c0:=DL.appK (aG) du cm;have gR:NxK Kb aC.size c0:=NxK.tr (ah) cm ab.size;have gS:DL cx cl:=DL.app2 (dq) dt hkL167;have gT:Dj kl cx:=Dj.app (aM) du hkL167;have gU:Nx kL aC.size cx:=Nx.tr (am) hkL167 ab.size;replace hrx:=fun x ac=>(hrx x ac).upL bN (DFL.app b0 (DFL.cons ee (DFL.o eh)));replace hry:=fun x ac y hy0=>(hry x ac y hy0).upL bN (DFL.app b1 (DFL.cons ef (DFL.o ei)));replace hpx:=fun x hp0=>(hpx x hp0).upL bN (DFL.app bU (DFL.cons eg (DFL.o ej)));replace hf:=hf.upL bN (DKL.app dr.symm (DKL.cons ds (DKL.cons dq DKL.nil)));replace hlg:=hlg.upL bN (DL.app aG (DL.cons aL (DL.o aM)));replace ab:=ab.trL bN (MIL.app (MIL.ofK (ah) (by intro k hk;simp[hk])) (MIL.cons (MI.r aj) (MIL.o (MI.r am))));have lf:=bN.size;have ao:=hx.bk;have a8:=hL.le;have gV:=(fun k hk=>df_or dv (og1 k hk) (ok1 k hk));have gW:=df_or dv og3 ok3;have gX:=es;have gY:=et;have gZ:=eu;refine LR.w1 ((Y.neq rfl rfl rfl).isF ((fun h=>h rfl))) ?_;refine LR.pt ?_;refine LR.nil (gH _ _ ?_);refine CW.cond_f rfl ?_;refine CW.skip (b5 _ _ ?_);refine QN.sub (b4 (cl,jd,c0,jf,(freshD Di p (recs m93)).2,o,kl,(lgN (freshD Di p (recs m93)).1 m93.length n),(lgB (freshD Di p (recs m93)).1 br),q,km,gO,cx,jg,jh) _ ?_) ⟨rfl,rfl,rfl,rfl,rfl,rfl,(iv (by omega)),trivial⟩;exact⟨hf,hx,hlg,hlm,hL,hxl,bfG167,(gV),(gX),(gW),(gY),(gZ),(hw.ckp hid cV hmr hfe (by omega) hmn er).mono (by omega) (by omega),by omega,gN,gR,ai,aj,gU,gP,dl2164,gQ,ds,d1167,aL,gS,d2167,gT,d3167,ab⟩
         ·
          refine LR.g1 ?_;refine LR.g1 ?_;refine LR.g1 ?_;refine LR.g1 ?_;refine LR.g1 ?_;refine LR.g1 ?_;refine LR.g1 ?_;refine LR.pf ?_;refine LR.nil (gH _ _ ?_);refine CW.cond_f rfl ?_;refine CW.skip (b5 _ _ ?_);refine QN.sub (b4 (Ka,ga,Kb,gb,Di,o,kl,n,br,q,km,lv,kL,rr,G) _ ?_) ⟨rfl,rfl,rfl,rfl,rfl,rfl,(iv (by omega)),trivial⟩;exact⟨hf,hx,hlg,hlm,hL,hxl,aA.mono (by omega),(cU),(c4),(cX),(d9),(d_),hw.mono (by omega) (by omega),by omega,ag,ah,ai,aj,am,aB,bo,aG,aY,bp,aL,aZ,bq,aM,bG,ab⟩
        ·
         refine CW.sr (fun ji=>?_);refine LR.v1 (Y.eql rfl rfl rfl) ?_;refine LR.an ?_;refine ji _ _ ?_;refine CW.condp rfl (fun jj=>?_) (fun jj=>?_)
         ·
          refine CW.s1 (fun ev=>?_);refine CW.region_any (fun Hq=>Mo (Ms (Ka++(kl::(Kb++[km,kL])))) aa Hq) [] rfl ?_;have ae:Mo (Ms (Ka++(kl::(Kb++[km,kL])))) aa aa:=Mo.refl _ _;have dw:=NxK.refl Ka aa.size;have dx:=Nx.refl kl aa.size;have g0:=NxK.refl Kb aa.size;have g2:=Nx.refl km aa.size;have g3:=Nx.refl kL aa.size;refine LH.m1 0 rfl ae ?_;refine LH.t1 1 rfl (fun Hq hq=>Y.pne rfl (by kernel_rfl) (by kernel_rfl) rfl rfl) ae ?_;refine LH.m1 2 rfl ae ?_;refine LH.split (d:=174) rfl (fun ew=>?_) (fun ew=>?_)
          ·
           have cV:kl≠0:=by
            intro e9;have h9:o.isNone=true:=by rw[lgP_nil bx p hlg,e9];rfl
            rw[Option.isNone_iff_eq_none]at h9;rw[h9]at ew;exact absurd ew (by decide)
           obtain⟨gI,hj,hn9⟩:=hw.pos cV;have hid:=hf.ids.1;refine LH.u1 3 rfl (fun Hq hq=>Y.move rfl rfl) (Wd.g rfl rfl rfl) ae ?_;refine LH.u1 4 rfl (fun Hq hq=>Y.len (hm.upL hq (DFL.app b2 (DFL.cons b3 (DFL.app cs (DFL.cons ct (DFL.o cr)))))) rfl u'22 rfl) (Wd.g rfl rfl rfl) ae ?_;refine LH.u1 5 rfl (fun Hq hq=>Y.gtr rfl rfl rfl) (Wd.g rfl rfl rfl) ae ?_;refine LH.t1 6 rfl (fun Hq hq=>Y.pick_t rfl rfl rfl) ae ?_;refine LH.m1 7 rfl ae ?_;refine LH.splitp (d:=179) rfl (fun jk=>?_) (fun jk=>?_)
           ·
            have hm20:0<m93.length:=by omega
            have hr20:=hfm m93[0] (List.getElem_mem hm20);obtain⟨ap1,ap2⟩:=hw.app (r:=m93[0].2) hid cV hr20;have lY:=hw.le;have hnn9:n≤1000000000:=by have h8:W8.length=8:=rfl;have h9:=encW_many (recs rr);unfold encW at h9;rw[List.length_append]at h9;omega
            refine LH.u1 8 rfl (fun Hq hq=>Y.move rfl rfl) (Wd.g rfl rfl rfl) ae ?_;refine LH.u1 9 rfl (fun Hq hq=>Y.move rfl rfl) (Wd.g rfl rfl rfl) ae ?_;refine LH.e (g:=fun ad=> .pointer (some ad)) 10 (by kernel_rfl) rfl (by kernel_rfl) (by kernel_rfl) (by kernel_rfl) (Y.iF hm (0) rfl u'22 s'34 rfl rfl) (Wd.g rfl rfl rfl) rfl rfl ae (fun jT g4=>?_);refine LH.u1 11 rfl (fun Hq hq=>Y.load1 (g4.upL hq (DFL.app b2 (DFL.cons b3 (DFL.app cs (DFL.cons ct (DFL.o cr)))))).pt rfl a'34 rfl) (Wd.g rfl rfl rfl) ae ?_;refine LH.u1 13 rfl (fun Hq hq=>Y.move rfl rfl) (Wd.g rfl rfl rfl) ae ?_;refine LH.u1 14 rfl (fun Hq hq=>Y.move rfl rfl) (Wd.g rfl rfl rfl) ae ?_;refine LH.e (g:=fun ad=> .pointer (some ad)) 15 (by kernel_rfl) rfl (by kernel_rfl) (by kernel_rfl) (by kernel_rfl) (Y.iF hm (0) rfl u'22 s'34 rfl rfl) (Wd.g rfl rfl rfl) rfl rfl ae (fun jU g5=>?_);refine LH.u1 16 rfl (fun Hq hq=>Y.load1 (g5.upL hq (DFL.app b2 (DFL.cons b3 (DFL.app cs (DFL.cons ct (DFL.o cr)))))).pt rfl a'34 rfl) (Wd.g rfl rfl rfl) ae ?_;refine LH.o1 12 ?_;refine LO.call rfl rfl c'10 rfl (Wd.g rfl rfl rfl) rfl rfl (wappP_ct mx_ Ka bx Di p _ w0 _ ga kl n o br m93[0].1 m93[0].2 _ hf mx (bf_mx.mono (by omega)) (cF) hlg cV (bo) (ea) (hxm m93[0] (List.getElem_mem hm20)) (cG.mono (by omega)) (cH) (cI) (by omega) (by omega) hw.q.bs (by omega) hnn9) (fun lg bR jl=>?_);have g6:=hL.le;have g7:=hx.bk;have g8:=hlm.le;obtain⟨bi,jm,rfl,hf,bj,hlg,dl2184,aU⟩:=jl;have dy:DL kL bi:=DL.appK (aZ) g6 bj;have dz:DKL Kb bi:=DKL.appK (aB.symm) g7 bj;have dA:DL km bi:=DL.appK (aY) g8 bj;have g9:=DFL.appK (cU) (aA.mono (by omega)) bj;have g_:NxK Ka aC.size bi:=NxK.tr (ag) bj ab.size;have hb:NxK Ka aa.size bi:=NxK.tr (dw) bj ae.size;replace hrx:=fun x ac=>(hrx x ac).upL aU (DFL.app ca (DFL.o eb));replace hry:=fun x ac y hy0=>(hry x ac y hy0).upL aU (DFL.app cb (DFL.o ec));replace hpx:=fun x hp0=>(hpx x hp0).upL aU (DFL.app cc (DFL.o ed));replace hL:=hL.upL aU (DL.app aZ (DL.o aM.symm));replace hx:=hx.upL aU (DKL.app aB.symm (DKL.cons aG DKL.nil));replace hlm:=hlm.upL aU (DL.app aY (DL.o aL.symm));replace hxl:=fun x hx_=>(hxl x hx_).upL aU (DFL.app cU (DFL.o cX));replace hxm:=fun x hx_=>(hxm x hx_).upL aU (DFL.app cH (DFL.o cI));replace ab:=ab.trL aU (MIL.app (MIL.ofK (ag) (by intro k hk;simp[hk])) (MIL.o (MI.r ai)));replace ae:=ae.trL aU (MIL.app (MIL.ofK (dw) (by intro k hk;simp[hk])) (MIL.o (MI.r dx)));have lh:=aU.size;have aq:=hf.bk;have og1:=(g9);have og3:=(cX);have ok1:=aq;have ok3:=hlg.le;refine⟨.inr ae,LH.narrow (SH2:=fun Hq=>Mo (Ms (bi++(kl::(Kb++[km,kL])))) bR Hq) (fun Hq hq=>ae.trL hq (MIL.app (MIL.ofK (hb) (by intro k hk;simp[hk])) (MIL.cons (MI.r dx) (MIL.app (MIL.ofK (g0) (by intro k hk;simp[hk])) (MIL.cons (MI.r g2) (MIL.o (MI.r g3))))))) ?_⟩;have ae:Mo (Ms (bi++(kl::(Kb++[km,kL])))) bR bR:=Mo.refl _ _;have hc:=NxK.refl bi bR.size;have hd:=Nx.refl kl bR.size;have dB:=NxK.refl Kb bR.size;have dC:=Nx.refl km bR.size;have dD:=Nx.refl kL bR.size;refine LH.o1 17 ?_;refine LO.call rfl rfl c'22 rfl (Wd.g rfl rfl rfl) rfl rfl (rappP_ct Kb bS Di p _ w0 _ gb km q lv kL rr br m93[0].1 m93[0].2 _ G hx hlm gI hL (bp) (bq) (bG) hxl (aA.mono (by omega)) (c4) (d9) (d_) (hxm m93[0] (List.getElem_mem hm20)) (cG.mono (by omega)) (fA) (fC) (fz) (by omega) (by omega) (by omega) (by omega) hw.q.bs (by omega)) (fun li ex jn=>?_);have dE:=hf.bk;have dF:=hlg.le;obtain⟨cn,jo,he,bO,jp,jq,rfl,hx,bW,jV,hlm,hL,hkL189,d1189,d2189,d3189,ey,hxl,dG,bfG189,ez,eA,eB,bv⟩:=jn;have hg:DKL bi cn:=DKL.appK (dz.symm) dE bW;have hh:DL kl cn:=DL.appK (aG) dF bW;have hn:NxK Kb aC.size cn:=NxK.tr (ah) bW ab.size;have ho:NxK Kb bR.size cn:=NxK.tr (dB) bW ae.size;have hp:DL bO bi:=DL.app2 (dy) dE hkL189;have hr:Dj kl bO:=Dj.app (aM) dF hkL189;have hs:Nx kL aC.size bO:=Nx.tr (am) hkL189 ab.size;have ht:Nx kL bR.size bO:=Nx.tr (dD) hkL189 ae.size;replace hrx:=fun x ac=>(hrx x ac).upL bv (DFL.app b0 (DFL.cons ee (DFL.o eh)));replace hry:=fun x ac y hy0=>(hry x ac y hy0).upL bv (DFL.app b1 (DFL.cons ef (DFL.o ei)));replace hpx:=fun x hp0=>(hpx x hp0).upL bv (DFL.app bU (DFL.cons eg (DFL.o ej)));replace hf:=hf.upL bv (DKL.app dz.symm (DKL.cons dA (DKL.cons dy DKL.nil)));replace hlg:=hlg.upL bv (DL.app aG (DL.cons aL (DL.o aM)));replace ab:=ab.trL bv (MIL.app (MIL.ofK (ah) (by intro k hk;simp[hk])) (MIL.cons (MI.r aj) (MIL.o (MI.r am))));replace ae:=ae.trL bv (MIL.app (MIL.ofK (dB) (by intro k hk;simp[hk])) (MIL.cons (MI.r dC) (MIL.o (MI.r dD))));have lj:=bv.size;have ao:=hx.bk;have a8:=hL.le;have hu:=(fun k hk=>df_or dG (og1 k hk) (ok1 k hk));have hv:=df_or dG og3 ok3;have hy:=ez;have hz:=eA;have hA:=eB;refine⟨.inr ae,LH.narrow (SH2:=fun Hq=>Mo (Ms (bi++(kl::(cn++[km,bO])))) ex Hq) (fun Hq hq=>ae.trL hq (MIL.app (MIL.ofK (hc) (by intro k hk;simp[hk])) (MIL.cons (MI.r hd) (MIL.app (MIL.ofK (ho) (by intro k hk;simp[hk])) (MIL.cons (MI.r dC) (MIL.o (MI.r ht))))))) ?_⟩;have ae:Mo (Ms (bi++(kl::(cn++[km,bO])))) ex ex:=Mo.refl _ _;refine LH.u1 18 rfl (fun Hq hq=>(Y.neq rfl rfl rfl).isF ((fun h=>h (by rw[ap1])))) (Wd.g rfl rfl rfl) ae ?_;refine LH.t1 19 rfl (fun Hq hq=>Y.pick_t rfl rfl rfl) ae ?_;refine LH.done (by kernel_rfl) ?_;refine ev _ _ ?_;refine CW.cond_f rfl ?_;refine CW.skip (b5 _ _ ?_);refine QN.sub (b4 (bi,jm,cn,jo,(appR Di p (recs rr) br m93[0].2).2.2.2,o,kl,(appR Di p (recs rr) br m93[0].2).2.1.length,(appR Di p (recs rr) br m93[0].2).2.2.1,q,km,he,bO,jp,jq) _ ?_) ⟨rfl,rfl,rfl,rfl,rfl,rfl,(iv (by omega)),trivial⟩;exact⟨by rw[ap1]at hf;exact hf,hx,by rw[ap1]at hlg;exact hlg,hlm,hL,hxl,bfG189,(hu),(hy),(hv),(hz),(hA),by rw[ey];exact ap2.mono (by omega) (by omega),by omega,g_,hn,ai,aj,hs,hg,dl2184,hh,dA,d1189,aL,hp,d2189,hr,d3189,ab⟩
           ·
            refine LH.g1 8 rfl rfl rfl rfl ae ?_;refine LH.g1 9 rfl rfl rfl rfl ae ?_;refine LH.g1 10 rfl rfl rfl rfl ae ?_;refine LH.g1 11 rfl rfl rfl rfl ae ?_;refine LH.g1 12 rfl rfl rfl rfl ae ?_;refine LH.g1 13 rfl rfl rfl rfl ae ?_;refine LH.g1 14 rfl rfl rfl rfl ae ?_;refine LH.g1 15 rfl rfl rfl rfl ae ?_;refine LH.g1 16 rfl rfl rfl rfl ae ?_;refine LH.g1 17 rfl rfl rfl rfl ae ?_;refine LH.g1 18 rfl rfl rfl rfl ae ?_;refine LH.t1 19 rfl (fun Hq hq=>Y.pick_f rfl rfl rfl) ae ?_;refine LH.done (by kernel_rfl) ?_;refine ev _ _ ?_;refine CW.cond_f rfl ?_;refine CW.skip (b5 _ _ ?_);refine QN.sub (b4 (Ka,ga,Kb,gb,Di,o,kl,n,br,q,km,lv,kL,rr,G) _ ?_) ⟨rfl,rfl,rfl,rfl,rfl,rfl,(iv (by omega)),trivial⟩;exact⟨hf,hx,hlg,hlm,hL,hxl,aA.mono (by omega),(cU),(c4),(cX),(d9),(d_),hw.mono (by omega) (by omega),by omega,ag,ah,ai,aj,am,aB,bo,aG,aY,bp,aL,aZ,bq,aM,bG,ab⟩
          ·
           refine LH.g1 3 rfl rfl rfl rfl ae ?_;refine LH.g1 4 rfl rfl rfl rfl ae ?_;refine LH.g1 5 rfl rfl rfl rfl ae ?_;refine LH.t1 6 rfl (fun Hq hq=>Y.pick_f rfl rfl rfl) ae ?_;refine LH.m1 7 rfl ae ?_;refine LH.g1 8 rfl rfl rfl rfl ae ?_;refine LH.g1 9 rfl rfl rfl rfl ae ?_;refine LH.g1 10 rfl rfl rfl rfl ae ?_;refine LH.g1 11 rfl rfl rfl rfl ae ?_;refine LH.g1 12 rfl rfl rfl rfl ae ?_;refine LH.g1 13 rfl rfl rfl rfl ae ?_;refine LH.g1 14 rfl rfl rfl rfl ae ?_;refine LH.g1 15 rfl rfl rfl rfl ae ?_;refine LH.g1 16 rfl rfl rfl rfl ae ?_;refine LH.g1 17 rfl rfl rfl rfl ae ?_;refine LH.g1 18 rfl rfl rfl rfl ae ?_;refine LH.t1 19 rfl (fun Hq hq=>Y.pick_f rfl rfl rfl) ae ?_;refine LH.done (by kernel_rfl) ?_;refine ev _ _ ?_;refine CW.cond_f rfl ?_;refine CW.skip (b5 _ _ ?_);refine QN.sub (b4 (Ka,ga,Kb,gb,Di,o,kl,n,br,q,km,lv,kL,rr,G) _ ?_) ⟨rfl,rfl,rfl,rfl,rfl,rfl,(iv (by omega)),trivial⟩;exact⟨hf,hx,hlg,hlm,hL,hxl,aA.mono (by omega),(cU),(c4),(cX),(d9),(d_),hw.mono (by omega) (by omega),by omega,ag,ah,ai,aj,am,aB,bo,aG,aY,bp,aL,aZ,bq,aM,bG,ab⟩
         ·
          refine CW.skip (b5 _ _ ?_);refine QN.sub (b4 (Ka,ga,Kb,gb,Di,o,kl,n,br,q,km,lv,kL,rr,G) _ ?_) ⟨rfl,rfl,rfl,rfl,rfl,rfl,(iv (by omega)),trivial⟩;exact⟨hf,hx,hlg,hlm,hL,hxl,aA.mono (by omega),(cU),(c4),(cX),(d9),(d_),hw.mono (by omega) (by omega),by omega,ag,ah,ai,aj,am,aB,bo,aG,aY,bp,aL,aZ,bq,aM,bG,ab⟩
    ·
     rintro⟨Kc,gc,Kd,gd,Dc,o2,cd,n2,br2,q2,km2,eE,cA,rr2,G2⟩ jW eC;obtain⟨hf,hx,hlg,hlm,hL,hxc,co,jX,jY,jZ,j0,j1,hw,hgd,ay,aw,aE,aF,a3,aK,a_,ba,bb,bc,a4,bE,bF,be,bg,aX⟩:=eC;have dH:NxK cW cz.size Kc:=NxK.tr (c5) ay av.size;have hB:=DFL.appK (b0) (ar.mono hm0.size) aw;have hC:=DFL.appK (b1) (au.mono hm0.size) aw;have hD:=DFL.appK (bU) (ap.mono hm0.size) aw;have dI:NxK c3 cz.size Kd:=NxK.tr (c6) aw av.size;have dJ:Nx bP cz.size cd:=Nx.tr (c7) aE av.size;have dK:Nx b9 cz.size km2:=Nx.tr (c8) aF av.size;have dL:Nx b_ cz.size cA:=Nx.tr (c9) a3 av.size;replace mx:=mx.upL aX (DFL.app cF (DFL.app fj (DFL.cons ea (DFL.cons ip (DFL.o iq)))));replace hrx:=fun x ac=>(hrx x ac).upL aX (DFL.app ca (DFL.app b0 (DFL.cons eb (DFL.cons ee (DFL.o eh)))));replace hry:=fun x ac y hy0=>(hry x ac y hy0).upL aX (DFL.app cb (DFL.app b1 (DFL.cons ec (DFL.cons ef (DFL.o ei)))));replace hpx:=fun x hp0=>(hpx x hp0).upL aX (DFL.app cc (DFL.app bU (DFL.cons ed (DFL.cons eg (DFL.o ej)))));replace av:=av.trL aX (MIL.app (MIL.ofK (c5) (by intro k hk;simp[hk])) (MIL.app (MIL.ofK (c6) (by intro k hk;simp[hk])) (MIL.cons (MI.r c7) (MIL.cons (MI.r c8) (MIL.o (MI.r c9))))));have lk:=aX.size;have aq:=hf.bk;have ao:=hx.bk;have a5:=hlg.le;have bz:=hlm.le;have a8:=hL.le;have dM:=aK;have dN:=a_;have dO:=ba;have dP:=bb;have dQ:=bc;have dR:=a4;have dS:=bE;have dT:=bF;have dU:=be;have dV:=bg;refine CW.sr (fun jr=>?_);refine LR.m1 ?_;refine LR.m1 ?_;refine LR.call rfl c'23 rfl (Wd.u rfl) rfl rfl (read_ct mx_ Kc gc bx Dc p w0 _ mx (bf_mx.mono (by omega)) hf (by omega) (fun i=>by have:=(hw.q.f i).1;omega)) (fun ll lm js=>?_);obtain⟨ln,jt,rfl,cy,hE,aV⟩:=js;have hF:DL jt Kd:=DL.app2 (DL.zK) hx.bk hE;replace hrx:=fun x ac=>(hrx x ac).nw aV;replace hry:=fun x ac y hy0=>(hry x ac y hy0).nw aV;replace hpx:=fun x hp0=>(hpx x hp0).nw aV;replace hL:=hL.nw aV;replace hf:=hf.nw aV;replace hx:=hx.nw aV;replace hlg:=hlg.nw aV;replace hlm:=hlm.nw aV;replace hxc:=fun x hx_=>(hxc x hx_).nw aV;replace av:=av.trN aV;have lo:=aV.size;have eF:=cy.le;refine LR.m1 ?_;refine LR.v1 (Y.extract rfl rfl rfl) ?_;refine LR.v1 (Y.extract rfl rfl rfl) ?_;refine LR.a1 ?_;refine LR.an ?_;refine jr _ _ (CW.sr (fun ju=>?_));refine LR.m1 ?_;refine LR.m1 ?_;refine LR.call rfl c'24 rfl (Wd.u rfl) rfl rfl (rread_ct Kd gd bS Dc p w0 _ hx hw.q.an hw.q.ast (by omega) (by omega) (fun i=>by have:=(hw.q.f i).1;omega)) (fun lp hG jv=>?_);have hH:=hL.le;have hI:=hf.bk;have hJ:=hlg.le;have hK:=hlm.le;obtain⟨cp,hM,lq,lr,rfl,hx,bl,dW,j2,dhr201,j3,hgd201,aW⟩:=jv;have dX:DL cA cp:=DL.appK (dT) hH bl;have dY:DKL Kc cp:=DKL.appK (dM) hI bl;have dZ:DL cd cp:=DL.appK (dO) hJ bl;have d0:DL km2 cp:=DL.appK (dQ) hK bl;have d1:=DFL.appK (jY) (co.mono (by omega)) bl;have d2:NxK c3 cz.size cp:=NxK.tr (dI) bl av.size;replace hrx:=fun x ac=>(hrx x ac).upL aW (hB);replace hry:=fun x ac y hy0=>(hry x ac y hy0).upL aW (hC);replace hpx:=fun x hp0=>(hpx x hp0).upL aW (hD);replace hL:=hL.upL aW (dT);replace hf:=hf.upL aW (dM);replace hlg:=hlg.upL aW (dO);replace hlm:=hlm.upL aW (dQ);replace hxc:=fun x hx_=>(hxc x hx_).upL aW (jY);replace cy:=cy.upL aW (hF);replace av:=av.trL aW (MIL.ofK (dI) (by intro k hk;simp[hk]));have ls:=aW.size;have ao:=hx.bk;have eG:=dW.le;have hgl201:=hgd201.2;refine LR.m1 ?_;refine LR.v1 (Y.extract rfl rfl rfl) ?_;refine LR.v1 (Y.extract rfl rfl rfl) ?_;refine LR.a1 ?_;refine LR.an ?_;refine ju _ _ (CW.s1 (fun hN=>?_));refine CW.region_any (fun Hq=>Nw hG Hq) [] rfl ?_;have hqs:=Nw.refl hG;refine LH.m1 0 rfl hqs ?_;refine LH.t1 1 rfl (fun Hq hq=>Y.bstr (cy.rd.nw hq) rfl Tryz.underlying34 Tryz.underlying9 Tryz.underlying5 rfl) hqs ?_;refine LH.m1 2 rfl hqs ?_;refine LH.t1 3 rfl (fun Hq hq=>Y.bstr (dW.rd.nw hq) rfl Tryz.underlying34 Tryz.underlying9 Tryz.underlying5 rfl) hqs ?_;refine LH.t1 4 rfl (fun Hq hq=>(Y.sneq rfl rfl rfl).isF ((fun h=>h rfl))) hqs ?_;refine LH.m1 5 rfl hqs ?_;refine LH.u1 6 rfl (fun Hq hq=>Y.move rfl rfl) (Wd.g rfl rfl rfl) hqs ?_;refine LH.u1 7 rfl (fun Hq hq=>Y.move rfl rfl) (Wd.g rfl rfl rfl) hqs ?_;refine LH.u1 8 rfl (fun Hq hq=>(Y.neq rfl rfl rfl).isF ((fun h=>h rfl))) (Wd.g rfl rfl rfl) hqs ?_;refine LH.t1 9 rfl (fun Hq hq=>Y.pick_f rfl rfl rfl) hqs ?_;refine LH.m1 10 rfl hqs ?_;refine LH.u1 11 rfl (fun Hq hq=>Y.move rfl rfl) (Wd.g rfl rfl rfl) hqs ?_;refine LH.u1 13 rfl (fun Hq hq=>Y.move rfl rfl) (Wd.g rfl rfl rfl) hqs ?_;refine LH.u1 14 rfl (fun Hq hq=>Y.nilCheck rfl rfl) (Wd.g rfl rfl rfl) hqs ?_;refine LH.u1 15 rfl (fun Hq hq=>Y.FA (hx.vb.pt.nw hq) rfl u'62 rfl s'3) (Wd.g rfl rfl rfl) hqs ?_;refine LH.u1 16 rfl (fun Hq hq=>Y.load1 ((hx.vb.pt.drop 3).nw hq) rfl a'3 rfl) (Wd.g rfl rfl rfl) hqs ?_;refine LH.o1 12 ?_;refine LO.call rfl rfl c'25 rfl (Wd.g rfl rfl rfl) rfl rfl (ops_ct Kc gc bx Dc w0 _ hf) (fun lu hO jw=>?_);obtain⟨rfl,aI⟩:=jw;replace hrx:=fun x ac=>(hrx x ac).nw aI;replace hry:=fun x ac y hy0=>(hry x ac y hy0).nw aI;replace hpx:=fun x hp0=>(hpx x hp0).nw aI;replace hL:=hL.nw aI;replace hf:=hf.nw aI;replace hx:=hx.nw aI;replace hlg:=hlg.nw aI;replace hlm:=hlm.nw aI;replace hxc:=fun x hx_=>(hxc x hx_).nw aI;replace av:=av.trN aI;have lw:=aI.size;have d3:=hqs.tr aI;refine⟨.inr d3,LH.narrow (SH2:=fun Hq=>Nw hO Hq) (fun Hq hq=>d3.tr hq) ?_⟩;have ak:=Nw.refl hO;refine LH.u1 17 rfl (fun Hq hq=>(Y.neq rfl rfl rfl).isF ((fun h=>h rfl))) (Wd.g rfl rfl rfl) ak ?_;refine LH.t1 18 rfl (fun Hq hq=>Y.pick_f rfl rfl rfl) ak ?_;refine LH.m1 19 rfl ak ?_;refine LH.u1 20 rfl (fun Hq hq=>Y.move rfl rfl) (Wd.g rfl rfl rfl) ak ?_;refine LH.u1 21 rfl (fun Hq hq=>Y.pne rfl (by kernel_rfl) (by kernel_rfl) rfl rfl) (Wd.g rfl rfl rfl) ak ?_;refine LH.u1 22 rfl (fun Hq hq=>Y.move rfl rfl) (Wd.g rfl rfl rfl) ak ?_;refine LH.split (d:=226) rfl (fun eD=>?_) (fun eD=>?_)
     ·
      have cV:cd≠0:=by
       intro e9;have h9:o2.isNone=true:=by rw[lgP_nil bx p hlg,e9];rfl
       rw[Option.isNone_iff_eq_none]at h9;rw[h9]at eD;exact absurd eD (by decide)
      obtain⟨gI,hj,hn9⟩:=hw.pos cV;have hid:=hf.ids.1;refine LH.u1 23 rfl (fun Hq hq=>Y.move rfl rfl) (Wd.g rfl rfl rfl) ak ?_;obtain⟨lm9,hkm9,hqm9,hvm9⟩:=rlP_var bS p hlm gI;refine LH.u1 25 rfl (fun Hq hq=>Y.cast (v2:=ptr lm9) (Y.move rfl rfl) (hqm9)) (Wd.g rfl rfl rfl) ak ?_;refine LH.u1 26 rfl (fun Hq hq=>Y.nilCheck rfl rfl) (Wd.g rfl rfl rfl) ak ?_;refine LH.u1 27 rfl (fun Hq hq=>Y.FA (hvm9.pt.nw hq) rfl u'64 rfl s'22) (Wd.g rfl rfl rfl) ak ?_;refine LH.u1 28 rfl (fun Hq hq=>Y.load1 ((hvm9.pt.drop 2).nw hq) rfl a'22 rfl) (Wd.g rfl rfl rfl) ak ?_;refine LH.u1 29 rfl (fun Hq hq=>Y.len (hL.rd.nw hq) rfl u'22 rfl) (Wd.g rfl rfl rfl) ak ?_;refine LH.o1 24 ?_;refine LO.call rfl rfl c'11 rfl (Wd.g rfl rfl rfl) rfl rfl (countP_ct bx p w0 _ hlg cV) (fun lx hP jx=>?_);obtain⟨rfl,aJ⟩:=jx;replace hrx:=fun x ac=>(hrx x ac).nw aJ;replace hry:=fun x ac y hy0=>(hry x ac y hy0).nw aJ;replace hpx:=fun x hp0=>(hpx x hp0).nw aJ;replace hL:=hL.nw aJ;replace hf:=hf.nw aJ;replace hx:=hx.nw aJ;replace hlg:=hlg.nw aJ;replace hlm:=hlm.nw aJ;replace hxc:=fun x hx_=>(hxc x hx_).nw aJ;replace av:=av.trN aJ;have ly:=aJ.size;have d4:=ak.tr aJ;refine⟨.inr d4,LH.narrow (SH2:=fun Hq=>Nw hP Hq) (fun Hq hq=>d4.tr hq) ?_⟩;have bX:=Nw.refl hP;refine LH.u1 30 rfl (fun Hq hq=>(Y.neq rfl rfl rfl).isF ((fun h=>h (by rw[hn9];simp[recs])))) (Wd.g rfl rfl rfl) bX ?_;refine LH.u1 31 rfl (fun Hq hq=>Y.pick_t rfl rfl rfl) (Wd.g rfl rfl rfl) bX ?_;refine LH.t1 32 rfl (fun Hq hq=>Y.pick_f rfl rfl rfl) bX ?_;refine LH.done (by kernel_rfl) ?_;have hqe:=bX;refine hN _ _ ?_;refine CW.cond_f rfl ?_;refine CW.skip (fn _ _ (fm _ _ (CW.region ?_)));refine LR.m1 ?_;refine LR.v1 (Y.addi rfl rfl rfl (by omega)) ?_;refine LR.an ?_;refine QN.sub (fh (i+1,Kc,gc,cp,hM,Dc,o2,cd,n2,br2,q2,km2,eE,cA,rr2,G2) _ ?_ ?_) ⟨rfl,rfl,rfl,rfl,rfl,rfl,(iv (by omega)),trivial⟩
      ·exact⟨hf,hx,hlg,hlm,hL,hxc,co.mono (by omega),(jX),(d1),(jZ),(j0),(j1),hw.mono (by omega) (by omega),by omega,⟨by omega,by omega⟩,dH,d2,dJ,dK,dL,dY,dN,dZ,dP,d0,dR,dS,dX,dU,dV,av⟩
      ·first|omega|(simp only;omega)|(simp;omega)
     ·
      refine LH.g1 23 rfl rfl rfl rfl ak ?_;refine LH.g1 24 rfl rfl rfl rfl ak ?_;refine LH.g1 25 rfl rfl rfl rfl ak ?_;refine LH.g1 26 rfl rfl rfl rfl ak ?_;refine LH.g1 27 rfl rfl rfl rfl ak ?_;refine LH.g1 28 rfl rfl rfl rfl ak ?_;refine LH.g1 29 rfl rfl rfl rfl ak ?_;refine LH.g1 30 rfl rfl rfl rfl ak ?_;refine LH.u1 31 rfl (fun Hq hq=>Y.pick_f rfl rfl rfl) (Wd.g rfl rfl rfl) ak ?_;refine LH.t1 32 rfl (fun Hq hq=>Y.pick_f rfl rfl rfl) ak ?_;refine LH.done (by kernel_rfl) ?_;have hqe:=ak;refine hN _ _ ?_;refine CW.cond_f rfl ?_;refine CW.skip (fn _ _ (fm _ _ (CW.region ?_)));refine LR.m1 ?_;refine LR.v1 (Y.addi rfl rfl rfl (by omega)) ?_;refine LR.an ?_;refine QN.sub (fh (i+1,Kc,gc,cp,hM,Dc,o2,cd,n2,br2,q2,km2,eE,cA,rr2,G2) _ ?_ ?_) ⟨rfl,rfl,rfl,rfl,rfl,rfl,(iv (by omega)),trivial⟩
      ·exact⟨hf,hx,hlg,hlm,hL,hxc,co.mono (by omega),(jX),(d1),(jZ),(j0),(j1),hw.mono (by omega) (by omega),by omega,⟨by omega,by omega⟩,dH,d2,dJ,dK,dL,dY,dN,dZ,dP,d0,dR,dS,dX,dU,dV,av⟩
      ·first|omega|(simp only;omega)|(simp;omega)
   ·
    refine CW.exit (fk (.exit 0) nofun _ _ (fi (.exit 0) nofun _ _ (fg _ _ ?_)));refine ff _ _ (CW.sr (fun jy=>?_));refine LR.an ?_;refine jy _ _ ?_;refine CW.ret (hret .ret (.inr rfl) _ _ _ (res1 rfl rfl) ?_);exact⟨rfl,hm0⟩
  ·
   refine LR.g1 ?_;refine LR.g1 ?_;refine LR.pf ?_;refine LR.nil (fl _ _ ?_);refine CW.cond_f rfl ?_;refine CW.exit (fk (.exit 0) nofun _ _ (fi (.exit 0) nofun _ _ (fg _ _ ?_)));refine ff _ _ (CW.sr (fun jz=>?_));refine LR.an ?_;refine jz _ _ ?_;refine CW.ret (hret .ret (.inr rfl) _ _ _ (res1 rfl rfl) ?_);exact⟨rfl,hm0⟩
end WdkF

namespace E
open Go.ChangeShapes Go.WideShapes Go.ChangeAt Go.RowKit Go.Deep
section
variable {H : Type} {enc : TypeId × Value → H} {P : Program} {W : World} {base : Nat} {sp : Nat → Bool} {held : Bool}
theorem mem_weightsAll{e:TypeId}{d:DataW H}:∀{ds:List (DataW H)},d∈ds→∀n∈d.weights P e,n∈DataW.weightsAll P e ds
 |x::ds,h,n,hn=>by
  simp only[DataW.weightsAll,List.mem_append];rcases List.mem_cons.1 h with rfl|h
  ·exact .inl hn
  ·exact .inr (mem_weightsAll h n hn)
def Wt(P:Program)(t:TypeId)(d:DataW H):Prop:=∀n∈d.weights P t,n≤reachBytes
theorem Wt.of{ts:List TypeId}{ds:List (DataW H)}{j:Nat}{t:TypeId}{d:DataW H}(h:(DataW.weightsEach P ts ds).all (·≤reachBytes)=true)(ht:ts[j]?=some t)(hd:ds[j]?=some d):Wt P t d:=fun n hn=>by
 have:=List.all_eq_true.1 h _ (DataW.weights_mem_each ht hd n hn)
 simpa using this
theorem Wt.slice{t e:TypeId}{els spr:List (DataW H)}(hu:P.underlying t=some (.slice e))(h:Wt P t (.slice els spr)):(els.length+spr.length)*P.bytesOf e≤reachBytes∧∀x∈els,Wt P e x:=
 ⟨h _ (by simp[DataW.weights,hu]),fun x hx n hn=>h n (by simp only[DataW.weights,hu,List.mem_cons,List.mem_append];exact .inr (.inl (mem_weightsAll hx n hn)))⟩
theorem Wt.each{t:TypeId}{fs:Array Field}{ds:List (DataW H)}{j:Nat}{f:TypeId}{d:DataW H}(hu:P.underlying t=some (.struct fs))(h:Wt P t (.agg ds))(hf:(fs.toList.map (·.type))[j]?=some f)(hd:ds[j]?=some d):Wt P f d:=fun n hn=>
 h n (by simp only[DataW.weights,hu];exact DataW.weights_mem_each hf hd n hn)
theorem read_sliceD{α:Type}(f:α→List Value)(sz:Nat)(Ψ:DataW H→α→Prop){t e:TypeId}{v:Value}{d:DataW H}{p:List MemPlace}(hv:v.cells= #[v])(ht:P.underlying t=some (.slice e))(hc:P.cellsOf e=sz)(hsz:0<sz)
 (elem:∀n cs' y ps,DataW.trod enc P W base sp held n e cs'=some (y,ps)→cs'.length=sz→∃x,cs'=f x∧Ψ y x) (h:DataW.Trod enc P W base sp held t v d p):
 ∃l:List α,RdT W.heap f sz v l∧∃D:Nat→DataW H,(∀(i:Nat) x,l[i]?=some x→Ψ (D i) x)∧((l=[]∧d= .nil)∨∃spr,d= .slice ((List.range l.length).map D) spr):=by
 obtain⟨fuel,h⟩:=h;rw[hv]at h;rcases open_slice ht h with⟨h1,h2⟩|⟨a,len,cap,m,n,D,Pl,h1,h2,h3,h4,h5,h6,h7⟩
 ·simp only[Array.toList,List.cons.injEq,and_true]at h1
  simp only[Prod.mk.injEq]at h2;obtain⟨rfl,rfl⟩:=h2;subst h1;exact⟨[],Rd.nil _ _ _ _,fun _=> .nil,(fun i x h=>by simp at h),.inl ⟨rfl,rfl⟩⟩
 ·simp only[List.cons.injEq,and_true]at h1
  simp only[Prod.mk.injEq]at h6;obtain⟨rfl,rfl⟩:=h6;subst h1;have hm:len≤m:=by rw[h5];split<;>omega
  have:∀i,i<len→∃x:α,∃cs',W.cells? base (a.add (i*sz)) sz=some cs'∧cs'=f x∧Ψ (D i) x:=by
   intro i hi;obtain⟨cs',hcs,htr⟩:=h7 i (by omega);rw[hc]at hcs;obtain⟨_,hl,_⟩:=World.cells?_some hcs;obtain⟨x,hx⟩:=elem n cs' _ _ htr hl;exact⟨x,cs',hcs,hx⟩
  obtain⟨l,hl,hp⟩:=list_of this;refine⟨l,⟨some a,cap,by rw[hl],by omega,h4,fun hne=>?_⟩,D,fun i x hx=>?_,.inr ⟨_,by rw[hl]⟩⟩
  ·have hlen:0<l.length:=List.length_pos_iff.2 hne
   obtain⟨cs0,hcs0,hcs0',_⟩:=hp 0 l[0] (by simp[hlen]);obtain⟨_,hl0,hcell0⟩:=World.cells?_some hcs0;have hc0:=hcell0 0 (by omega)
   have hh:W.cell? a=some (cs0[0]'(by omega)):=by
    simp only[Nat.zero_mul]at hc0;rw[←List.getElem?_eq_getElem,←hc0];simp[Addr.add]
   have hspot:a.spot=none:=World.cell?_spot hh;refine⟨a,rfl,hspot,trivial,World.block_lt_of_cell? W a hh,fun i x hx=>⟨rfl,fun j c hj=>?_⟩⟩;obtain⟨cs',hcs',rfl,_⟩:=hp i x hx;obtain⟨_,hl',hcell'⟩:=World.cells?_some hcs';have hjl:=(List.getElem?_eq_some_iff.1 hj).1;have:=hcell' j (by rw[←hl'];exact hjl);rw[hj]at this;rw[add_eq hspot,add_eq rfl]at this;show cell W.heap _=_;rw[←(At.cell (w0:=W) ⟨rfl,rfl,rfl,rfl,Nat.le_refl _⟩ _)];exact this
  ·obtain⟨_,_,_,h8⟩:=hp i x hx
   exact h8
theorem wt_elems{α:Type}{t e:TypeId}{d:DataW H}{l:List α}{D:Nat→DataW H}(hu:P.underlying t=some (.slice e))(h:(l=[]∧d= .nil)∨∃spr,d= .slice ((List.range l.length).map D) spr)(hw:Wt P t d):l.length*P.bytesOf e≤reachBytes∧∀i,i<l.length→Wt P e (D i):=by
 rcases h with⟨rfl,rfl⟩|⟨spr,rfl⟩
 ·exact⟨by simp,fun i hi=>by simp at hi⟩
 ·obtain⟨h1,h2⟩:=hw.slice hu
  simp only[List.length_map,List.length_range]at h1;exact⟨Nat.le_trans (Nat.mul_le_mul_right _ (by omega)) h1,fun i hi=>h2 _ (List.mem_map.2 ⟨i,by simpa using hi,rfl⟩)⟩
end
end E
end Go.Proofs.YtdliddjkacbggaaGreatDoor
