/-
  Contracts of functions of the program, and plain laws: put together of several texts.
-/
import Derived.Test.YtdliddjkacbggaaGreatDoorGa
import Derived.Maps.RangeRun
import Derived.RangeFuncLeaves
import Derived.RangeFuncRecord
import Derived.RangeFuncSeq
import Derived.TacticsIn
import Derived.Lib.SplitLaws
import Derived.Test.YtdliddjkacbggaaGreatDoorShelf
import Derived.Test.YtdliddjkacbggaaGreatDoorMcl
import Derived.Lib.Bytealg
import Derived.Lib.AppendZerosOnto
set_option linter.unusedVariables false
set_option linter.unusedSimpArgs false
set_option linter.unusedSectionVars false
set_option linter.defProp false
set_option maxHeartbeats 8000000
set_option maxRecDepth 20000
namespace Go.Proofs.YtdliddjkacbggaaGreatDoor

namespace SumF
open E Go.RowKit SumA SumB SumC SumD SumE
set_option maxRecDepth 100000 in
theorem inf34:Inf Tryz.prog 34 5 1 1:=⟨Tryz.underlying34,_,_,rfl,rfl,rfl,rfl,rfl⟩
def padZ(n:Nat):Nat:=(119-n%64)%64
def padOf(n:Nat):List UInt8:=0x80::(List.replicate (padZ n) 0++numL 8 (UInt64.ofNat (8*n)))
theorem pad_len(m:List UInt8):(m++padOf m.length).length%64=0∧(m++padOf m.length).length=m.length+padZ m.length+9:=by
 have h:(m++padOf m.length).length=m.length+padZ m.length+9:=by simp[padOf,numL_len];omega
 refine⟨?_,h⟩;rw[h,padZ];omega
def outL(s:List UInt32):List UInt8:=(List.range 32).map (fun i=>UInt8.ofNat (shrw_u32 (s.getD (i/4) 0) (24-8*(i%4))).toNat)
theorem outL_len(s:List UInt32):(outL s).length=32:=by simp[outL]
def sumOf(m:List UInt8):List UInt8:=outL (run IV (m++padOf m.length)).1.list
theorem sumOf_len(m:List UInt8):(sumOf m).length=32:=outL_len _
theorem run_take(M:List UInt8)(j:Nat)(st:S8)(h:run IV (M.take (64*j))=(st,[]))(hj:64*j+64≤M.length):run IV (M.take (64*(j+1)))=(compress st ((M.drop (64*j)).take 64),[]):=by
 have e:M.take (64*(j+1))=M.take (64*j)++(M.drop (64*j)).take 64:=by
  rw[show 64*(j+1)=64*j+64 by omega,List.take_add]
 have hl:((M.drop (64*j)).take 64).length=64:=by simp;omega
 rw[e,run_more,h];simp only[List.nil_append];rw[run_ge _ _ (by omega),List.take_of_length_le (l:=(M.drop (64*j)).take 64) (by omega),List.drop_of_length_le (l:=(M.drop (64*j)).take 64) (by omega),run_lt _ _ (by simp)]
theorem blk_get(M:List UInt8)(j c:Nat)(hc:c<64)(hj:64*j+64≤M.length)(q:Nat)(hq:q=64*j+c)(h:q<M.length):M[q]=((M.drop (64*j)).take 64).getD c 0:=by
 subst hq;simp[List.getD,hc,h,show c<M.length-64*j by omega]
theorem map_set8(w:List UInt8)(j:Nat)(x:UInt8):(w.map V8).set (0+j) (V8 x)=(w.set j x).map V8:=by rw[Nat.zero_add,List.map_set]
theorem take8_succ(w r:List UInt8)(i:Nat)(x:UInt8)(h:w.take i=r.take i)(hi:i<w.length)(hr:r[i]?=some x):(w.set i x).take (i+1)=r.take (i+1):=by
 have h2:=(List.getElem?_eq_some_iff.1 hr);obtain⟨h3,h4⟩:=h2;rw[take_set_succ _ _ _ hi,h,List.take_succ_eq_append_getElem h3,h4]
theorem outL_get(s:List UInt32)(i:Nat)(h:i<32):(outL s)[i]?=some (UInt8.ofNat (shrw_u32 (s.getD (i/4) 0) (24-8*(i%4))).toNat):=by
 simp[outL,h]
theorem rof_ct(v:Value)(m:List UInt8)(w0:World)(H0:Heap)
 (hr:RdT H0 fB 1 v m) (hml:m.length≤1048576):
 Ct Tryz.prog w0 96 #[v] H0 (fun r H2=>r= .agg ((sumOf m).map V8).toArray∧Mo (fun c=>False) H0 H2):=by
 refine Ct.enter (args:=[v]) Tryz.func96 rfl rfl rfl ?_;intro Q0 hret;replace hr:=hr.lt;have hm0:Mo (fun c=>False) H0 H0:=Mo.refl _ _;refine CW.sr (fun dU=>?_);refine LR.z1 (Z.allocv rfl z'165) ?_;rintro v2 H2 ⟨rfl,va2,b2,fA,dV⟩;have dW:H2.size=H0.size+1:=by rw[dV];simp
 replace hr:=hr.nw b2;replace hm0:=hm0.trans b2 (fun b hb0 hb1=>hb1) (fun b hb0 hb1=>hb1.elim);have fC:=b2.size;have bZ:=va2.lt;replace va2:Var 165 H2 H0.size ((List.replicate 32 (0:UInt8)).map V8):=va2;refine LR.nil (dU _ _ (CW.sr (fun dX=>?_)));refine LR.v1 (Y.build (v:= .agg (KS.map V32).toArray) rfl rfl (by intro w;kernel_rfl)) ?_;refine LR.z1 (Z.allocv rfl z'186) ?_;rintro v3 H3 ⟨rfl,va3,b0,fD,dY⟩;have dZ:H3.size=H2.size+1:=by rw[dY];simp
 replace hr:=hr.nw b0;replace hm0:=hm0.trans b0 (fun b hb0 hb1=>hb1) (fun b hb0 hb1=>hb1.elim);replace va2:=va2.nw b0;have fE:=b0.size;have b1:=va3.lt;replace va3:Var 186 H3 H2.size (List.replicate 64 (V32 0)):=va3;refine LR.s1 (S.var va3 (KS.map V32) (KS.map V32) rfl rfl rfl rfl (by intro u hu;obtain⟨x,_,rfl⟩:=List.mem_map.1 hu;rfl) s'186 (rfl) (Nat.le_of_ble_eq_true rfl) (by kernel_rfl)) fun ad b3=>?_;obtain⟨va3,aQ⟩:=b3;replace hr:=hr.up aQ (fun b hb0 hb1 hb2=>by omega);replace hm0:=hm0.trans aQ (fun b hb0 hb1=>hb1) (fun b hb0 hb1=>by omega);replace va2:=va2.up aQ (by omega);have fF:=aQ.size;refine LR.nil (dX _ _ (CW.sr (fun d0=>?_)));refine LR.v1 (Y.build (v:= .agg (IV.list.map V32).toArray) rfl rfl (by intro w;kernel_rfl)) ?_;refine LR.z1 (Z.allocv rfl z'187) ?_;rintro v4 H4 ⟨rfl,va4,bD,fG,d1⟩;have d2:H4.size=ad.size+1:=by rw[d1];simp
 replace hr:=hr.nw bD;replace hm0:=hm0.trans bD (fun b hb0 hb1=>hb1) (fun b hb0 hb1=>hb1.elim);replace va2:=va2.nw bD;replace va3:=va3.nw bD;have fH:=bD.size;have aR:=va4.lt;replace va4:Var 187 H4 ad.size (List.replicate 8 (V32 0)):=va4;refine LR.s1 (S.var va4 (IV.list.map V32) (IV.list.map V32) rfl rfl rfl rfl (by intro u hu;obtain⟨x,_,rfl⟩:=List.mem_map.1 hu;rfl) s'187 (rfl) (Nat.le_of_ble_eq_true rfl) (by kernel_rfl)) fun b4 b5=>?_;obtain⟨va4,aK⟩:=b5;replace hr:=hr.up aK (fun b hb0 hb1 hb2=>by omega);replace hm0:=hm0.trans aK (fun b hb0 hb1=>hb1) (fun b hb0 hb1=>by omega);replace va2:=va2.up aK (by omega);replace va3:=va3.up aK (by omega);have fI:=aK.size;refine LR.nil (d0 _ _ (CW.sr (fun d3=>?_)));refine LR.z1 (Z.litw _ (([]:List UInt8)) rfl inf34 rfl rfl rfl (by decide) (by decide) fB_len fB_one (rfl)) fun fJ d4 d5=>?_;obtain⟨bE,aU,d6,b6⟩:=d5;have dL:d4.size=b4.size+1:=by rw[b6];simp
 replace hr:=hr.nw aU;replace hm0:=hm0.trans aU (fun b hb0 hb1=>hb1) (fun b hb0 hb1=>hb1.elim);replace va2:=va2.nw aU;replace va3:=va3.nw aU;replace va4:=va4.nw aU;have fK:=aU.size;have bF:=bE.le;refine LR.m1 ?_;refine LR.z1 (Z.apnd bE hr rfl inf34 rfl rfl (by first|omega|(simp;omega)) (by first|omega|(simp;omega))) fun fL d7 d8=>?_;obtain⟨fM,a3,d9,aV⟩:=d8;replace hr:=hr.up aV (fun b hb0 hb1 hb2=>by omega);replace hm0:=hm0.trans aV (fun b hb0 hb1=>hb1) (fun b hb0 hb1=>by omega);replace va2:=va2.up aV (by omega);replace va3:=va3.up aV (by omega);replace va4:=va4.up aV (by omega);have fN:=aV.size;have bG:=a3.le;refine LR.z1 (Z.litw _ ([(0x80:UInt8)]) rfl inf34 rfl rfl rfl (by decide) (by decide) fB_len fB_one (rfl)) fun fO d_ ea=>?_;obtain⟨bH,aM,eb,b7⟩:=ea;have dM:d_.size=d7.size+1:=by rw[b7];simp
 replace hr:=hr.nw aM;replace hm0:=hm0.trans aM (fun b hb0 hb1=>hb1) (fun b hb0 hb1=>hb1.elim);replace va2:=va2.nw aM;replace va3:=va3.nw aM;replace va4:=va4.nw aM;replace a3:=a3.nw aM;have fP:=aM.size;have bI:=bH.le;refine LR.z1 (Z.apnd a3 bH.rd rfl inf34 rfl rfl (by first|omega|(simp;omega)) (by first|omega|(simp;omega))) fun ec dN ed=>?_;obtain⟨b8,ae,ee,aW⟩:=ed;replace hr:=hr.up aW (fun b hb0 hb1 hb2=>by omega);replace hm0:=hm0.trans aW (fun b hb0 hb1=>hb1) (fun b hb0 hb1=>by omega);replace va2:=va2.up aW (by omega);replace va3:=va3.up aW (by omega);replace va4:=va4.up aW (by omega);have fQ:=aW.size;have aS:=ae.le;refine LR.an ?_;refine d3 _ _ (CW.s1 (fun ef=>CW.block (fun _ _ eg _=>?_)))
 refine CW.loop (fun(s_:(Nat)×(Value)×(Nat))=>match s_ with|(q,v5,k5)=>[(0,v),(2,.pointer (some ⟨H0.size,0,none⟩)),(3,.pointer (some ⟨H2.size,0,none⟩)),(4,.pointer (some ⟨ad.size,0,none⟩)),(5,v5)])
  (fun(q,v5,k5) (H:Heap)=>(q≤padZ m.length)∧(Ow k5 5 H fB 1 v5 ([]++m++[0x80]++List.replicate q 0))∧(k5=0∨k5=b8∨dN.size<k5)∧Mo (fun c=>c+1=b8) dN H)
  (fun(q,v5,k5)=>padZ m.length-q) (0,ec,b8) ⟨rfl,rfl,rfl,rfl,rfl,trivial⟩ ?_ ?_
 ·
  rw[show[]++m++[(0x80:UInt8)]=[]++m++[0x80]++List.replicate 0 0 by simp]at ae;exact⟨(by omega),ae,(by omega),Mo.refl _ _⟩
 rintro⟨q,v5,k5⟩ eh ei K7 ej ek;obtain⟨hq,ae,fR,aw⟩:=ei;replace hr:=hr.up aw (fun b hb0 hb1 hb2=>by omega);replace hm0:=hm0.trans aw (fun b hb0 hb1=>hb1) (fun b hb0 hb1=>by omega);replace va2:=va2.up aw (by omega);replace va3:=va3.up aw (by omega);replace va4:=va4.up aw (by omega);have el:=aw.size;have aS:=ae.le;have hl5:([]++m++[(0x80:UInt8)]++List.replicate q 0).length=m.length+1+q:=by simp;omega
 have hpz:padZ m.length=(119-m.length%64)%64:=rfl;refine CW.s2 (fun em en=>CW.sr (fun eo=>?_));refine LR.m1 ?_;refine LR.v1 (Y.len ae.rd rfl u'34 rfl) ?_;refine LR.v1 (Y.remi rfl rfl rfl (by omega)) ?_;refine LR.v1 (Y.neq rfl rfl rfl) (LR.nil (eo _ _ ?_));refine CW.condp rfl (fun ep=>?_) (fun ep=>?_)
 ·
  refine CW.skip (em _ _ (CW.block (fun _ b9 _ _=>CW.region ?_)));refine LR.m1 ?_;refine LR.z1 (Z.litw _ ([(0:UInt8)]) rfl inf34 rfl rfl rfl (by decide) (by decide) fB_len fB_one (rfl)) fun fS er es=>?_;obtain⟨bJ,a4,et,b_⟩:=es;have dO:er.size=eh.size+1:=by rw[b_];simp
  replace hm0:=hm0.trans a4 (fun b hb0 hb1=>hb1) (fun b hb0 hb1=>hb1.elim);replace ae:=ae.nw a4
  try replace aw:=aw.trans a4 (fun b hb0 hb1=>hb1) (fun b hb0 hb1=>hb1.elim)
  have eu:=a4.size;have bK:=bJ.le;refine LR.z1 (Z.apnd ae bJ.rd rfl inf34 rfl rfl (by first|omega|(simp;omega)) (by first|omega|(simp;omega))) fun ev fT ew=>?_;obtain⟨ex,bL,ey,bi⟩:=ew;replace hm0:=hm0.trans bi (fun b hb0 hb1=>hb1) (fun b hb0 hb1=>by omega)
  try replace aw:=aw.trans bi (fun b hb0 hb1=>hb1) (fun b hb0 hb1=>by omega)
  have ez:=bi.size;have bM:=bL.le;refine LR.an ?_;refine b9 _ _ ?_;refine QN.sub (ej (q+1,ev,ex) _ ?_ ?_) ⟨rfl,rfl,rfl,rfl,rfl,trivial⟩
  ·exact⟨(by omega),by rw[List.replicate_succ',←List.append_assoc];exact bL,(by omega),aw⟩
  ·first|omega|(simp only;omega)|(simp;omega)
 ·
  obtain rfl:q=padZ m.length:=by omega
  refine CW.exit (en (.exit 0) nofun _ _ (ek (.exit 0) nofun _ _ (eg _ _ ?_)));refine ef _ _ (CW.sr (fun ca=>?_));refine LR.m1 ?_;refine LR.m1 ?_;refine LR.v1 (Y.len hr rfl u'34 rfl) ?_;refine LR.v1 (Y.cast (v2:= .int .i64 ((8*m.length:Nat):Int)) (Y.muli rfl rfl rfl (by omega)) (ivv (by omega))) ?_;refine LR.v1 (Y.conv_u64 rfl u'3 u'151 rfl) ?_;refine LR.call rfl c'97 rfl (Wd.u rfl) rfl rfl (num_ct k5 v5 _ 8 (UInt64.ofNat (8*m.length)) w0 _ ae (by omega) (by omega)) (fun bA aT eA=>?_);obtain⟨eB,k6,rfl,ae,eC,aY⟩:=eA;replace hm0:=hm0.trans aY (fun b hb0 hb1=>hb1) (fun b hb0 hb1=>by omega);replace va2:=va2.up aY (by omega);replace va3:=va3.up aY (by omega);replace va4:=va4.up aY (by omega);have eD:=aY.size;have aS:=ae.le;replace ae:Ow k6 5 aT fB 1 bA (m++padOf m.length):=by simpa[padOf]using ae
  obtain⟨hp64,hpl⟩:=pad_len m;refine LR.an ?_;refine ca _ _ (CW.sr (fun cb=>?_));refine LR.z1 (Z.allocv rfl z'186) ?_;rintro v6 H6 ⟨rfl,va6,bB,fU,eE⟩;have eF:H6.size=aT.size+1:=by rw[eE];simp
  replace hm0:=hm0.trans bB (fun b hb0 hb1=>hb1) (fun b hb0 hb1=>hb1.elim);replace va2:=va2.nw bB;replace va3:=va3.nw bB;replace va4:=va4.nw bB;replace ae:=ae.nw bB;have eG:=bB.size;have aE:=va6.lt;replace va6:Var 186 H6 aT.size ((List.replicate 64 (0:UInt32)).map V32):=va6;refine LR.nil (cb _ _ (CW.s1 (fun cc=>CW.sr (fun cd=>?_))));refine LR.an ?_;refine cd _ _ (CW.block (fun _ _ ce _=>?_))
  refine CW.loop (fun(s_:(Nat)×(S8)×(List UInt32))=>match s_ with|(j,st,w)=>[(2,.pointer (some ⟨H0.size,0,none⟩)),(3,.pointer (some ⟨H2.size,0,none⟩)),(4,.pointer (some ⟨ad.size,0,none⟩)),(5,bA),(6,.pointer (some ⟨aT.size,0,none⟩)),(7,.int .i64 ((64*j:Nat):Int))])
   (fun(j,st,w) (H:Heap)=>(64*j≤(m++padOf m.length).length)∧(run IV ((m++padOf m.length).take (64*j))=(st,[]))∧(w.length=64)∧(Var 187 H ad.size (st.list.map V32))∧(Var 186 H aT.size (w.map V32))∧Mo (fun c=>c=ad.size∨c=aT.size) H6 H)
   (fun(j,st,w)=>(m++padOf m.length).length-64*j) (0,IV,List.replicate 64 0) ⟨rfl,rfl,rfl,rfl,rfl,rfl,trivial⟩ ?_ ?_
  ·
   exact⟨(by omega),by rw[Nat.mul_zero,List.take_zero,run_lt IV [] (by simp)],by simp,va4,va6,Mo.refl _ _⟩
  rintro⟨j,st,w⟩ bC eH fV cf cg;obtain⟨hj,hst,hwl,va4,va6,aa⟩:=eH;replace hm0:=hm0.trans aa (fun b hb0 hb1=>hb1) (fun b hb0 hb1=>by omega);replace va2:=va2.up aa (by omega);replace va3:=va3.up aa (by omega);replace ae:=ae.up aa (fun b hb0 hb1 hb2=>by omega);have eI:=aa.size;have aR:=va4.lt;have aE:=va6.lt;refine CW.s2 (fun ch ci=>CW.sr (fun cj=>?_));refine LR.m1 ?_;refine LR.m1 ?_;refine LR.v1 (Y.len ae.rd rfl u'34 rfl) ?_;refine LR.v1 (Y.lss rfl rfl rfl) (LR.nil (cj _ _ ?_));refine CW.condp rfl (fun eJ=>?_) (fun eJ=>?_)
  ·
   refine CW.skip (ch _ _ (CW.s1 (fun ck=>CW.block (fun _ cl _ _=>CW.s1 (fun cm=>CW.sr (fun cn=>?_))))));refine LR.an ?_;refine cn _ _ (CW.block (fun _ _ co _=>?_))
   refine CW.loop (fun(s_:(Nat)×(List UInt32))=>match s_ with|(i,w)=>[(2,.pointer (some ⟨H0.size,0,none⟩)),(3,.pointer (some ⟨H2.size,0,none⟩)),(4,.pointer (some ⟨ad.size,0,none⟩)),(5,bA),(6,.pointer (some ⟨aT.size,0,none⟩)),(7,.int .i64 ((64*j:Nat):Int)),(8,.int .i64 i)])
    (fun(i,w) (H:Heap)=>(i≤16)∧(w.length=64)∧(w.take i=first16 (((m++padOf m.length).drop (64*j)).take 64) i)∧(Var 186 H aT.size (w.map V32))∧Mo (fun c=>c=aT.size) bC H)
    (fun(i,w)=>16-i) (0,w) ⟨rfl,rfl,rfl,rfl,rfl,rfl,rfl,trivial⟩ ?_ ?_
   ·
    exact⟨(by omega),hwl,by simp[first16],va6,Mo.refl _ _⟩
   rintro⟨i,w⟩ eK eL fW cp cq;obtain⟨hi,hwl,hwt,va6,aF⟩:=eL;replace hm0:=hm0.trans aF (fun b hb0 hb1=>hb1) (fun b hb0 hb1=>by omega);replace va3:=va3.up aF (by omega);replace ae:=ae.up aF (fun b hb0 hb1 hb2=>by omega);replace va4:=va4.up aF (by omega)
   try replace aa:=aa.trans aF (fun b hb0 hb1=>hb1) (fun b hb0 hb1=>by omega)
   have eM:=aF.size;have aE:=va6.lt;refine CW.s2 (fun cr cs=>CW.sr (fun ct=>?_));refine LR.m1 ?_;refine LR.v1 (Y.lss rfl rfl rfl) (LR.nil (ct _ _ ?_));refine CW.condp rfl (fun eN=>?_) (fun eN=>?_)
   ·
    refine CW.skip (cr _ _ (CW.s1 (fun cu=>CW.block (fun _ cv _ _=>?_))));refine CW.region_tail 43 rfl (by kernel_rfl) (fun T14 hT14=>?_);refine LR.m1 ?_;refine LR.m1 ?_;refine LR.m1 ?_;refine LR.m1 ?_;refine LR.v1 (Y.muli rfl rfl rfl (by omega)) ?_;refine LR.v1 (Y.addi rfl rfl rfl (by omega)) ?_;refine LR.v1 (Y.owAddr ae (64*j+(4*i+0)) rfl u'34 s'5 rfl rfl (by first|rfl|omega) (by first|omega|(simp;omega)|(simp;done))) ?_;refine LR.v1 (Y.cast (v2:= .int .u8 ((((m++padOf m.length).drop (64*j)).take 64).getD (4*i+0) 0).toNat) (Y.load1 (ae.pt (j:=64*j+(4*i+0)) (by first|omega|(simp;omega)|(simp;done))) rfl a'5 rfl) (by rw[←blk_get (m++padOf m.length) j (4*i+0) (by omega) (by omega) _ rfl (by omega)])) ?_;refine LR.v1 (Y.conv_u32 rfl u'5 u'185 rfl) ?_;refine LR.v1 (Y.shl_u32 (24) rfl rfl rfl (by first|rfl|omega) (by omega)) ?_;refine LR.m1 ?_;refine LR.m1 ?_;refine LR.m1 ?_;refine LR.v1 (Y.muli rfl rfl rfl (by omega)) ?_;refine LR.v1 (Y.addi rfl rfl rfl (by omega)) ?_;refine LR.v1 (Y.addi rfl rfl rfl (by omega)) ?_;refine LR.v1 (Y.owAddr ae (64*j+(4*i+1)) rfl u'34 s'5 rfl rfl (by first|rfl|omega) (by first|omega|(simp;omega)|(simp;done))) ?_;refine LR.v1 (Y.cast (v2:= .int .u8 ((((m++padOf m.length).drop (64*j)).take 64).getD (4*i+1) 0).toNat) (Y.load1 (ae.pt (j:=64*j+(4*i+1)) (by first|omega|(simp;omega)|(simp;done))) rfl a'5 rfl) (by rw[←blk_get (m++padOf m.length) j (4*i+1) (by omega) (by omega) _ rfl (by omega)])) ?_;refine LR.v1 (Y.conv_u32 rfl u'5 u'185 rfl) ?_;refine LR.v1 (Y.shl_u32 (16) rfl rfl rfl (by first|rfl|omega) (by omega)) ?_;refine LR.v1 (Y.or_u32 rfl rfl rfl) ?_;refine LR.m1 ?_;refine LR.m1 ?_;refine LR.m1 ?_;refine LR.v1 (Y.muli rfl rfl rfl (by omega)) ?_;refine LR.v1 (Y.addi rfl rfl rfl (by omega)) ?_;refine LR.v1 (Y.addi rfl rfl rfl (by omega)) ?_;refine LR.v1 (Y.owAddr ae (64*j+(4*i+2)) rfl u'34 s'5 rfl rfl (by first|rfl|omega) (by first|omega|(simp;omega)|(simp;done))) ?_;refine LR.v1 (Y.cast (v2:= .int .u8 ((((m++padOf m.length).drop (64*j)).take 64).getD (4*i+2) 0).toNat) (Y.load1 (ae.pt (j:=64*j+(4*i+2)) (by first|omega|(simp;omega)|(simp;done))) rfl a'5 rfl) (by rw[←blk_get (m++padOf m.length) j (4*i+2) (by omega) (by omega) _ rfl (by omega)])) ?_;refine LR.v1 (Y.conv_u32 rfl u'5 u'185 rfl) ?_;refine LR.v1 (Y.shl_u32 (8) rfl rfl rfl (by first|rfl|omega) (by omega)) ?_;refine LR.v1 (Y.or_u32 rfl rfl rfl) ?_;refine LR.m1 ?_;refine LR.m1 ?_;refine LR.m1 ?_;refine LR.v1 (Y.muli rfl rfl rfl (by omega)) ?_;refine LR.v1 (Y.addi rfl rfl rfl (by omega)) ?_;refine LR.v1 (Y.addi rfl rfl rfl (by omega)) ?_;refine LR.v1 (Y.owAddr ae (64*j+(4*i+3)) rfl u'34 s'5 rfl rfl (by first|rfl|omega) (by first|omega|(simp;omega)|(simp;done))) ?_;refine LR.v1 (Y.cast (v2:= .int .u8 ((((m++padOf m.length).drop (64*j)).take 64).getD (4*i+3) 0).toNat) (Y.load1 (ae.pt (j:=64*j+(4*i+3)) (by first|omega|(simp;omega)|(simp;done))) rfl a'5 rfl) (by rw[←blk_get (m++padOf m.length) j (4*i+3) (by omega) (by omega) _ rfl (by omega)])) ?_;refine LR.v1 (Y.conv_u32 rfl u'5 u'185 rfl) ?_;refine LR.v1 (Y.or_u32 rfl rfl rfl) ?_;refine LR.v1 (Y.arrAddr va6.pt (i) rfl u'186 s'185 rfl rfl (by omega) (by first|omega|(simp;omega)|(simp;done))) ?_;refine LR.nil (hT14 _ ?_);refine LR.s1 (S.var1 va6 (0+(i)) (_) rfl rfl rfl (rfl) s'185 (by simp;omega) (map_set w i _)) fun cw bj=>?_;obtain⟨va6,aj⟩:=bj;replace hm0:=hm0.trans aj (fun b hb0 hb1=>hb1) (fun b hb0 hb1=>by omega)
    try replace aa:=aa.trans aj (fun b hb0 hb1=>hb1) (fun b hb0 hb1=>by omega)
    try replace aF:=aF.trans aj (fun b hb0 hb1=>hb1) (fun b hb0 hb1=>by omega)
    have eO:=aj.size;refine LR.nil (cv _ _ (cu _ _ (CW.region ?_)));refine LR.m1 ?_;refine LR.v1 (Y.addi rfl rfl rfl (by omega)) ?_;refine LR.an ?_;refine QN.sub (cp (i+1,w.set i (word4 ((((m++padOf m.length).drop (64*j)).take 64).getD (4*i) 0) ((((m++padOf m.length).drop (64*j)).take 64).getD (4*i+1) 0) ((((m++padOf m.length).drop (64*j)).take 64).getD (4*i+2) 0) ((((m++padOf m.length).drop (64*j)).take 64).getD (4*i+3) 0))) _ ?_ ?_) ⟨rfl,rfl,rfl,rfl,rfl,(iv (by omega)),(iv (by omega)),trivial⟩
    ·exact⟨(by omega),by simp[hwl],by rw[take_set_succ _ _ _ (by omega),first16_succ,hwt],va6,aF⟩
    ·first|omega|(simp only;omega)|(simp;omega)
   ·
    obtain rfl:i=16:=by omega
    refine CW.exit (cs (.exit 4) nofun _ _ (cq (.exit 4) nofun _ _ (co _ _ ?_)));refine cm _ _ (CW.s1 (fun cx=>CW.sr (fun cy=>?_)));refine LR.an ?_;refine cy _ _ (CW.block (fun _ _ cz _=>?_))
    refine CW.loop (fun(s_:(Nat)×(List UInt32))=>match s_ with|(i,w)=>[(2,.pointer (some ⟨H0.size,0,none⟩)),(3,.pointer (some ⟨H2.size,0,none⟩)),(4,.pointer (some ⟨ad.size,0,none⟩)),(5,bA),(6,.pointer (some ⟨aT.size,0,none⟩)),(7,.int .i64 ((64*j:Nat):Int)),(9,.int .i64 i)])
     (fun(i,w) (H:Heap)=>(16≤i)∧(i≤64)∧(w.length=64)∧(w.take i=schedL (first16 (((m++padOf m.length).drop (64*j)).take 64) 16) (i-16))∧(Var 186 H aT.size (w.map V32))∧Mo (fun c=>c=aT.size) eK H)
     (fun(i,w)=>64-i) (16,w) ⟨rfl,rfl,rfl,rfl,rfl,rfl,rfl,trivial⟩ ?_ ?_
    ·
     exact⟨(by omega),(by omega),hwl,hwt,va6,Mo.refl _ _⟩
    rintro⟨i,w⟩ a8 eP fX cA cB;obtain⟨hi0,hi,hwl,hwt,va6,ac⟩:=eP;replace hm0:=hm0.trans ac (fun b hb0 hb1=>hb1) (fun b hb0 hb1=>by omega);replace va3:=va3.up ac (by omega);replace va4:=va4.up ac (by omega)
    try replace aa:=aa.trans ac (fun b hb0 hb1=>hb1) (fun b hb0 hb1=>by omega)
    have eQ:=ac.size;have aE:=va6.lt;refine CW.s2 (fun cC cD=>CW.sr (fun cE=>?_));refine LR.m1 ?_;refine LR.v1 (Y.lss rfl rfl rfl) (LR.nil (cE _ _ ?_));refine CW.condp rfl (fun eR=>?_) (fun eR=>?_)
    ·
     refine CW.skip (cC _ _ (CW.s1 (fun cF=>CW.block (fun _ cG _ _=>CW.s1 (fun cH=>?_)))));refine CW.region_any (fun Hq=>Nw a8 Hq) [] rfl ?_;have hqs:=Nw.refl a8;refine LH.m1 0 rfl hqs ?_;refine LH.t1 1 rfl (fun Hq hq=>Y.subi rfl rfl rfl (by omega)) hqs ?_;refine LH.t1 2 rfl (fun Hq hq=>Y.arrAddr (va6.pt.nw hq) (i-15) rfl u'186 s'185 rfl rfl (by omega) (by first|omega|(simp;omega)|(simp;done))) hqs ?_;refine LH.t1 3 rfl (fun Hq hq=>Y.load1 ((va6.pt.at (i-15) (map_get w (i-15) (by omega))).nw hq) rfl a'185 rfl) hqs ?_;refine LH.m1 5 rfl hqs ?_;refine LH.t1 6 rfl (fun Hq hq=>Y.subi rfl rfl rfl (by omega)) hqs ?_;refine LH.t1 7 rfl (fun Hq hq=>Y.arrAddr (va6.pt.nw hq) (i-15) rfl u'186 s'185 rfl rfl (by omega) (by first|omega|(simp;omega)|(simp;done))) hqs ?_;refine LH.t1 8 rfl (fun Hq hq=>Y.load1 ((va6.pt.at (i-15) (map_get w (i-15) (by omega))).nw hq) rfl a'185 rfl) hqs ?_;refine LH.m1 11 rfl hqs ?_;refine LH.t1 12 rfl (fun Hq hq=>Y.subi rfl rfl rfl (by omega)) hqs ?_;refine LH.t1 13 rfl (fun Hq hq=>Y.arrAddr (va6.pt.nw hq) (i-15) rfl u'186 s'185 rfl rfl (by omega) (by first|omega|(simp;omega)|(simp;done))) hqs ?_;refine LH.t1 14 rfl (fun Hq hq=>Y.load1 ((va6.pt.at (i-15) (map_get w (i-15) (by omega))).nw hq) rfl a'185 rfl) hqs ?_;refine LH.t1 15 rfl (fun Hq hq=>Y.shr_u32 (3) rfl rfl rfl (by first|rfl|omega) (by omega)) hqs ?_;refine LH.o1 4 ?_;refine LO.call rfl rfl c'121 rfl (Wd.u rfl) rfl rfl (rturn_nw _ 7 w0 _ (by omega) (by omega)) (fun eS bN cI=>?_);obtain⟨rfl,ax⟩:=cI;replace hm0:=hm0.trans ax (fun b hb0 hb1=>hb1) (fun b hb0 hb1=>hb1.elim)
     try replace aa:=aa.trans ax (fun b hb0 hb1=>hb1) (fun b hb0 hb1=>hb1.elim)
     replace va6:=va6.nw ax
     try replace ac:=ac.trans ax (fun b hb0 hb1=>hb1) (fun b hb0 hb1=>hb1.elim)
     have eT:=ax.size;have a9:=hqs.tr ax;refine⟨.inr a9,LH.narrow (SH2:=fun Hq=>Nw bN Hq) (fun Hq hq=>a9.tr hq) ?_⟩;have bk:=Nw.refl bN;refine LH.o1 9 ?_;refine LO.call rfl rfl c'121 rfl (Wd.u rfl) rfl rfl (rturn_nw _ 18 w0 _ (by omega) (by omega)) (fun eU a5 cJ=>?_);obtain⟨rfl,ay⟩:=cJ;replace hm0:=hm0.trans ay (fun b hb0 hb1=>hb1) (fun b hb0 hb1=>hb1.elim)
     try replace aa:=aa.trans ay (fun b hb0 hb1=>hb1) (fun b hb0 hb1=>hb1.elim)
     replace va6:=va6.nw ay
     try replace ac:=ac.trans ay (fun b hb0 hb1=>hb1) (fun b hb0 hb1=>hb1.elim)
     have eV:=ay.size;have a_:=bk.tr ay;refine⟨.inr a_,LH.narrow (SH2:=fun Hq=>Nw a5 Hq) (fun Hq hq=>a_.tr hq) ?_⟩;have aG:=Nw.refl a5;refine LH.t1 10 rfl (fun Hq hq=>Y.xor_u32 rfl rfl rfl) aG ?_;refine LH.t1 16 rfl (fun Hq hq=>Y.xor_u32 rfl rfl rfl) aG ?_;refine LH.t1 17 rfl (fun Hq hq=>Y.assign rfl rfl) aG ?_;refine LH.done (by kernel_rfl) ?_;have hqe:=aG;refine cH _ _ (CW.s1 (fun cK=>?_));refine CW.region_any (fun Hq=>Nw a5 Hq) [] rfl ?_;have hqs:=Nw.refl a5;refine LH.m1 0 rfl hqs ?_;refine LH.t1 1 rfl (fun Hq hq=>Y.subi rfl rfl rfl (by omega)) hqs ?_;refine LH.t1 2 rfl (fun Hq hq=>Y.arrAddr (va6.pt.nw hq) (i-2) rfl u'186 s'185 rfl rfl (by omega) (by first|omega|(simp;omega)|(simp;done))) hqs ?_;refine LH.t1 3 rfl (fun Hq hq=>Y.load1 ((va6.pt.at (i-2) (map_get w (i-2) (by omega))).nw hq) rfl a'185 rfl) hqs ?_;refine LH.m1 5 rfl hqs ?_;refine LH.t1 6 rfl (fun Hq hq=>Y.subi rfl rfl rfl (by omega)) hqs ?_;refine LH.t1 7 rfl (fun Hq hq=>Y.arrAddr (va6.pt.nw hq) (i-2) rfl u'186 s'185 rfl rfl (by omega) (by first|omega|(simp;omega)|(simp;done))) hqs ?_;refine LH.t1 8 rfl (fun Hq hq=>Y.load1 ((va6.pt.at (i-2) (map_get w (i-2) (by omega))).nw hq) rfl a'185 rfl) hqs ?_;refine LH.m1 11 rfl hqs ?_;refine LH.t1 12 rfl (fun Hq hq=>Y.subi rfl rfl rfl (by omega)) hqs ?_;refine LH.t1 13 rfl (fun Hq hq=>Y.arrAddr (va6.pt.nw hq) (i-2) rfl u'186 s'185 rfl rfl (by omega) (by first|omega|(simp;omega)|(simp;done))) hqs ?_;refine LH.t1 14 rfl (fun Hq hq=>Y.load1 ((va6.pt.at (i-2) (map_get w (i-2) (by omega))).nw hq) rfl a'185 rfl) hqs ?_;refine LH.t1 15 rfl (fun Hq hq=>Y.shr_u32 (10) rfl rfl rfl (by first|rfl|omega) (by omega)) hqs ?_;refine LH.o1 4 ?_;refine LO.call rfl rfl c'121 rfl (Wd.u rfl) rfl rfl (rturn_nw _ 17 w0 _ (by omega) (by omega)) (fun eW bO cL=>?_);obtain⟨rfl,az⟩:=cL;replace hm0:=hm0.trans az (fun b hb0 hb1=>hb1) (fun b hb0 hb1=>hb1.elim)
     try replace aa:=aa.trans az (fun b hb0 hb1=>hb1) (fun b hb0 hb1=>hb1.elim)
     replace va6:=va6.nw az
     try replace ac:=ac.trans az (fun b hb0 hb1=>hb1) (fun b hb0 hb1=>hb1.elim)
     have eX:=az.size;have ba:=hqs.tr az;refine⟨.inr ba,LH.narrow (SH2:=fun Hq=>Nw bO Hq) (fun Hq hq=>ba.tr hq) ?_⟩;have bl:=Nw.refl bO;refine LH.o1 9 ?_;refine LO.call rfl rfl c'121 rfl (Wd.u rfl) rfl rfl (rturn_nw _ 19 w0 _ (by omega) (by omega)) (fun eY bP cM=>?_);obtain⟨rfl,aA⟩:=cM;replace hm0:=hm0.trans aA (fun b hb0 hb1=>hb1) (fun b hb0 hb1=>hb1.elim)
     try replace aa:=aa.trans aA (fun b hb0 hb1=>hb1) (fun b hb0 hb1=>hb1.elim)
     replace va6:=va6.nw aA
     try replace ac:=ac.trans aA (fun b hb0 hb1=>hb1) (fun b hb0 hb1=>hb1.elim)
     have eZ:=aA.size;have bb:=bl.tr aA;refine⟨.inr bb,LH.narrow (SH2:=fun Hq=>Nw bP Hq) (fun Hq hq=>bb.tr hq) ?_⟩;have aH:=Nw.refl bP;refine LH.t1 10 rfl (fun Hq hq=>Y.xor_u32 rfl rfl rfl) aH ?_;refine LH.t1 16 rfl (fun Hq hq=>Y.xor_u32 rfl rfl rfl) aH ?_;refine LH.t1 17 rfl (fun Hq hq=>Y.assign rfl rfl) aH ?_;refine LH.done (by kernel_rfl) ?_;have hqe:=aH;refine cK _ _ ?_;refine CW.region_tail 15 rfl (by kernel_rfl) (fun T20 hT20=>?_);refine LR.m1 ?_;refine LR.m1 ?_;refine LR.v1 (Y.subi rfl rfl rfl (by omega)) ?_;refine LR.v1 (Y.arrAddr va6.pt (i-16) rfl u'186 s'185 rfl rfl (by omega) (by first|omega|(simp;omega)|(simp;done))) ?_;refine LR.v1 (Y.load1 (va6.pt.at (i-16) (map_get w (i-16) (by omega))) rfl a'185 rfl) ?_;refine LR.m1 ?_;refine LR.v1 (Y.add_u32 rfl rfl rfl) ?_;refine LR.m1 ?_;refine LR.v1 (Y.subi rfl rfl rfl (by omega)) ?_;refine LR.v1 (Y.arrAddr va6.pt (i-7) rfl u'186 s'185 rfl rfl (by omega) (by first|omega|(simp;omega)|(simp;done))) ?_;refine LR.v1 (Y.load1 (va6.pt.at (i-7) (map_get w (i-7) (by omega))) rfl a'185 rfl) ?_;refine LR.v1 (Y.add_u32 rfl rfl rfl) ?_;refine LR.m1 ?_;refine LR.v1 (Y.add_u32 rfl rfl rfl) ?_;refine LR.v1 (Y.arrAddr va6.pt (i) rfl u'186 s'185 rfl rfl (by omega) (by first|omega|(simp;omega)|(simp;done))) ?_;refine LR.nil (hT20 _ ?_);refine LR.s1 (S.var1 va6 (0+(i)) (_) rfl rfl rfl (rfl) s'185 (by simp;omega) (map_set w i _)) fun cN bm=>?_;obtain⟨va6,ak⟩:=bm;replace hm0:=hm0.trans ak (fun b hb0 hb1=>hb1) (fun b hb0 hb1=>by omega)
     try replace aa:=aa.trans ak (fun b hb0 hb1=>hb1) (fun b hb0 hb1=>by omega)
     try replace ac:=ac.trans ak (fun b hb0 hb1=>hb1) (fun b hb0 hb1=>by omega)
     have e0:=ak.size;refine LR.nil (cG _ _ (cF _ _ (CW.region ?_)));refine LR.m1 ?_;refine LR.v1 (Y.addi rfl rfl rfl (by omega)) ?_;refine LR.an ?_;refine QN.sub (cA (i+1,w.set i (nxt w i)) _ ?_ ?_) ⟨rfl,rfl,rfl,rfl,rfl,(iv (by omega)),(iv (by omega)),trivial⟩
     ·exact⟨(by omega),(by omega),by simp[hwl],by rw[take_set_succ _ _ _ (by omega),hwt,show i+1-16=(i-16)+1 by omega,schedL,←hwt,grow_take w i hi0 (by omega)],va6,ac⟩
     ·first|omega|(simp only;omega)|(simp;omega)
    ·
     obtain rfl:i=64:=by omega
     rw[List.take_of_length_le (by omega)]at hwt;refine CW.exit (cD (.exit 6) nofun _ _ (cB (.exit 6) nofun _ _ (cz _ _ ?_)));refine cx _ _ (CW.sr (fun cO=>?_));refine LR.v1 (Y.loadN va4.pt rfl a'187 s'187 (rfl) rfl) ?_;refine LR.z1 (Z.allocv rfl z'187) fun fY dP e1=>?_;obtain⟨rfl,va12,aX,e2,cP⟩:=e1;have dQ:dP.size=a8.size+1:=by rw[cP];simp
     replace hm0:=hm0.trans aX (fun b hb0 hb1=>hb1) (fun b hb0 hb1=>hb1.elim);replace va3:=va3.nw aX;replace va4:=va4.nw aX
     try replace aa:=aa.trans aX (fun b hb0 hb1=>hb1) (fun b hb0 hb1=>hb1.elim)
     replace va6:=va6.nw aX;have e3:=aX.size;have aZ:=va12.lt;replace va12:Var 187 dP a8.size (List.replicate 8 (V32 0)):=va12;refine LR.s1 (S.var va12 (st.list.map V32) (st.list.map V32) rfl rfl rfl rfl (by intro u hu;obtain⟨x,_,rfl⟩:=List.mem_map.1 hu;rfl) s'187 (rfl) (Nat.le_of_ble_eq_true rfl) (by rfl)) fun bQ bR=>?_;obtain⟨va12,af⟩:=bR;replace hm0:=hm0.trans af (fun b hb0 hb1=>hb1) (fun b hb0 hb1=>by omega);replace va3:=va3.up af (by omega);replace va4:=va4.up af (by omega)
     try replace aa:=aa.trans af (fun b hb0 hb1=>hb1) (fun b hb0 hb1=>by omega)
     replace va6:=va6.up af (by omega);have e4:=af.size;refine LR.nil (cO _ _ (CW.s1 (fun cQ=>CW.sr (fun cR=>?_))));refine LR.an ?_;refine cR _ _ (CW.block (fun _ _ cS _=>?_))
     refine CW.loop (fun(s_:(Nat)×(S8))=>match s_ with|(i,q)=>[(2,.pointer (some ⟨H0.size,0,none⟩)),(3,.pointer (some ⟨H2.size,0,none⟩)),(4,.pointer (some ⟨ad.size,0,none⟩)),(5,bA),(6,.pointer (some ⟨aT.size,0,none⟩)),(7,.int .i64 ((64*j:Nat):Int)),(12,.pointer (some ⟨a8.size,0,none⟩)),(13,.int .i64 i)])
      (fun(i,q) (H:Heap)=>(i≤64)∧(q=rndN st w i)∧(Var 187 H a8.size (q.list.map V32))∧Mo (fun c=>c=a8.size) bQ H)
      (fun(i,q)=>64-i) (0,st) ⟨rfl,rfl,rfl,rfl,rfl,rfl,rfl,rfl,trivial⟩ ?_ ?_
     ·
      exact⟨(by omega),rfl,va12,Mo.refl _ _⟩
     rintro⟨i,q⟩ cT e5 fZ cU cV;obtain⟨hi,hq,va12,ab⟩:=e5;replace hm0:=hm0.trans ab (fun b hb0 hb1=>hb1) (fun b hb0 hb1=>by omega);replace va3:=va3.up ab (by omega);replace va4:=va4.up ab (by omega)
     try replace aa:=aa.trans ab (fun b hb0 hb1=>hb1) (fun b hb0 hb1=>by omega)
     replace va6:=va6.up ab (by omega);have e6:=ab.size;have aZ:=va12.lt;refine CW.s2 (fun cW cX=>CW.sr (fun cY=>?_));refine LR.m1 ?_;refine LR.v1 (Y.lss rfl rfl rfl) (LR.nil (cY _ _ ?_));refine CW.condp rfl (fun cZ=>?_) (fun cZ=>?_)
     ·
      refine CW.skip (cW _ _ (CW.s1 (fun c0=>CW.block (fun _ c1 _ _=>CW.s1 (fun c2=>?_)))));refine CW.region_any (fun Hq=>Nw cT Hq) [] rfl ?_;have hqs:=Nw.refl cT;refine LH.t1 0 rfl (fun Hq hq=>Y.arrAddr (va12.pt.nw hq) (4) rfl u'187 s'185 rfl rfl (by first|rfl|omega) (by first|omega|(simp;omega)|(simp;done))) hqs ?_;refine LH.t1 1 rfl (fun Hq hq=>Y.load1 ((va12.pt.drop 4).nw hq) rfl a'185 rfl) hqs ?_;refine LH.t1 3 rfl (fun Hq hq=>Y.arrAddr (va12.pt.nw hq) (4) rfl u'187 s'185 rfl rfl (by first|rfl|omega) (by first|omega|(simp;omega)|(simp;done))) hqs ?_;refine LH.t1 4 rfl (fun Hq hq=>Y.load1 ((va12.pt.drop 4).nw hq) rfl a'185 rfl) hqs ?_;refine LH.t1 7 rfl (fun Hq hq=>Y.arrAddr (va12.pt.nw hq) (4) rfl u'187 s'185 rfl rfl (by first|rfl|omega) (by first|omega|(simp;omega)|(simp;done))) hqs ?_;refine LH.t1 8 rfl (fun Hq hq=>Y.load1 ((va12.pt.drop 4).nw hq) rfl a'185 rfl) hqs ?_;refine LH.o1 2 ?_;refine LO.call rfl rfl c'121 rfl (Wd.u rfl) rfl rfl (rturn_nw _ 6 w0 _ (by omega) (by omega)) (fun e7 bS c3=>?_);obtain⟨rfl,ag⟩:=c3;replace hm0:=hm0.trans ag (fun b hb0 hb1=>hb1) (fun b hb0 hb1=>hb1.elim);replace va3:=va3.nw ag
      try replace aa:=aa.trans ag (fun b hb0 hb1=>hb1) (fun b hb0 hb1=>hb1.elim)
      replace va6:=va6.nw ag;replace va12:=va12.nw ag
      try replace ab:=ab.trans ag (fun b hb0 hb1=>hb1) (fun b hb0 hb1=>hb1.elim)
      have e8:=ag.size;have bc:=hqs.tr ag;refine⟨.inr bc,LH.narrow (SH2:=fun Hq=>Nw bS Hq) (fun Hq hq=>bc.tr hq) ?_⟩;have bn:=Nw.refl bS;refine LH.o1 5 ?_;refine LO.call rfl rfl c'121 rfl (Wd.u rfl) rfl rfl (rturn_nw _ 11 w0 _ (by omega) (by omega)) (fun e9 bT c4=>?_);obtain⟨rfl,ah⟩:=c4;replace hm0:=hm0.trans ah (fun b hb0 hb1=>hb1) (fun b hb0 hb1=>hb1.elim);replace va3:=va3.nw ah
      try replace aa:=aa.trans ah (fun b hb0 hb1=>hb1) (fun b hb0 hb1=>hb1.elim)
      replace va6:=va6.nw ah;replace va12:=va12.nw ah
      try replace ab:=ab.trans ah (fun b hb0 hb1=>hb1) (fun b hb0 hb1=>hb1.elim)
      have e_:=ah.size;have bd:=bn.tr ah;refine⟨.inr bd,LH.narrow (SH2:=fun Hq=>Nw bT Hq) (fun Hq hq=>bd.tr hq) ?_⟩;have a0:=Nw.refl bT;refine LH.t1 6 rfl (fun Hq hq=>Y.xor_u32 rfl rfl rfl) a0 ?_;refine LH.o1 9 ?_;refine LO.call rfl rfl c'121 rfl (Wd.u rfl) rfl rfl (rturn_nw _ 25 w0 _ (by omega) (by omega)) (fun fa a6 c5=>?_);obtain⟨rfl,ai⟩:=c5;replace hm0:=hm0.trans ai (fun b hb0 hb1=>hb1) (fun b hb0 hb1=>hb1.elim);replace va3:=va3.nw ai
      try replace aa:=aa.trans ai (fun b hb0 hb1=>hb1) (fun b hb0 hb1=>hb1.elim)
      replace va6:=va6.nw ai;replace va12:=va12.nw ai
      try replace ab:=ab.trans ai (fun b hb0 hb1=>hb1) (fun b hb0 hb1=>hb1.elim)
      have fb:=ai.size;have be:=a0.tr ai;refine⟨.inr be,LH.narrow (SH2:=fun Hq=>Nw a6 Hq) (fun Hq hq=>be.tr hq) ?_⟩;have aN:=Nw.refl a6;refine LH.t1 10 rfl (fun Hq hq=>Y.xor_u32 rfl rfl rfl) aN ?_;refine LH.t1 11 rfl (fun Hq hq=>Y.assign rfl rfl) aN ?_;refine LH.done (by kernel_rfl) ?_;have hqe:=aN;refine c2 _ _ (CW.sr (fun c6=>?_));refine LR.v1 (Y.arrAddr va12.pt (4) rfl u'187 s'185 rfl rfl (by first|rfl|omega) (by first|omega|(simp;omega)|(simp;done))) ?_;refine LR.v1 (Y.load1 (va12.pt.drop 4) rfl a'185 rfl) ?_;refine LR.v1 (Y.arrAddr va12.pt (5) rfl u'187 s'185 rfl rfl (by first|rfl|omega) (by first|omega|(simp;omega)|(simp;done))) ?_;refine LR.v1 (Y.load1 (va12.pt.drop 5) rfl a'185 rfl) ?_;refine LR.v1 (Y.and_u32 rfl rfl rfl) ?_;refine LR.v1 (Y.arrAddr va12.pt (4) rfl u'187 s'185 rfl rfl (by first|rfl|omega) (by first|omega|(simp;omega)|(simp;done))) ?_;refine LR.v1 (Y.load1 (va12.pt.drop 4) rfl a'185 rfl) ?_;refine LR.v1 (Y.not_u32 rfl rfl) ?_;refine LR.v1 (Y.arrAddr va12.pt (6) rfl u'187 s'185 rfl rfl (by first|rfl|omega) (by first|omega|(simp;omega)|(simp;done))) ?_;refine LR.v1 (Y.load1 (va12.pt.drop 6) rfl a'185 rfl) ?_;refine LR.v1 (Y.and_u32 rfl rfl rfl) ?_;refine LR.v1 (Y.xor_u32 rfl rfl rfl) ?_;refine LR.an ?_;refine c6 _ _ (CW.s1 (fun c7=>?_));refine CW.region_draw rfl (by kernel_rfl) ?_;refine LR.v1 (Y.arrAddr va12.pt (7) rfl u'187 s'185 rfl rfl (by first|rfl|omega) (by first|omega|(simp;omega)|(simp;done))) ?_;refine LR.v1 (Y.load1 (va12.pt.drop 7) rfl a'185 rfl) ?_;refine LR.m1 ?_;refine LR.v1 (Y.add_u32 rfl rfl rfl) ?_;refine LR.m1 ?_;refine LR.v1 (Y.add_u32 rfl rfl rfl) ?_;refine LR.m1 ?_;refine LR.v1 (Y.arrAddr va3.pt (i) rfl u'186 s'185 rfl rfl (by first|rfl|omega) (by first|omega|(simp;omega)|(simp;done))) ?_;refine LR.v1 (Y.load1 (va3.pt.at (i) (map_get KS i (by simp[KS];omega))) rfl a'185 rfl) ?_;refine LR.v1 (Y.add_u32 rfl rfl rfl) ?_;refine LR.m1 ?_;refine LR.v1 (Y.arrAddr va6.pt (i) rfl u'186 s'185 rfl rfl (by omega) (by first|omega|(simp;omega)|(simp;done))) ?_;refine LR.v1 (Y.load1 (va6.pt.at (i) (map_get w (i) (by omega))) rfl a'185 rfl) ?_;refine LR.v1 (Y.add_u32 rfl rfl rfl) ?_;refine LR.an ?_;refine c7 _ _ (CW.s1 (fun c8=>?_));refine CW.region_any (fun Hq=>Nw a6 Hq) [] rfl ?_;have hqs:=Nw.refl a6;refine LH.t1 0 rfl (fun Hq hq=>Y.arrAddr (va12.pt.nw hq) (0) rfl u'187 s'185 rfl rfl (by first|rfl|omega) (by first|omega|(simp;omega)|(simp;done))) hqs ?_;refine LH.t1 1 rfl (fun Hq hq=>Y.load1 (va12.pt.nw hq) rfl a'185 rfl) hqs ?_;refine LH.t1 3 rfl (fun Hq hq=>Y.arrAddr (va12.pt.nw hq) (0) rfl u'187 s'185 rfl rfl (by first|rfl|omega) (by first|omega|(simp;omega)|(simp;done))) hqs ?_;refine LH.t1 4 rfl (fun Hq hq=>Y.load1 (va12.pt.nw hq) rfl a'185 rfl) hqs ?_;refine LH.t1 7 rfl (fun Hq hq=>Y.arrAddr (va12.pt.nw hq) (0) rfl u'187 s'185 rfl rfl (by first|rfl|omega) (by first|omega|(simp;omega)|(simp;done))) hqs ?_;refine LH.t1 8 rfl (fun Hq hq=>Y.load1 (va12.pt.nw hq) rfl a'185 rfl) hqs ?_;refine LH.o1 2 ?_;refine LO.call rfl rfl c'121 rfl (Wd.u rfl) rfl rfl (rturn_nw _ 2 w0 _ (by omega) (by omega)) (fun fc bU c9=>?_);obtain⟨rfl,aB⟩:=c9;replace hm0:=hm0.trans aB (fun b hb0 hb1=>hb1) (fun b hb0 hb1=>hb1.elim)
      try replace aa:=aa.trans aB (fun b hb0 hb1=>hb1) (fun b hb0 hb1=>hb1.elim)
      replace va12:=va12.nw aB
      try replace ab:=ab.trans aB (fun b hb0 hb1=>hb1) (fun b hb0 hb1=>hb1.elim)
      have fd:=aB.size;have bf:=hqs.tr aB;refine⟨.inr bf,LH.narrow (SH2:=fun Hq=>Nw bU Hq) (fun Hq hq=>bf.tr hq) ?_⟩;have bo:=Nw.refl bU;refine LH.o1 5 ?_;refine LO.call rfl rfl c'121 rfl (Wd.u rfl) rfl rfl (rturn_nw _ 13 w0 _ (by omega) (by omega)) (fun fe bV c_=>?_);obtain⟨rfl,aC⟩:=c_;replace hm0:=hm0.trans aC (fun b hb0 hb1=>hb1) (fun b hb0 hb1=>hb1.elim)
      try replace aa:=aa.trans aC (fun b hb0 hb1=>hb1) (fun b hb0 hb1=>hb1.elim)
      replace va12:=va12.nw aC
      try replace ab:=ab.trans aC (fun b hb0 hb1=>hb1) (fun b hb0 hb1=>hb1.elim)
      have ff:=aC.size;have bg:=bo.tr aC;refine⟨.inr bg,LH.narrow (SH2:=fun Hq=>Nw bV Hq) (fun Hq hq=>bg.tr hq) ?_⟩;have a1:=Nw.refl bV;refine LH.t1 6 rfl (fun Hq hq=>Y.xor_u32 rfl rfl rfl) a1 ?_;refine LH.o1 9 ?_;refine LO.call rfl rfl c'121 rfl (Wd.u rfl) rfl rfl (rturn_nw _ 22 w0 _ (by omega) (by omega)) (fun fg bW da=>?_);obtain⟨rfl,aD⟩:=da;replace hm0:=hm0.trans aD (fun b hb0 hb1=>hb1) (fun b hb0 hb1=>hb1.elim)
      try replace aa:=aa.trans aD (fun b hb0 hb1=>hb1) (fun b hb0 hb1=>hb1.elim)
      replace va12:=va12.nw aD
      try replace ab:=ab.trans aD (fun b hb0 hb1=>hb1) (fun b hb0 hb1=>hb1.elim)
      have fh:=aD.size;have bh:=a1.tr aD;refine⟨.inr bh,LH.narrow (SH2:=fun Hq=>Nw bW Hq) (fun Hq hq=>bh.tr hq) ?_⟩;have aO:=Nw.refl bW;refine LH.t1 10 rfl (fun Hq hq=>Y.xor_u32 rfl rfl rfl) aO ?_;refine LH.t1 11 rfl (fun Hq hq=>Y.assign rfl rfl) aO ?_;refine LH.done (by kernel_rfl) ?_;have hqe:=aO;refine c8 _ _ (CW.sr (fun db=>?_));refine LR.v1 (Y.arrAddr va12.pt (0) rfl u'187 s'185 rfl rfl (by first|rfl|omega) (by first|omega|(simp;omega)|(simp;done))) ?_;refine LR.v1 (Y.load1 va12.pt rfl a'185 rfl) ?_;refine LR.v1 (Y.arrAddr va12.pt (1) rfl u'187 s'185 rfl rfl (by first|rfl|omega) (by first|omega|(simp;omega)|(simp;done))) ?_;refine LR.v1 (Y.load1 (va12.pt.drop 1) rfl a'185 rfl) ?_;refine LR.v1 (Y.and_u32 rfl rfl rfl) ?_;refine LR.v1 (Y.arrAddr va12.pt (0) rfl u'187 s'185 rfl rfl (by first|rfl|omega) (by first|omega|(simp;omega)|(simp;done))) ?_;refine LR.v1 (Y.load1 va12.pt rfl a'185 rfl) ?_;refine LR.v1 (Y.arrAddr va12.pt (2) rfl u'187 s'185 rfl rfl (by first|rfl|omega) (by first|omega|(simp;omega)|(simp;done))) ?_;refine LR.v1 (Y.load1 (va12.pt.drop 2) rfl a'185 rfl) ?_;refine LR.v1 (Y.and_u32 rfl rfl rfl) ?_;refine LR.v1 (Y.xor_u32 rfl rfl rfl) ?_;refine LR.v1 (Y.arrAddr va12.pt (1) rfl u'187 s'185 rfl rfl (by first|rfl|omega) (by first|omega|(simp;omega)|(simp;done))) ?_;refine LR.v1 (Y.load1 (va12.pt.drop 1) rfl a'185 rfl) ?_;refine LR.v1 (Y.arrAddr va12.pt (2) rfl u'187 s'185 rfl rfl (by first|rfl|omega) (by first|omega|(simp;omega)|(simp;done))) ?_;refine LR.v1 (Y.load1 (va12.pt.drop 2) rfl a'185 rfl) ?_;refine LR.v1 (Y.and_u32 rfl rfl rfl) ?_;refine LR.v1 (Y.xor_u32 rfl rfl rfl) ?_;refine LR.an ?_;refine db _ _ (CW.region ?_);refine LR.v1 (Y.arrAddr va12.pt (6) rfl u'187 s'185 rfl rfl (by first|rfl|omega) (by first|omega|(simp;omega)|(simp;done))) ?_;refine LR.v1 (Y.load1 (va12.pt.drop 6) rfl a'185 rfl) ?_;refine LR.v1 (Y.arrAddr va12.pt (5) rfl u'187 s'185 rfl rfl (by first|rfl|omega) (by first|omega|(simp;omega)|(simp;done))) ?_;refine LR.v1 (Y.load1 (va12.pt.drop 5) rfl a'185 rfl) ?_;refine LR.v1 (Y.arrAddr va12.pt (4) rfl u'187 s'185 rfl rfl (by first|rfl|omega) (by first|omega|(simp;omega)|(simp;done))) ?_;refine LR.v1 (Y.load1 (va12.pt.drop 4) rfl a'185 rfl) ?_;refine LR.v1 (Y.arrAddr va12.pt (3) rfl u'187 s'185 rfl rfl (by first|rfl|omega) (by first|omega|(simp;omega)|(simp;done))) ?_;refine LR.v1 (Y.load1 (va12.pt.drop 3) rfl a'185 rfl) ?_;refine LR.m1 ?_;refine LR.v1 (Y.add_u32 rfl rfl rfl) ?_;refine LR.v1 (Y.arrAddr va12.pt (2) rfl u'187 s'185 rfl rfl (by first|rfl|omega) (by first|omega|(simp;omega)|(simp;done))) ?_;refine LR.v1 (Y.load1 (va12.pt.drop 2) rfl a'185 rfl) ?_;refine LR.v1 (Y.arrAddr va12.pt (1) rfl u'187 s'185 rfl rfl (by first|rfl|omega) (by first|omega|(simp;omega)|(simp;done))) ?_;refine LR.v1 (Y.load1 (va12.pt.drop 1) rfl a'185 rfl) ?_;refine LR.v1 (Y.arrAddr va12.pt (0) rfl u'187 s'185 rfl rfl (by first|rfl|omega) (by first|omega|(simp;omega)|(simp;done))) ?_;refine LR.v1 (Y.load1 va12.pt rfl a'185 rfl) ?_;refine LR.m1 ?_;refine LR.m1 ?_;refine LR.v1 (Y.add_u32 rfl rfl rfl) ?_;refine LR.m1 ?_;refine LR.v1 (Y.cast (v2:= .int .u32 (oneS q (KS.getD i 0) (w.getD i 0)+two q).toNat) (Y.add_u32 rfl rfl rfl) (congrArg (fun z:UInt32=>Value.int .u32 z.toNat) (UInt32.add_assoc (oneS q (KS.getD i 0) (w.getD i 0)) _ _))) ?_;refine LR.v1 (Y.arrAddr va12.pt (7) rfl u'187 s'185 rfl rfl (by first|rfl|omega) (by first|omega|(simp;omega)|(simp;done))) ?_;refine LR.s1 (S.var1 va12 7 (_) rfl rfl rfl (rfl) s'185 (by simp) (rfl)) fun dc bp=>?_;obtain⟨va12,al⟩:=bp;replace hm0:=hm0.trans al (fun b hb0 hb1=>hb1) (fun b hb0 hb1=>by omega)
      try replace aa:=aa.trans al (fun b hb0 hb1=>hb1) (fun b hb0 hb1=>by omega)
      try replace ab:=ab.trans al (fun b hb0 hb1=>hb1) (fun b hb0 hb1=>by omega)
      have fi:=al.size;refine LR.v1 (Y.arrAddr va12.pt (6) rfl u'187 s'185 rfl rfl (by first|rfl|omega) (by first|omega|(simp;omega)|(simp;done))) ?_;refine LR.s1 (S.var1 va12 6 (_) rfl rfl rfl (rfl) s'185 (by simp) (rfl)) fun dd bq=>?_;obtain⟨va12,am⟩:=bq;replace hm0:=hm0.trans am (fun b hb0 hb1=>hb1) (fun b hb0 hb1=>by omega)
      try replace aa:=aa.trans am (fun b hb0 hb1=>hb1) (fun b hb0 hb1=>by omega)
      try replace ab:=ab.trans am (fun b hb0 hb1=>hb1) (fun b hb0 hb1=>by omega)
      have fj:=am.size;refine LR.v1 (Y.arrAddr va12.pt (5) rfl u'187 s'185 rfl rfl (by first|rfl|omega) (by first|omega|(simp;omega)|(simp;done))) ?_;refine LR.s1 (S.var1 va12 5 (_) rfl rfl rfl (rfl) s'185 (by simp) (rfl)) fun de br=>?_;obtain⟨va12,ao⟩:=br;replace hm0:=hm0.trans ao (fun b hb0 hb1=>hb1) (fun b hb0 hb1=>by omega)
      try replace aa:=aa.trans ao (fun b hb0 hb1=>hb1) (fun b hb0 hb1=>by omega)
      try replace ab:=ab.trans ao (fun b hb0 hb1=>hb1) (fun b hb0 hb1=>by omega)
      have fk:=ao.size;refine LR.v1 (Y.arrAddr va12.pt (4) rfl u'187 s'185 rfl rfl (by first|rfl|omega) (by first|omega|(simp;omega)|(simp;done))) ?_;refine LR.s1 (S.var1 va12 4 (_) rfl rfl rfl (rfl) s'185 (by simp) (rfl)) fun df bs=>?_;obtain⟨va12,ap⟩:=bs;replace hm0:=hm0.trans ap (fun b hb0 hb1=>hb1) (fun b hb0 hb1=>by omega)
      try replace aa:=aa.trans ap (fun b hb0 hb1=>hb1) (fun b hb0 hb1=>by omega)
      try replace ab:=ab.trans ap (fun b hb0 hb1=>hb1) (fun b hb0 hb1=>by omega)
      have fl:=ap.size;refine LR.v1 (Y.arrAddr va12.pt (3) rfl u'187 s'185 rfl rfl (by first|rfl|omega) (by first|omega|(simp;omega)|(simp;done))) ?_;refine LR.s1 (S.var1 va12 3 (_) rfl rfl rfl (rfl) s'185 (by simp) (rfl)) fun dg bt=>?_;obtain⟨va12,aq⟩:=bt;replace hm0:=hm0.trans aq (fun b hb0 hb1=>hb1) (fun b hb0 hb1=>by omega)
      try replace aa:=aa.trans aq (fun b hb0 hb1=>hb1) (fun b hb0 hb1=>by omega)
      try replace ab:=ab.trans aq (fun b hb0 hb1=>hb1) (fun b hb0 hb1=>by omega)
      have fm:=aq.size;refine LR.v1 (Y.arrAddr va12.pt (2) rfl u'187 s'185 rfl rfl (by first|rfl|omega) (by first|omega|(simp;omega)|(simp;done))) ?_;refine LR.s1 (S.var1 va12 2 (_) rfl rfl rfl (rfl) s'185 (by simp) (rfl)) fun dh bu=>?_;obtain⟨va12,ar⟩:=bu;replace hm0:=hm0.trans ar (fun b hb0 hb1=>hb1) (fun b hb0 hb1=>by omega)
      try replace aa:=aa.trans ar (fun b hb0 hb1=>hb1) (fun b hb0 hb1=>by omega)
      try replace ab:=ab.trans ar (fun b hb0 hb1=>hb1) (fun b hb0 hb1=>by omega)
      have fn:=ar.size;refine LR.v1 (Y.arrAddr va12.pt (1) rfl u'187 s'185 rfl rfl (by first|rfl|omega) (by first|omega|(simp;omega)|(simp;done))) ?_;refine LR.s1 (S.var1 va12 1 (_) rfl rfl rfl (rfl) s'185 (by simp) (rfl)) fun di bv=>?_;obtain⟨va12,au⟩:=bv;replace hm0:=hm0.trans au (fun b hb0 hb1=>hb1) (fun b hb0 hb1=>by omega)
      try replace aa:=aa.trans au (fun b hb0 hb1=>hb1) (fun b hb0 hb1=>by omega)
      try replace ab:=ab.trans au (fun b hb0 hb1=>hb1) (fun b hb0 hb1=>by omega)
      have fo:=au.size;refine LR.v1 (Y.arrAddr va12.pt (0) rfl u'187 s'185 rfl rfl (by first|rfl|omega) (by first|omega|(simp;omega)|(simp;done))) ?_;refine LR.s1 (S.var1 va12 0 (_) rfl rfl rfl (rfl) s'185 (by simp) (rfl)) fun dj bw=>?_;obtain⟨va12,av⟩:=bw;replace hm0:=hm0.trans av (fun b hb0 hb1=>hb1) (fun b hb0 hb1=>by omega)
      try replace aa:=aa.trans av (fun b hb0 hb1=>hb1) (fun b hb0 hb1=>by omega)
      try replace ab:=ab.trans av (fun b hb0 hb1=>hb1) (fun b hb0 hb1=>by omega)
      have fp:=av.size;refine LR.nil (c1 _ _ (c0 _ _ (CW.region ?_)));refine LR.m1 ?_;refine LR.v1 (Y.addi rfl rfl rfl (by omega)) ?_;refine LR.an ?_;refine QN.sub (cU (i+1,rnd q (KS.getD i 0) (w.getD i 0)) _ ?_ ?_) ⟨rfl,rfl,rfl,rfl,rfl,(iv (by omega)),rfl,(iv (by omega)),trivial⟩
      ·exact⟨(by omega),by rw[hq];rfl,va12,ab⟩
      ·first|omega|(simp only;omega)|(simp;omega)
     ·
      obtain rfl:i=64:=by omega
      have hcm:add8 st q=compress st (((m++padOf m.length).drop (64*j)).take 64):=by rw[hq,hwt];rfl
      refine CW.exit (cX (.exit 8) nofun _ _ (cV (.exit 8) nofun _ _ (cS _ _ ?_)));refine cQ _ _ (CW.sr (fun dk=>?_));refine LR.an ?_;refine dk _ _ (CW.block (fun _ _ dl _=>?_))
      refine CW.loop (fun(i:(Nat))=>[(2,.pointer (some ⟨H0.size,0,none⟩)),(3,.pointer (some ⟨H2.size,0,none⟩)),(4,.pointer (some ⟨ad.size,0,none⟩)),(5,bA),(6,.pointer (some ⟨aT.size,0,none⟩)),(7,.int .i64 ((64*j:Nat):Int)),(12,.pointer (some ⟨a8.size,0,none⟩)),(19,.int .i64 i)])
       (fun(i:(Nat)) (H:Heap)=>(i≤8)∧(Var 187 H ad.size ((addL st.list q.list i).map V32))∧Mo (fun c=>c=ad.size) cT H)
       (fun(i:(Nat))=>8-i) 0 ⟨rfl,rfl,rfl,rfl,rfl,rfl,rfl,rfl,trivial⟩ ?_ ?_
      ·
       exact⟨(by omega),va4,Mo.refl _ _⟩
      intro i fq fr f0 dm dn;obtain⟨hi,va4,aL⟩:=fr;replace hm0:=hm0.trans aL (fun b hb0 hb1=>hb1) (fun b hb0 hb1=>by omega)
      try replace aa:=aa.trans aL (fun b hb0 hb1=>hb1) (fun b hb0 hb1=>by omega)
      replace va6:=va6.up aL (by omega);replace va12:=va12.up aL (by omega);have fs:=aL.size;have aR:=va4.lt;have hal:=addL_len st.list q.list i rfl rfl hi;refine CW.s2 (fun dp dq=>CW.sr (fun dr=>?_));refine LR.m1 ?_;refine LR.v1 (Y.lss rfl rfl rfl) (LR.nil (dr _ _ ?_));refine CW.condp rfl (fun ds=>?_) (fun ds=>?_)
      ·
       refine CW.skip (dp _ _ (CW.s1 (fun dt=>CW.block (fun _ du _ _=>?_))));refine CW.region_tail 9 rfl (by kernel_rfl) (fun T34 hT34=>?_);refine LR.m1 ?_;refine LR.m1 ?_;refine LR.v1 (Y.arrAddr va4.pt (i) rfl u'187 s'185 rfl rfl (by first|rfl|omega) (by first|omega|(simp;omega)|(simp;done))) ?_;refine LR.v1 (Y.cast (v2:= .int .u32 (st.list.getD i 0).toNat) (Y.load1 (va4.pt.at (i) (map_get _ i (by omega))) rfl a'185 rfl) (by rw[addL_get st.list q.list i rfl rfl (by omega)])) ?_;refine LR.m1 ?_;refine LR.v1 (Y.arrAddr va12.pt (i) rfl u'187 s'185 rfl rfl (by first|rfl|omega) (by first|omega|(simp;omega)|(simp;done))) ?_;refine LR.v1 (Y.load1 (va12.pt.at (i) (map_get q.list i (by simp;omega))) rfl a'185 rfl) ?_;refine LR.v1 (Y.add_u32 rfl rfl rfl) ?_;refine LR.v1 (Y.arrAddr va4.pt (i) rfl u'187 s'185 rfl rfl (by first|rfl|omega) (by first|omega|(simp;omega)|(simp;done))) ?_;refine LR.nil (hT34 _ ?_);refine LR.s1 (S.var1 va4 (0+(i)) (_) rfl rfl rfl (rfl) s'185 (by simp;omega) (map_set _ i _)) fun dR bX=>?_;obtain⟨va4,aI⟩:=bX;replace hm0:=hm0.trans aI (fun b hb0 hb1=>hb1) (fun b hb0 hb1=>by omega)
       try replace aa:=aa.trans aI (fun b hb0 hb1=>hb1) (fun b hb0 hb1=>by omega)
       try replace aL:=aL.trans aI (fun b hb0 hb1=>hb1) (fun b hb0 hb1=>by omega)
       have ft:=aI.size;refine LR.nil (du _ _ (dt _ _ (CW.region ?_)));refine LR.m1 ?_;refine LR.v1 (Y.addi rfl rfl rfl (by omega)) ?_;refine LR.an ?_;refine QN.sub (dm (i+1) _ ?_ ?_) ⟨rfl,rfl,rfl,rfl,rfl,(iv (by omega)),rfl,(iv (by omega)),trivial⟩
       ·exact⟨(by omega),by rw[←addL_succ st.list q.list i rfl rfl (by omega)];exact va4,aL⟩
       ·first|omega|(simp only;omega)|(simp;omega)
      ·
       obtain rfl:i=8:=by omega
       replace va4:Var 187 fq ad.size ((add8 st q).list.map V32):=va4;refine CW.exit (dq (.exit 10) nofun _ _ (dn (.exit 10) nofun _ _ (dl _ _ ?_)));refine cl _ _ (ck _ _ (CW.region ?_));refine LR.m1 ?_;refine LR.v1 (Y.addi rfl rfl rfl (by omega)) ?_;refine LR.an ?_;refine QN.sub (cf (j+1,compress st (((m++padOf m.length).drop (64*j)).take 64),w) _ ?_ ?_) ⟨rfl,rfl,rfl,rfl,rfl,(iv (by omega)),trivial⟩
       ·exact⟨(by omega),run_take _ _ _ hst (by omega),(by omega),hcm▸va4,va6,aa⟩
       ·first|omega|(simp only;omega)|(simp;omega)
  ·
   have hjj:64*j=(m++padOf m.length).length:=by omega
   rw[hjj,List.take_of_length_le (Nat.le_refl _)]at hst;have hso:outL st.list=sumOf m:=by rw[sumOf,hst]
   refine CW.exit (ci (.exit 2) nofun _ _ (cg (.exit 2) nofun _ _ (ce _ _ ?_)));refine cc _ _ (CW.sr (fun dv=>?_));refine LR.z1 (Z.allocv rfl z'165) fun f1 dw fu=>?_;obtain⟨rfl,va20,a7,fv,dx⟩:=fu;have dS:dw.size=bC.size+1:=by rw[dx];simp
   replace hm0:=hm0.trans a7 (fun b hb0 hb1=>hb1) (fun b hb0 hb1=>hb1.elim);replace va2:=va2.nw a7;replace va4:=va4.nw a7;have fw:=a7.size;have a2:=va20.lt;replace va20:Var 165 dw bC.size ((List.replicate 32 (0:UInt8)).map V8):=va20;refine LR.nil (dv _ _ (CW.s1 (fun dy=>CW.sr (fun dz=>?_))));refine LR.an ?_;refine dz _ _ (CW.block (fun _ _ dA _=>?_))
   refine CW.loop (fun(s_:(Nat)×(List UInt8))=>match s_ with|(i,o)=>[(2,.pointer (some ⟨H0.size,0,none⟩)),(4,.pointer (some ⟨ad.size,0,none⟩)),(20,.pointer (some ⟨bC.size,0,none⟩)),(21,.int .i64 i)])
    (fun(i,o) (H:Heap)=>(i≤32)∧(o.length=32)∧(o.take i=(outL st.list).take i)∧(Var 165 H bC.size (o.map V8))∧Mo (fun c=>c=bC.size) dw H)
    (fun(i,o)=>32-i) (0,List.replicate 32 0) ⟨rfl,rfl,rfl,rfl,trivial⟩ ?_ ?_
   ·
    exact⟨(by omega),by simp,by simp,va20,Mo.refl _ _⟩
   rintro⟨i,o⟩ f2 fx f3 dB dC;obtain⟨hi,hol,hot,va20,aP⟩:=fx;replace hm0:=hm0.trans aP (fun b hb0 hb1=>hb1) (fun b hb0 hb1=>by omega);replace va2:=va2.up aP (by omega);replace va4:=va4.up aP (by omega);have fy:=aP.size;have a2:=va20.lt;refine CW.s2 (fun dD dE=>CW.sr (fun dF=>?_));refine LR.m1 ?_;refine LR.v1 (Y.lss rfl rfl rfl) (LR.nil (dF _ _ ?_));refine CW.condp rfl (fun dG=>?_) (fun dG=>?_)
   ·
    refine CW.skip (dD _ _ (CW.s1 (fun dH=>CW.block (fun _ dI _ _=>CW.region ?_))));refine LR.m1 ?_;refine LR.m1 ?_;refine LR.v1 (Y.quoi rfl rfl rfl (by omega)) ?_;refine LR.v1 (Y.arrAddr va4.pt (i/4) rfl u'187 s'185 rfl rfl (by omega) (by first|omega|(simp;omega)|(simp;done))) ?_;refine LR.v1 (Y.load1 (va4.pt.at (i/4) (map_get st.list (i/4) (by simp;omega))) rfl a'185 rfl) ?_;refine LR.m1 ?_;refine LR.v1 (Y.remi rfl rfl rfl (by omega)) ?_;refine LR.v1 (Y.muli rfl rfl rfl (by omega)) ?_;refine LR.v1 (Y.subi rfl rfl rfl (by omega)) ?_;refine LR.v1 (Y.shr_u32 (24-8*(i%4)) rfl rfl rfl (by omega) (by omega)) ?_;refine LR.v1 (Y.conv_u8 rfl u'185 u'5 rfl) ?_;refine LR.v1 (Y.arrAddr va20.pt (i) rfl u'165 s'5 rfl rfl (by first|rfl|omega) (by first|omega|(simp;omega)|(simp;done))) ?_;refine LR.s1 (S.var1 va20 (0+(i)) (_) rfl rfl rfl (rfl) s'5 (by simp;omega) (map_set8 o i _)) fun dJ bx=>?_;obtain⟨va20,aJ⟩:=bx;replace hm0:=hm0.trans aJ (fun b hb0 hb1=>hb1) (fun b hb0 hb1=>by omega)
    try replace aP:=aP.trans aJ (fun b hb0 hb1=>hb1) (fun b hb0 hb1=>by omega)
    have fz:=aJ.size;refine LR.nil (dI _ _ (dH _ _ (CW.region ?_)));refine LR.m1 ?_;refine LR.v1 (Y.addi rfl rfl rfl (by omega)) ?_;refine LR.an ?_;refine QN.sub (dB (i+1,o.set i (UInt8.ofNat (shrw_u32 (st.list.getD (i/4) 0) (24-8*(i%4))).toNat)) _ ?_ ?_) ⟨rfl,rfl,rfl,(iv (by omega)),trivial⟩
    ·exact⟨(by omega),by simp[hol],take8_succ _ _ _ _ hot (by omega) (outL_get _ _ (by omega)),va20,aP⟩
    ·first|omega|(simp only;omega)|(simp;omega)
   ·
    obtain rfl:i=32:=by omega
    rw[List.take_of_length_le (by omega),List.take_of_length_le (by rw[outL_len];omega),hso]at hot;subst hot;refine CW.exit (dE (.exit 12) nofun _ _ (dC (.exit 12) nofun _ _ (dA _ _ ?_)));refine dy _ _ (CW.sr (fun dK=>?_));refine LR.v1 (Y.loadN va20.pt rfl a'165 s'165 (rfl) rfl) ?_;refine LR.s1 (S.var va2 ((sumOf m).map V8) ((sumOf m).map V8) rfl rfl rfl rfl (by intro u hu;obtain⟨x,_,rfl⟩:=List.mem_map.1 hu;rfl) s'165 (rfl) (Nat.le_of_ble_eq_true rfl) (by simp[splice,sumOf_len])) fun dT bY=>?_;obtain⟨va2,bz⟩:=bY;replace hm0:=hm0.trans bz (fun b hb0 hb1=>hb1) (fun b hb0 hb1=>by omega);refine LR.nil (dK _ _ ?_);refine CW.ret (hret .ret (.inr rfl) _ _ _ (resC rfl rfl va2.pt a'165 s'165 (by first|rfl|simp)) ?_);exact⟨rfl,hm0⟩
end SumF

namespace SumG
open E Go.RowKit SumA SumB SumC SumD SumE SumF
set_option maxRecDepth 100000 in
theorem inf22:Inf Tryz.prog 22 34 1 24:=⟨Tryz.underlying22,_,_,rfl,rfl,rfl,rfl,rfl⟩
set_option maxRecDepth 100000 in
theorem inf34:Inf Tryz.prog 34 5 1 1:=⟨Tryz.underlying34,_,_,rfl,rfl,rfl,rfl,rfl⟩
theorem zvHash:∀w,(zeroValue 211).run Tryz.prog w= .ok (.agg (hc (List.replicate 8 0) (List.replicate 64 0) 0 0).toArray) w:=fun w=>by kernel_rfl
theorem splice_all{cs vs:List Value}(h:cs.length=vs.length):splice cs 0 vs=vs:=by simp[splice,←h]
theorem hc_one(s:List UInt32)(wt:List UInt8)(n:Nat)(al:UInt64):∀u∈hc s wt n al,u.oneCell'=true:=by
 intro u hu;simp only[hc,List.mem_append,List.mem_map,List.mem_cons,List.not_mem_nil,or_false]at hu;rcases hu with(⟨x,_,rfl⟩|⟨x,_,rfl⟩)|rfl|rfl<;>rfl
theorem run_mod_aux:∀(n:Nat) (s:S8) (b:List UInt8),b.length≤n→(run s b).2.length=b.length%64:=by
 intro n
 induction n with
 |zero=>intro s b h;rw[run_lt s b (by omega)];simp only;omega
 |succ n ih=>
  intro s b h;by_cases hb:b.length<64
  ·rw[run_lt s b hb];simp only;omega
  ·rw[run_ge s b (by omega),ih _ _ (by simp;omega)];simp;omega
theorem run_mod(s:S8)(b:List UInt8):(run s b).2.length=b.length%64:=run_mod_aux _ s b (Nat.le_refl _)
theorem pad_set(z:Nat):(List.replicate (1+z) (0:UInt8)).set 0 0x80=0x80::List.replicate z 0:=by rw[Nat.add_comm,List.replicate_succ,List.set_cons_zero]
theorem outL_at(s:List UInt32)(i k:Nat)(hi:i<8)(hk:k<4):(outL s)[4*i+k]?=some (UInt8.ofNat (shrw_u32 (s.getD i 0) (24-8*k)).toNat):=by
 rw[outL_get s _ (by omega),show(4*i+k)/4=i by omega,show(4*i+k)%4=k by omega]
theorem psum_ct(hb:Nat)(m:List UInt8)(w0:World)(H0:Heap)
 (hS:HS H0 hb m (UInt64.ofNat m.length)) (hml:m.length≤1099511627776):
 Ct Tryz.prog w0 130 #[.pointer (some ⟨hb,0,none⟩)] H0 (fun r H2=>r= .agg ((sumOf m).map V8).toArray∧Mo (fun c=>False) H0 H2):=by
 refine Ct.enter (args:=[.pointer (some ⟨hb,0,none⟩)]) Tryz.func130 rfl rfl rfl ?_;intro Q0 hret;obtain⟨wt,hwt,hv,hbuf⟩:=hS.ex;have hn64:=run_rest IV m;have hnm:=run_mod IV m;obtain⟨n,hn⟩:∃n,(run IV m).2.length=n:=⟨_,rfl⟩;have hbuf0:=hbuf;rw[hn]at hv hbuf hn64 hnm;have aH:=hv.lt;have aI:=hS.lt;have hm0:Mo (fun c=>False) H0 H0:=Mo.refl _ _;refine CW.sr (fun bm=>?_);refine LR.z1 (Z.allocv rfl z'165) ?_;rintro v2 H2 ⟨rfl,va2,aJ,b5,bn⟩;have bo:H2.size=H0.size+1:=by rw[bn];simp
 replace hv:=hv.nw aJ;replace hm0:=hm0.trans aJ (fun b hb0 hb1=>hb1) (fun b hb0 hb1=>hb1.elim);have b6:=aJ.size;have aD:=va2.lt;replace va2:Var 165 H2 H0.size ((List.replicate 32 (0:UInt8)).map V8):=va2;refine LR.nil (bm _ _ (CW.sr (fun bp=>?_)));refine LR.m1 ?_;refine LR.n1 ?_;refine LR.v1 (Y.loadN hv.pt rfl a'211 s'211 (hc_len rfl hwt) rfl) ?_;refine LR.z1 (Z.allocv rfl zvHash) ?_;rintro v3 H3 ⟨rfl,va3,aE,b7,bq⟩;have br:H3.size=H2.size+1:=by rw[bq];simp
 replace hv:=hv.nw aE;replace hm0:=hm0.trans aE (fun b hb0 hb1=>hb1) (fun b hb0 hb1=>hb1.elim);replace va2:=va2.nw aE;have b8:=aE.size;have aF:=va3.lt;replace va3:Var 211 H3 H2.size (hc (List.replicate 8 0) (List.replicate 64 0) 0 0):=va3;refine LR.s1 (S.var va3 (hc (run IV m).1.list wt n (UInt64.ofNat m.length)) (hc (run IV m).1.list wt n (UInt64.ofNat m.length)) rfl rfl rfl rfl (hc_one _ _ _ _) s'211 (hc_len rfl hwt) (Nat.le_of_ble_eq_true rfl) (splice_all (by rw[hc_len (by simp) (by simp),hc_len rfl hwt]))) fun ak aK=>?_;obtain⟨va3,af⟩:=aK;replace hv:=hv.up af (by omega);replace hm0:=hm0.trans af (fun b hb0 hb1=>hb1) (fun b hb0 hb1=>by omega);replace va2:=va2.up af (by omega);have b9:=af.size;refine LR.nil (bp _ _ (CW.s1 (fun bs=>?_)));have hpz:padZ m.length=(119-m.length%64)%64:=rfl;refine CW.region ?_;refine LR.v1 (Y.FA va3.pt rfl u'211 rfl s'3) ?_;refine LR.v1 (Y.load1 (va3.pt.at 72 (hc_n rfl hwt)) rfl a'3 rfl) ?_;refine LR.v1 (Y.subi rfl rfl rfl (by omega)) ?_;refine LR.v1 (Y.remi rfl rfl rfl (by omega)) ?_;refine LR.v1 (Y.addi rfl rfl rfl (by omega)) ?_;refine LR.z1 (Z.makew (1+padZ m.length) ((0:UInt8)) rfl inf34 z'5 rfl fB_len fB_one rfl rfl (by first|rfl|omega) (by omega) (by omega)) fun bt bu bv=>?_;obtain⟨ac,ai,bw,aL⟩:=bv;have bh:bu.size=ak.size+1:=by rw[aL];simp
 replace hv:=hv.nw ai;replace hm0:=hm0.trans ai (fun b hb0 hb1=>hb1) (fun b hb0 hb1=>hb1.elim);replace va2:=va2.nw ai;replace va3:=va3.nw ai;have b_:=ai.size;have al:=ac.le;refine LR.an ?_;refine bs _ _ (CW.sr (fun bx=>?_));refine LR.m1 ?_;refine LR.v1 (Y.owAddr ac (0) rfl u'34 s'5 rfl rfl (by first|rfl|omega) (by first|omega|(simp;omega)|(simp;done))) ?_;refine LR.s1 (S.oww ac (0) 0 ((0x80:UInt8)) rfl rfl rfl rfl s'5 (by first|omega|(simp;omega)|(simp;done)) (by decide) (rfl)) fun av aM=>?_;obtain⟨ac,ad⟩:=aM;replace hv:=hv.up ad (by omega);replace hm0:=hm0.trans ad (fun b hb0 hb1=>hb1) (fun b hb0 hb1=>by omega);replace va2:=va2.up ad (by omega);replace va3:=va3.up ad (by omega);have ca:=ad.size;rw[pad_set]at ac;refine LR.nil (bx _ _ (CW.s1 (fun bz=>CW.sr (fun bA=>?_))));refine LR.an ?_;refine bA _ _ (CW.block (fun _ _ bB _=>?_))
 refine CW.loop (fun(s_:(Nat)×(Value)×(Nat)×(List UInt8))=>match s_ with|(j,v',k',ys)=>[(0,.pointer (some ⟨hb,0,none⟩)),(2,.pointer (some ⟨H0.size,0,none⟩)),(3,.pointer (some ⟨H2.size,0,none⟩)),(4,v'),(5,.int .i64 (8*(j:Int)-8))])
  (fun(j,v',k',ys) (H:Heap)=>(j≤8)∧(Ow k' 5 H fB 1 v' ys)∧(k'=0∨k'=ak.size+1∨av.size<k')∧(ys++numL j (UInt64.ofNat (8*m.length))=(0x80::List.replicate (padZ m.length) (0:UInt8))++numL 8 (UInt64.ofNat (8*m.length)))∧Mo (fun c=>c=ak.size) av H)
  (fun(j,v',k',ys)=>j) (8,bt,ak.size+1,(0x80::List.replicate (padZ m.length) (0:UInt8))) ⟨rfl,rfl,rfl,rfl,rfl,trivial⟩ ?_ ?_
 ·
  exact⟨(by omega),ac,(by omega),rfl,Mo.refl _ _⟩
 rintro⟨j,v',k',ys⟩ bi bC K8 bD bE;obtain⟨hj,ac,hk,hys,ab⟩:=bC;replace hv:=hv.up ab (by omega);replace hm0:=hm0.trans ab (fun b hb0 hb1=>hb1) (fun b hb0 hb1=>by omega);replace va2:=va2.up ab (by omega);replace va3:=va3.up ab (by omega);have cb:=ab.size;have al:=ac.le;have hyl:ys.length+j=padZ m.length+9:=by have:=congrArg List.length hys;simpa[numL_len]using this
 have hpz2:padZ m.length<64:=by rw[padZ];omega
 refine CW.s2 (fun bF bG=>CW.sr (fun aN=>?_));refine LR.m1 ?_;refine LR.v1 (Y.geq rfl rfl rfl) (LR.nil (aN _ _ ?_));refine CW.condp rfl (fun bH=>?_) (fun bH=>?_)
 ·
  obtain⟨j,rfl⟩:∃q,j=q+1:=⟨j-1,by omega⟩;refine CW.skip (bF _ _ (CW.s1 (fun aO=>CW.block (fun _ aP _ _=>CW.region ?_))));refine LR.m1 ?_;refine LR.m1 ?_;refine LR.n1 ?_;refine LR.v1 (Y.FA hv.pt rfl u'211 rfl s'151) ?_;refine LR.v1 (Y.load1 (hv.pt.at 73 (hc_all rfl hwt)) rfl a'151 rfl) ?_;refine LR.v1 (Y.cast (v2:= .int .u64 (UInt64.ofNat (8*m.length)).toNat) (Y.mul_u64 (b:=(UInt64.ofNat 8)) rfl rfl rfl) (by rw[←UInt64.ofNat_mul,Nat.mul_comm])) ?_;refine LR.m1 ?_;refine LR.v1 (Y.shr_u64 (8*j) rfl rfl rfl (by first|rfl|omega) (by omega)) ?_;refine LR.v1 (Y.conv_u8 rfl u'151 u'5 rfl) ?_;refine LR.z1 (Z.litw _ ([UInt8.ofNat (shrw_u64 (UInt64.ofNat (8*m.length)) (8*j)).toNat]) rfl inf34 rfl rfl rfl (by decide) (by decide) fB_len fB_one (rfl)) fun cc bI bJ=>?_;obtain⟨aw,am,bK,aQ⟩:=bJ;have bj:bI.size=bi.size+1:=by rw[aQ];simp
  replace hm0:=hm0.trans am (fun b hb0 hb1=>hb1) (fun b hb0 hb1=>hb1.elim);replace ac:=ac.nw am
  try replace ab:=ab.trans am (fun b hb0 hb1=>hb1) (fun b hb0 hb1=>hb1.elim)
  have cd:=am.size;have ax:=aw.le;refine LR.z1 (Z.apnd ac aw.rd rfl inf34 rfl rfl (by first|omega|(simp;omega)) (by first|omega|(simp;omega))) fun bL ce bM=>?_;obtain⟨bN,ay,bO,ap⟩:=bM;replace hm0:=hm0.trans ap (fun b hb0 hb1=>hb1) (fun b hb0 hb1=>by omega)
  try replace ab:=ab.trans ap (fun b hb0 hb1=>hb1) (fun b hb0 hb1=>by omega)
  have cf:=ap.size;have az:=ay.le;refine LR.an ?_;refine aP _ _ (aO _ _ (CW.region ?_));refine LR.m1 ?_;refine LR.v1 (Y.subi rfl rfl rfl (by omega)) ?_;refine LR.an ?_;refine QN.sub (bD (j,bL,bN,ys++[UInt8.ofNat (shrw_u64 (UInt64.ofNat (8*m.length)) (8*j)).toNat]) _ ?_ ?_) ⟨rfl,rfl,rfl,rfl,(iv (by omega)),trivial⟩
  ·exact⟨(by omega),ay,(by omega),by rw[←hys,List.append_assoc];rfl,ab⟩
  ·first|omega|(simp only;omega)|(simp;omega)
 ·
  obtain rfl:j=0:=by omega
  rw[numL,List.append_nil]at hys;replace hys:ys=padOf m.length:=by rw[hys];rfl
  subst hys;refine CW.exit (bG (.exit 0) nofun _ _ (bE (.exit 0) nofun _ _ (bB _ _ ?_)));refine bz _ _ (CW.sr (fun aR=>?_));refine LR.m1 ?_;refine LR.z1 (Z.litw _ ([((toSV v',padOf m.length):SV×List UInt8)]) rfl inf22 rfl rfl rfl (by decide) (by decide) fP_len fP_one (by simp only[List.map_cons,List.map_nil,fP];rw[ac.sv,ac.rd.cells1])) fun cg bP bQ=>?_;obtain⟨aA,aj,bR,aS⟩:=bQ;have bk:bP.size=bi.size+1:=by rw[aS];simp
  replace hm0:=hm0.trans aj (fun b hb0 hb1=>hb1) (fun b hb0 hb1=>hb1.elim);replace va2:=va2.nw aj;replace va3:=va3.nw aj;replace ac:=ac.nw aj;have ch:=aj.size;have aB:=aA.le;refine LR.call rfl c'129 rfl (Wd.u rfl) rfl rfl (write_ct H2.size _ m (UInt64.ofNat m.length) [((toSV v',padOf m.length):SV×List UInt8)] w0 _ ⟨wt,hwt,hn▸va3,hbuf0⟩ (aA.rd.imp (fun b _ h=>by omega)) (by intro x hx;simp only[List.mem_singleton]at hx;subst hx;simp only;rw[ac.sv];exact ac.rd.imp (fun b _ h=>by omega))) (fun ci ao bS=>?_);obtain⟨rfl,hS3,aq⟩:=bS;have hct:m++cat [((toSV v',padOf m.length):SV×List UInt8)]=m++padOf m.length:=by simp[cat]
  rw[hct]at hS3;obtain⟨wt3,hwt3,va3,hbuf3⟩:=hS3.ex;replace hm0:=hm0.trans aq (fun b hb0 hb1=>hb1) (fun b hb0 hb1=>by omega);replace va2:=va2.up aq (by omega);have bT:=aq.size;refine LR.nil (aR _ _ (CW.sr (fun aT=>?_)));refine LR.z1 (Z.allocv rfl z'165) ?_;rintro v6 H6 ⟨rfl,va6,aG,cj,bU⟩;have bV:H6.size=ao.size+1:=by rw[bU];simp
  replace hm0:=hm0.trans aG (fun b hb0 hb1=>hb1) (fun b hb0 hb1=>hb1.elim);replace va2:=va2.nw aG;replace va3:=va3.nw aG;have bW:=aG.size;have ag:=va6.lt;replace va6:Var 165 H6 ao.size ((List.replicate 32 (0:UInt8)).map V8):=va6;refine LR.nil (aT _ _ (CW.s1 (fun aU=>CW.sr (fun aV=>?_))));refine LR.v1 (Y.FA va3.pt rfl u'211 rfl s'187) ?_;refine LR.v1 (Y.cast (v2:= .agg ((run IV (m++padOf m.length)).1.list.map V32).toArray) (Y.loadN (va3.pt.take 8) rfl a'187 s'187 (rfl) rfl) (rfl)) ?_;refine LR.m1 (LR.nil (aV _ _ ?_));refine CW.block (fun _ _ aW _=>?_)
  refine CW.loop (fun(s_:(Nat)×(List UInt8))=>match s_ with|(i,o)=>[(2,.pointer (some ⟨H0.size,0,none⟩)),(6,.pointer (some ⟨ao.size,0,none⟩)),(40,.agg ((run IV (m++padOf m.length)).1.list.map V32).toArray),(41,.int .i64 i)])
   (fun(i,o) (H:Heap)=>(i≤8)∧(o.length=32)∧(o.take (4*i)=(outL (run IV (m++padOf m.length)).1.list).take (4*i))∧(Var 165 H ao.size (o.map V8))∧Mo (fun c=>c=ao.size) H6 H)
   (fun(i,o)=>8-i) (0,List.replicate 32 0) ⟨rfl,rfl,rfl,rfl,trivial⟩ ?_ ?_
  ·
   exact⟨(by omega),by simp,by simp,va6,Mo.refl _ _⟩
  rintro⟨i,o⟩ bX bY ck aX aY;obtain⟨hi,hol,hot,va6,ae⟩:=bY;replace hm0:=hm0.trans ae (fun b hb0 hb1=>hb1) (fun b hb0 hb1=>by omega);replace va2:=va2.up ae (by omega);have bZ:=ae.size;have ag:=va6.lt;refine CW.sr (fun aZ=>?_);refine LR.v1 (Y.lss rfl rfl rfl) (LR.nil (aZ _ _ ?_));refine CW.s2 (fun a0 a2=>?_);refine CW.condp rfl (fun b0=>?_) (fun b0=>?_)
  ·
   refine CW.skip (a0 _ _ (CW.s1 (fun a3=>CW.block (fun _ a4 _ _=>CW.sr (fun a5=>?_)))));refine LR.m1 ?_;refine LR.v1 (Y.arrIndex (i) rfl u'187 s'185 a'185 rfl rfl (by first|rfl|omega) (by omega) ((by rw[List.getElem?_toArray];exact map_get (run IV (m++padOf m.length)).1.list i (by simp;omega)))) ?_;refine LR.a1 ?_;refine LR.an ?_;refine a5 _ _ (CW.sr (fun a6=>?_));refine LR.m1 (LR.nil (a6 _ _ ?_));refine CW.block (fun _ _ a7 _=>?_)
   refine CW.loop (fun(s_:(Nat)×(List UInt8))=>match s_ with|(k,o)=>[(2,.pointer (some ⟨H0.size,0,none⟩)),(6,.pointer (some ⟨ao.size,0,none⟩)),(7,.int .i64 i),(8,.int .u32 ((run IV (m++padOf m.length)).1.list.getD i 0).toNat),(40,.agg ((run IV (m++padOf m.length)).1.list.map V32).toArray),(41,.int .i64 i),(45,.int .i64 k)])
    (fun(k,o) (H:Heap)=>(k≤4)∧(o.length=32)∧(o.take (4*i+k)=(outL (run IV (m++padOf m.length)).1.list).take (4*i+k))∧(Var 165 H ao.size (o.map V8))∧Mo (fun c=>c=ao.size) bX H)
    (fun(k,o)=>4-k) (0,o) ⟨rfl,rfl,rfl,rfl,rfl,rfl,rfl,trivial⟩ ?_ ?_
   ·
    exact⟨(by omega),hol,hot,va6,Mo.refl _ _⟩
   rintro⟨k,o⟩ cl b1 cm a8 a9;obtain⟨cn,hol,hot,va6,ah⟩:=b1;replace hm0:=hm0.trans ah (fun b hb0 hb1=>hb1) (fun b hb0 hb1=>by omega)
   try replace ae:=ae.trans ah (fun b hb0 hb1=>hb1) (fun b hb0 hb1=>by omega)
   have b2:=ah.size;have ag:=va6.lt;refine CW.sr (fun a_=>?_);refine LR.v1 (Y.lss rfl rfl rfl) (LR.nil (a_ _ _ ?_));refine CW.s2 (fun ba bb=>?_);refine CW.condp rfl (fun b3=>?_) (fun b3=>?_)
   ·
    refine CW.skip (ba _ _ (CW.s1 (fun bc=>CW.block (fun _ bd _ _=>CW.sr (fun be=>?_)))));refine LR.m1 ?_;refine LR.an ?_;refine be _ _ (CW.region ?_);refine LR.m1 ?_;refine LR.v1 (Y.muli rfl rfl rfl (by omega)) ?_;refine LR.m1 ?_;refine LR.v1 (Y.addi rfl rfl rfl (by omega)) ?_;refine LR.m1 ?_;refine LR.m1 ?_;refine LR.v1 (Y.muli rfl rfl rfl (by omega)) ?_;refine LR.v1 (Y.subi rfl rfl rfl (by omega)) ?_;refine LR.v1 (Y.shr_u32 (24-8*k) rfl rfl rfl (by omega) (by omega)) ?_;refine LR.v1 (Y.conv_u8 rfl u'185 u'5 rfl) ?_;refine LR.v1 (Y.arrAddr va6.pt (4*i+k) rfl u'165 s'5 rfl rfl (by first|rfl|omega) (by first|omega|(simp;omega)|(simp;done))) ?_;refine LR.s1 (S.var1 va6 (0+(4*i+k)) (_) rfl rfl rfl (rfl) s'5 (by simp;omega) (map_set8 o (4*i+k) _)) fun bf ar=>?_;obtain⟨va6,aa⟩:=ar;replace hm0:=hm0.trans aa (fun b hb0 hb1=>hb1) (fun b hb0 hb1=>by omega)
    try replace ae:=ae.trans aa (fun b hb0 hb1=>hb1) (fun b hb0 hb1=>by omega)
    try replace ah:=ah.trans aa (fun b hb0 hb1=>hb1) (fun b hb0 hb1=>by omega)
    have b4:=aa.size;refine LR.nil (bd _ _ (bc _ _ (CW.region ?_)));refine LR.v1 (Y.addi rfl rfl rfl (by omega)) ?_;refine LR.m1 (LR.nil ?_);refine QN.sub (a8 (k+1,o.set (4*i+k) (UInt8.ofNat (shrw_u32 ((run IV (m++padOf m.length)).1.list.getD i 0) (24-8*k)).toNat)) _ ?_ ?_) ⟨rfl,rfl,(iv (by omega)),(iv (by omega)),rfl,(iv (by omega)),(iv (by omega)),trivial⟩
    ·exact⟨(by omega),by simp[hol],take8_succ o _ (4*i+k) _ hot (by omega) (outL_at _ i k (by omega) (by omega)),va6,ah⟩
    ·first|omega|(simp only;omega)|(simp;omega)
   ·
    obtain rfl:k=4:=by omega
    rw[show 4*i+4=4*(i+1)by omega]at hot;refine CW.exit (bb (.exit 4) nofun _ _ (a9 (.exit 4) nofun _ _ (a7 _ _ ?_)));refine a4 _ _ (a3 _ _ (CW.region ?_));refine LR.v1 (Y.addi rfl rfl rfl (by omega)) ?_;refine LR.m1 (LR.nil ?_);refine QN.sub (aX (i+1,o) _ ?_ ?_) ⟨rfl,rfl,rfl,(iv (by omega)),trivial⟩
    ·exact⟨(by omega),hol,hot,va6,ae⟩
    ·first|omega|(simp only;omega)|(simp;omega)
  ·
   obtain rfl:i=8:=by omega
   rw[List.take_of_length_le (by omega),List.take_of_length_le (by rw[outL_len];omega),show outL (run IV (m++padOf m.length)).1.list=sumOf m from rfl]at hot;subst hot;refine CW.exit (a2 (.exit 2) nofun _ _ (aY (.exit 2) nofun _ _ (aW _ _ ?_)));refine aU _ _ (CW.sr (fun bg=>?_));refine LR.v1 (Y.loadN va6.pt rfl a'165 s'165 (rfl) rfl) ?_;refine LR.s1 (S.var va2 ((sumOf m).map V8) ((sumOf m).map V8) rfl rfl rfl rfl (by intro u hu;obtain⟨x,_,rfl⟩:=List.mem_map.1 hu;rfl) s'165 (rfl) (by simp[sumOf_len]) (by simp[splice,sumOf_len])) fun bl aC=>?_;obtain⟨va2,au⟩:=aC;replace hm0:=hm0.trans au (fun b hb0 hb1=>hb1) (fun b hb0 hb1=>by omega);refine LR.nil (bg _ _ ?_);refine CW.ret (hret .ret (.inr rfl) _ _ _ (resC rfl rfl va2.pt a'165 s'165 (by first|rfl|simp)) ?_);exact⟨rfl,hm0⟩
theorem ofNat_zero_add(n:Nat):(0:UInt64)+UInt64.ofNat n=UInt64.ofNat n:=by simp
theorem pof_ct(vl:Value)(l:List (SV×List UInt8))(w0:World)(H0:Heap)
 (hl:RdT H0 fP 1 vl l) (hx:∀x∈l,RdT H0 fB 1 x.1.v x.2) (hml:(cat l).length≤1099511627776):
 Ct Tryz.prog w0 111 #[vl] H0 (fun r H2=>r= .agg ((sumOf (cat l)).map V8).toArray∧Mo (fun c=>False) H0 H2):=by
 refine Ct.enter (args:=[vl]) Tryz.func111 rfl rfl rfl ?_;intro Q0 hret;replace hl:=hl.lt;replace hx:=fun x aa=>(hx x aa).lt;have hm0:Mo (fun c=>False) H0 H0:=Mo.refl _ _;refine CW.sr (fun ai=>?_);refine LR.z1 (Z.allocv rfl z'165) ?_;rintro v2 H2 ⟨rfl,va2,ad,ar,aj⟩;have ak:H2.size=H0.size+1:=by rw[aj];simp
 replace hl:=hl.nw ad;replace hx:=fun x aa=>(hx x aa).up ad (fun b hb0 hb1 hb2=>hb2);replace hm0:=hm0.trans ad (fun b hb0 hb1=>hb1) (fun b hb0 hb1=>hb1.elim);have au:=ad.size;have ae:=va2.lt;replace va2:Var 165 H2 H0.size ((List.replicate 32 (0:UInt8)).map V8):=va2;refine LR.nil (ai _ _ (CW.sr (fun al=>?_)));refine LR.call rfl c'128 rfl (Wd.u rfl) rfl rfl (new_ct w0 _) ?_;rintro v4 H4 ⟨rfl,hS,ac,am⟩;replace hl:=hl.nw ac;replace hx:=fun x aa=>(hx x aa).up ac (fun b hb0 hb1 hb2=>hb2);replace hm0:=hm0.trans ac (fun b hb0 hb1=>hb1) (fun b hb0 hb1=>hb1.elim);replace va2:=va2.nw ac;have av:=ac.size;refine LR.an ?_;refine al _ _ (CW.sr (fun ao=>?_));refine LR.m1 ?_;refine LR.m1 ?_;have hSl:=hS.lt;refine LR.call rfl c'129 rfl (Wd.u rfl) rfl rfl (write_ct H2.size _ [] 0 l w0 _ hS (hl.imp (fun b _ h=>by omega)) (fun x aa=>(hx x aa).imp (fun b _ h=>by omega))) ?_;rintro v7 H7 ⟨rfl,hS,af⟩;rw[List.nil_append,ofNat_zero_add]at hS;replace hx:=fun x aa=>(hx x aa).up af (fun b hb0 hb1 hb2=>by omega);replace hm0:=hm0.trans af (fun b hb0 hb1=>hb1) (fun b hb0 hb1=>by omega);replace va2:=va2.up af (by omega);have aw:=af.size;refine LR.nil (ao _ _ (CW.sr (fun ap=>?_)));refine LR.m1 ?_;refine LR.call rfl c'130 rfl (Wd.u rfl) rfl rfl (psum_ct _ (cat l) w0 _ hS hml) ?_;rintro v9 H9 ⟨rfl,ag⟩;replace hx:=fun x aa=>(hx x aa).up ag (fun b hb0 hb1 hb2=>hb2);replace hm0:=hm0.trans ag (fun b hb0 hb1=>hb1) (fun b hb0 hb1=>hb1.elim);replace va2:=va2.nw ag;have am:=ag.size;refine LR.s1 (S.var va2 ((sumOf (cat l)).map V8) ((sumOf (cat l)).map V8) rfl rfl rfl rfl (by intro u hu;obtain⟨x,_,rfl⟩:=List.mem_map.1 hu;rfl) s'165 (rfl) (by simp[sumOf_len]) (by simp[splice,sumOf_len])) fun aq ah=>?_;obtain⟨va2,ab⟩:=ah;replace hx:=fun x aa=>(hx x aa).up ab (fun b hb0 hb1 hb2=>by omega);replace hm0:=hm0.trans ab (fun b hb0 hb1=>hb1) (fun b hb0 hb1=>by omega);refine LR.nil (ap _ _ ?_);refine CW.ret (hret .ret (.inr rfl) _ _ _ (resC rfl rfl va2.pt a'165 s'165 (by first|rfl|simp)) ?_);exact⟨rfl,hm0⟩
end SumG

namespace E
open Go.MapKept
structure Mp {κ β:Type} (H:Heap) (fk:κ→Value) (fv:β→Value) (b:Nat) (m:List (κ×β)):Prop where
 mo:MapOf (fun x=>x=b) H fk fv (.map (some b)) m
section
variable {κ β : Type} {H H' : Heap} {fk : κ → Value} {fv : β → Value} {b k : Nat} {m : List (κ × β)} {ks : List Nat}
theorem Mp.lt(h:Mp H fk fv b m):b<H.size:=h.mo.blk_lt
theorem Mp.up{S:Nat→Prop}(h:Mp H fk fv b m)(s:Mo S H H')(hS:¬S b):Mp H' fk fv b m:=⟨h.mo.up s (fun x _ e h2=>hS (by rw[←e];exact h2))⟩
theorem Mp.nw(h:Mp H fk fv b m)(s:Nw H H'):Mp H' fk fv b m:=⟨h.mo.nw s⟩
theorem Mp.upL(x:Mp H fk fv b m)(s:Mo (Ms ks) H H')(d:DL (b+1) ks):Mp H' fk fv b m:=x.up s (fun h2=>d (b+1) h2 b rfl rfl)
end
section
variable {P : Program} {w0 : World} {n : Nat} {l : FL} {H : Heap} {o : Oper} {κ β : Type} [DecidableEq κ] {fk : κ → Value} {fv : β → Value} {b : Nat} {m : List (κ × β)} {d : TypeDesc}
theorem Z.makeMp(fk:κ→Value)(fv:β→Value){t:TypeId}(ho:o.op= .makeMap t none):Z P w0 n l H o (fun r H'=>r= .map (some H.size)∧Mp H' fk fv H.size ([]:List (κ×β))∧Nw H H'∧∃ob,H'=H.push ob):=by
 intro a w hf ha;refine⟨.map (some w.heap.size),H.push (.map #[] 0),w.alloc (.map #[] 0),?_,ha.alloc _,by rw[ha.heap],⟨H.size,#[],0,rfl,rfl,by simp,stamped_empty 0,rfl⟩,Nw.pu _ _,_,rfl⟩;simp[execOp,ho,Instr.makeMap]
theorem S.putMp{t kt et:TypeId}{x i y:Operand}{k:κ}(z:β)(h:Mp H fk fv b m)(hfk:KeyFn d fk)(ho:o.op= .mapUpdate t x i y)(hm:∀w,(underlying t).run P w= .ok (.map kt et) w)(hk:P.underlying kt=some d)
 (hx:opv l x=some (.map (some b))) (hi:opv l i=some (fk k)) (hy:opv l y=some (fv z)):S P w0 n l H o (fun H'=>Mp H' fk fv b (mput m k z)∧Mo (fun c=>c=b) H H'):=
 (S.mapUpdate h.mo hfk ho hm hk hx hi hy).mono fun H' ⟨h1,h2⟩=>⟨⟨h1⟩,h2⟩
end
theorem mget_put{κ β:Type}[DecidableEq κ](m:List (κ×β))(k:κ)(b:β)(q:κ):mget (mput m k b) q=if q=k then some b else mget m q:=by
 have h1:∀m:List (κ×β),mget (m.map (fun p=>if p.1=k then(p.1,b)else p)) q=if q=k then(mget m q).map (fun _=>b)else mget m q:=by
  intro m
  induction m with
  |nil=>simp[mget]
  |cons p m ih=>
   simp only[List.map_cons];by_cases hp:p.1=k
   ·rw[if_pos hp]
    by_cases hq:q=p.1
    ·have:q=k:=hq.trans hp
     simp[mget,hq,hp]
    ·simp only[mget]
     rw[if_neg hq,ih,if_neg hq]
   ·rw[if_neg hp]
    by_cases hq:q=p.1
    ·have:¬q=k:=fun e=>hp (by rw[←hq,e])
     simp[mget,hq,hp]
    ·simp only[mget]
     rw[if_neg hq,ih,if_neg hq]
 have h2:∀m:List (κ×β),mget (m++[(k,b)]) q=(mget m q).or (if q=k then some b else none):=by
  intro m
  induction m with
  |nil=>simp[mget]
  |cons p m ih=>
   simp only[List.cons_append,mget];split
   ·simp
   ·exact ih
 unfold mput;split
 ·rename_i h
  rw[h1];by_cases hq:q=k
  ·subst hq
   obtain⟨z,hz⟩:=Option.isSome_iff_exists.1 h;simp[hz]
  ·simp[hq]
 ·rename_i h
  rw[h2];by_cases hq:q=k
  ·subst hq
   have:mget m q=none:=by simpa using h
   simp[this]
  ·simp[hq]
section
variable {P : Program} {w0 : World} {Q : Exit → Act → World → Prop} {n : Nat} {l : FL} {H : Heap} {ops : Array Oper} {rest : List Oper} {o : Oper}
theorem LR.zn{R:Value→Heap→Prop}(hz:Z P w0 n l H o R)(hw:Wd ops l o)(hd:o.dst=none)
 (h:∀v H',R v H'→LR false P w0 ops Q n l rest H'):LR false P w0 ops Q n l (o::rest) H:=by
 intro a w hf ha;obtain⟨v,H',w',hr,ha',hR⟩:=hz a w hf ha;have hh:=h v H' hR a w' hf ha';simp only[Md]at hh⊢;unfold wpList;rw[if_pos (hw n a hf)];refine .inl ?_;unfold Oper.wp;rw[hr];show wpList P ops Q rest (a.put o.dst v) w';rw[hd];exact hh
end
section
variable {P : Program} {w0 : World} {Q : Exit → Act → World → Prop} {SH : Heap → Prop} {X : List Nat} {n k : Nat} {l : FL} {H : Heap} {ops : Array Oper} {o : Oper} {dn : List Nat}
end
end E

namespace E
open Go.MapKept
abbrev Ide:={l:List UInt8//l.length=32}
def Zid:Ide:=⟨List.replicate 32 0,by simp⟩
instance:Inhabited Ide:=⟨Zid⟩
theorem nodup_inj{α β:Type}{f:α→β}:∀{l:List α},(l.map f).Nodup→∀{x y:α},x∈l→y∈l→f x=f y→x=y
 |[],_,_,_,h,_,_=>by cases h
 |a::l,hn,x,y,hx,hy,e=>by
  simp only[List.map_cons,List.nodup_cons]at hn;rcases List.mem_cons.1 hx with rfl|hx2<;>rcases List.mem_cons.1 hy with rfl|hy2
  ·rfl
  ·exact(hn.1 (List.mem_map.2 ⟨y,hy2,e.symm⟩)).elim
  ·exact(hn.1 (List.mem_map.2 ⟨x,hx2,e⟩)).elim
  ·exact nodup_inj hn.2 hx2 hy2 e
structure KeyA {κ:Type} [DecidableEq κ] (P:Program) (kt:TypeId) (fk:κ→Value):Prop where
 und:∃len e,P.underlying kt=some (.array len e)
 check:∀em k w,(Instr.checkKey em 10000 kt (fk k)).run P w= .ok () w
 eq:∀a b w,(Op.equal kt (fk a) (fk b)).run P w= .ok (decide (a=b)) w
 same:∀k,Instr.sameBits 10000 (fk k) (fk k)=true
 inj:∀a b,fk a=fk b→a=b
section
variable {P : Program} {w0 : World} {n : Nat} {l : FL} {H : Heap} {o : Oper}
variable {κ β : Type} [DecidableEq κ] {G : Nat → Prop} {fk : κ → Value} {fv : β → Value} {v : Value} {m : List (κ × β)} {kt : TypeId} {b : Nat}
theorem find_entriesA{k:κ}{w:World}(hk:KeyA P kt fk):∀(es:List MapEntry) (m:List (κ×β)) (i:Nat),es.map (fun e=>(e.key,e.val))=m.map (fun p=>(fk p.1,fv p.2))→
 (mget m k=none∧(Instr.findAsking kt (fk k) es i).run P w= .ok none w∧∀x∈es,x.key≠fk k)∨∃j e b,mget m k=some b∧(Instr.findAsking kt (fk k) es i).run P w= .ok (some (i+j,fv b)) w∧es[j]?=some e∧e.key=fk k∧e.val=fv b
 |[],m,i,h=>by
  have:m=[]:=by cases m<;>simp_all
  subst this
  exact .inl ⟨rfl,by simp[Instr.findAsking],by simp⟩
 |e::es,m,i,h=>by
  match m,h with
  |(a,c)::m,h=>
   simp only[List.map_cons,List.cons.injEq,Prod.mk.injEq]at h;obtain⟨⟨h1,h2⟩,h3⟩:=h;have hq:=hk.eq k a w;rw[←h1]at hq;by_cases hka:k=a
   ·subst hka
    simp only[decide_true]at hq;exact .inr ⟨0,e,c,by simp[mget],by simp[Instr.findAsking,hq,h2],rfl,h1,h2⟩
   ·simp only[hka,decide_false]at hq
    rcases find_entriesA (k:=k) (w:=w) hk es m (i+1) h3 with⟨q1,q2,q3⟩|⟨j,e',b',q1,q2,q3,q4,q5⟩
    ·refine .inl ⟨?_,by simp[Instr.findAsking,hq,q2],?_⟩
     ·simp only[mget,hka,if_false];exact q1
     ·intro x hx
      cases hx with
      |head=>intro q;exact hka (hk.inj _ _ (by rw[←q,h1]))
      |tail _ hx=>exact q3 x hx
    ·refine .inr ⟨j+1,e',b',?_,?_,by simpa using q3,q4,q5⟩
     ·simp only[mget,hka,if_false];exact q1
     ·simp[Instr.findAsking,hq,q2];omega
theorem mo_set{r:Nat}(ob:Obj):Mo (fun c=>c=r) H (H.setIfInBounds r ob):=⟨by simp,fun b hb hne=>by simp[Ne.symm hne]⟩
theorem modify_entriesA{k:κ}{b:β}{key:Value}(hinj:∀a b,fk a=fk b→a=b)(hkey:key=fk k):∀(es:List MapEntry) (m:List (κ×β)) (j:Nat) (e:MapEntry),es.map (fun e=>(e.key,e.val))=m.map (fun p=>(fk p.1,fv p.2))→(es.map (·.key)).Nodup→es[j]?=some e→e.key=fk k→
 (es.modify j (fun e=>{e with key:=key,val:=fv b})).map (fun e=>(e.key,e.val))=(m.map (fun p=>if p.1=k then(p.1,b)else p)).map (fun p=>(fk p.1,fv p.2))
 |[],_,_,_,_,_,h,_=>by simp at h
 |x::es,m,j,e,h,hn,hj,he=>by
  match m,h with
  |(a,c)::m,h=>
   simp only[List.map_cons,List.cons.injEq,Prod.mk.injEq]at h;obtain⟨⟨h1,h2⟩,h3⟩:=h;simp only[List.map_cons,List.nodup_cons]at hn
   cases j with
   |zero=>
    simp only[List.getElem?_cons_zero,Option.some.injEq]at hj;subst hj;have hak:a=k:=hinj _ _ (by rw[←h1,he]);subst hak;simp only[List.modify_zero_cons,List.map_cons,if_true,hkey];congr 1;rw[h3,List.map_map];apply List.map_congr_left;intro p hp
    have:p.1≠a:=by
     intro e;apply hn.1;have:(fk p.1,fv p.2)∈es.map (fun e=>(e.key,e.val)):=by rw[h3];exact List.mem_map.2 ⟨p,hp,rfl⟩
     obtain⟨y,hy,hye⟩:=List.mem_map.1 this;simp only[Prod.mk.injEq]at hye;exact List.mem_map.2 ⟨y,hy,by rw[hye.1,e,h1]⟩
    simp[this]
   |succ j=>
    simp only[List.getElem?_cons_succ]at hj
    have hak:a≠k:=by
     intro q;subst q;apply hn.1;rw[h1,←he];exact List.mem_map.2 ⟨e,List.mem_of_getElem? hj,rfl⟩
    simp only[List.modify_succ_cons,List.map_cons,hak,if_false,h1,h2];rw[modify_entriesA hinj hkey es m j e h3 hn.2 hj he]
def mdel(m:List (κ×β))(k:κ):List (κ×β):=m.filter (fun p=>decide (p.1≠k))
theorem mget_del(m:List (κ×β))(k q:κ):mget (mdel m k) q=if q=k then none else mget m q:=by
 induction m with
 |nil=>simp[mdel,mget]
 |cons p m ih=>
  unfold mdel at ih⊢;by_cases hp:p.1=k
  ·rw[List.filter_cons_of_neg (by simp[hp]),ih]
   by_cases hq:q=k
   ·simp[hq]
   ·rw[if_neg hq,if_neg hq];simp only[mget];rw[if_neg (fun e=>hq (e.trans hp))]
  ·rw[List.filter_cons_of_pos (by simp[hp])]
   simp only[mget];by_cases hq:q=p.1
   ·rw[if_pos hq,if_pos hq,if_neg (fun e=>hp (hq.symm.trans e))]
   ·rw[if_neg hq,if_neg hq,ih]
theorem mget_mem{m:List (κ×β)}{k:κ}{z:β}(h:mget m k=some z):(k,z)∈m:=by
 induction m with
 |nil=>cases h
 |cons p m ih=>
  simp only[mget]at h;split at h
  ·rename_i e;cases h;rw[e];exact .head _
  ·exact .tail _ (ih h)
theorem mget_none{m:List (κ×β)}{k:κ}(h:mget m k=none):∀p∈m,p.1≠k:=by
 induction m with
 |nil=>simp
 |cons p m ih=>
  simp only[mget]at h;split at h
  ·cases h
  ·rename_i hne
   intro q hq e
   cases hq with
   |head=>exact hne e.symm
   |tail _ hq=>exact ih h q hq e
theorem mget_of_mem{m:List (κ×β)}(hn:(m.map (·.1)).Nodup){k:κ}{z:β}(h:(k,z)∈m):mget m k=some z:=by
 induction m with
 |nil=>cases h
 |cons p m ih=>
  simp only[List.map_cons,List.nodup_cons]at hn;simp only[mget]
  cases h with
  |head=>simp
  |tail _ h=>
   rw[if_neg ?_]
   ·exact ih hn.2 h
   ·intro e
    exact hn.1 (List.mem_map.2 ⟨(k,z),h,e⟩)
theorem isSome_iff_key{m:List (κ×β)}{k:κ}:(mget m k).isSome=true↔k∈m.map (·.1):=by
 constructor
 ·intro h
  obtain⟨z,hz⟩:=Option.isSome_iff_exists.1 h;exact List.mem_map.2 ⟨_,mget_mem hz,rfl⟩
 ·intro h
  obtain⟨p,hp,e⟩:=List.mem_map.1 h
  cases hg:mget m k with
  |some z=>rfl
  |none=>exact absurd e (mget_none hg p hp)
theorem erase_entries{k:κ}(hinj:∀a b,fk a=fk b→a=b):∀(es:List MapEntry) (m:List (κ×β)) (j:Nat) (e:MapEntry),es.map (fun e=>(e.key,e.val))=m.map (fun p=>(fk p.1,fv p.2))→(es.map (·.key)).Nodup→es[j]?=some e→e.key=fk k→
 (es.eraseIdx j).map (fun e=>(e.key,e.val))=(mdel m k).map (fun p=>(fk p.1,fv p.2))
 |[],_,_,_,_,_,h,_=>by simp at h
 |x::es,m,j,e,h,hn,hj,he=>by
  match m,h with
  |(a,c)::m,h=>
   simp only[List.map_cons,List.cons.injEq,Prod.mk.injEq]at h;obtain⟨⟨h1,h2⟩,h3⟩:=h;simp only[List.map_cons,List.nodup_cons]at hn
   cases j with
   |zero=>
    simp only[List.getElem?_cons_zero,Option.some.injEq]at hj;subst hj;have hak:a=k:=hinj _ _ (by rw[←h1,he]);subst hak
    have hm:mdel ((a,c)::m) a=m:=by
     unfold mdel;rw[List.filter_cons_of_neg (by simp)];apply List.filter_eq_self.2;intro p hp;simp only[decide_eq_true_eq];intro e;apply hn.1;have:(fk p.1,fv p.2)∈es.map (fun e=>(e.key,e.val)):=by rw[h3];exact List.mem_map.2 ⟨p,hp,rfl⟩
     obtain⟨y,hy,hye⟩:=List.mem_map.1 this;simp only[Prod.mk.injEq]at hye;exact List.mem_map.2 ⟨y,hy,by rw[hye.1,e,h1]⟩
    rw[hm]
    simpa using h3
   |succ j=>
    simp only[List.getElem?_cons_succ]at hj
    have hak:a≠k:=by
     intro q;subst q;apply hn.1;rw[h1,←he];exact List.mem_map.2 ⟨e,List.mem_of_getElem? hj,rfl⟩
    have hm:mdel ((a,c)::m) k=(a,c)::mdel m k:=by
     unfold mdel;rw[List.filter_cons_of_pos (by simp[hak])]
    rw[hm];simp only[List.eraseIdx_cons_succ,List.map_cons,h1,h2];rw[erase_entries hinj es m j e h3 hn.2 hj he]
theorem Mp.le(h:Mp H fk fv b m):b+1≤H.size:=h.lt
structure Mr (H:Heap) (fk:κ→Value) (fv:β→Value) (b:Nat) (m:List (κ×β)) (es:Array MapEntry) (clock:Nat):Prop where
 at_:H[b]?=some (.map es clock)
 st:Stamped es clock
 eq:es.toList.map (fun e=>(e.key,e.val))=m.map (fun p=>(fk p.1,fv p.2))
theorem Mp.raw(h:Mp H fk fv b m):∃es clock,Mr H fk fv b m es clock:=by
 obtain⟨r,es,clock,hv,h2,h3,h4,h5⟩:=h.mo.ex;obtain rfl:=h2;exact⟨es,clock,h3,h4,h5⟩
section
variable {es : Array MapEntry} {clock : Nat} {H' : Heap}
theorem Mr.mp(h:Mr H fk fv b m es clock):Mp H fk fv b m:=⟨⟨b,es,clock,rfl,rfl,h.at_,h.st,h.eq⟩⟩
theorem Mr.lt(h:Mr H fk fv b m es clock):b<H.size:=h.mp.lt
theorem Mr.up{S:Nat→Prop}(h:Mr H fk fv b m es clock)(s:Mo S H H')(hS:¬S b):Mr H' fk fv b m es clock:=⟨by rw[s.same b h.lt hS];exact h.at_,h.st,h.eq⟩
theorem Mr.nw(h:Mr H fk fv b m es clock)(s:Nw H H'):Mr H' fk fv b m es clock:=h.up s (fun e=>e)
theorem Mr.upL{ks:List Nat}(h:Mr H fk fv b m es clock)(s:Mo (Ms ks) H H')(d:DL (b+1) ks):Mr H' fk fv b m es clock:=h.up s (fun h2=>d (b+1) h2 b rfl rfl)
theorem Mr.mo(h:Mr H fk fv b m es clock):MapOf (fun x=>x=b) H fk fv (.map (some b)) m:=h.mp.mo
end
structure Itr (H:Heap) (b r:Nat) (fk:κ→Value) (es:Array MapEntry) (clock:Nat) (dn:List κ):Prop where
 ex:∃vis:List MapEntry,H[b]?=some (.mapIter (some r) clock (vis.map (·.born)).toArray clock)∧(∀e∈vis,e∈es.toList)∧vis.map (·.key)=dn.map fk
section
variable {es : Array MapEntry} {clock r : Nat} {H' : Heap} {dn : List κ}
theorem Itr.lt(h:Itr H b r fk es clock dn):b<H.size:=by
 obtain⟨vis,h1,_⟩:=h.ex;exact(Array.getElem?_eq_some_iff.1 h1).1
theorem Itr.up{S:Nat→Prop}(h:Itr H b r fk es clock dn)(s:Mo S H H')(hS:¬S b):Itr H' b r fk es clock dn:=by
 obtain⟨vis,h1,h2⟩:=h.ex;exact⟨vis,by rw[s.same b h.lt hS];exact h1,h2⟩
theorem Itr.nw(h:Itr H b r fk es clock dn)(s:Nw H H'):Itr H' b r fk es clock dn:=h.up s (fun e=>e)
theorem Itr.upL{ks:List Nat}(h:Itr H b r fk es clock dn)(s:Mo (Ms ks) H H')(d:DL (b+1) ks):Itr H' b r fk es clock dn:=h.up s (fun h2=>d (b+1) h2 b rfl rfl)
theorem Z.rangeA{t et:TypeId}{x:Operand}(h:Mr H fk fv b m es clock)(ho:o.op= .range t x)(hm:∀w,(underlying t).run P w= .ok (.map kt et) w)(hx:opv l x=some (.map (some b))):
 Z P w0 n l H o (fun v H'=>v= .pointer (some ⟨H.size,0,none⟩)∧Itr H' H.size b fk es clock ([]:List κ)∧Nw H H'∧∃ob,H'=H.push ob):=by
 intro ac w hf ha;have h3':w.heap[b]?=some (.map es clock):=by rw[ha.heap];exact h.at_
 refine⟨.pointer (some ⟨w.heap.size,0,none⟩),H.push (.mapIter (some b) clock #[] clock),w.alloc (.mapIter (some b) clock #[] clock),?_,ha.alloc _,by rw[ha.heap],⟨[],by simp,by simp,rfl⟩,Nw.pu _ _,_,rfl⟩;simp[execOp,ho,hf.eval hx,Instr.range,hm,MapKept.run_getObj_map h3']
def nxt(q:Bool)(a c:Value):Value:= .tuple (if q then #[.bool true,a,c]else #[.bool false])
theorem Y.ext0{x:Operand}{q:Bool}{a c:Value}(ho:o.op= .extract x 0)(hx:opv l x=some (nxt q a c)):Y P w0 n l H o (.bool q):=by
 intro ac w hf ha;cases q<;>simp[execOp,ho,hf.eval hx,nxt,Instr.extract]
theorem seen_mem(hinj:∀a b,fk a=fk b→a=b){m:List (κ×β)}{vis:List MapEntry}(hs:Stamped es clock)(hv:∀e∈vis,e∈es.toList)(hd:vis.map (·.key)=dn.map fk){e:MapEntry}(he:e∈es.toList){a:κ}(ha:e.key=fk a):e.born∈vis.map (·.born)↔a∈dn:=by
 have uniqB:∀x∈es.toList,∀y∈es.toList,x.born=y.born→x=y:=fun x hx y hy hb=>nodup_inj hs.2.1 hx hy hb;have uniqK:∀x∈es.toList,∀y∈es.toList,x.key=y.key→x=y:=fun x hx y hy hb=>nodup_inj hs.2.2 hx hy hb;constructor
 ·intro h
  obtain⟨y,hy,hb⟩:=List.mem_map.1 h;have:=uniqB y (hv y hy) e he hb;subst this;have h2:y.key∈dn.map fk:=by rw[←hd];exact List.mem_map.2 ⟨y,hy,rfl⟩
  obtain⟨c,hc,hce⟩:=List.mem_map.1 h2;rw[hinj _ _ (ha.symm.trans hce.symm)];exact hc
 ·intro h
  have h2:fk a∈vis.map (·.key):=by rw[hd];exact List.mem_map.2 ⟨a,h,rfl⟩
  obtain⟨y,hy,hk⟩:=List.mem_map.1 h2;have:=uniqK y (hv y hy) e he (hk.trans ha.symm);subst this;exact List.mem_map.2 ⟨y,hy,rfl⟩
theorem Z.nextA{x:Operand}[Inhabited κ][Inhabited β](h:Itr H b r fk es clock dn)(hmr:Mr H fk fv r m es clock)(hinj:∀a b,fk a=fk b→a=b)(ho:o.op= .next x false)(hx:opv l x=some (.pointer (some ⟨b,0,none⟩))):
 Z P w0 n l H o (fun v H'=>∃(q:Bool) (a:κ) (c:β) (dn':List κ),v=nxt q (fk a) (fv c)∧Itr H' b r fk es clock dn'∧(q=true→(a,c)∈m∧a∉dn∧dn'=dn++[a])∧(q=false→(∀p∈m,p.1∈dn)∧dn'=dn)∧Mo (fun g=>g=b) H H'):=by
 intro ac w hf ha;obtain⟨vis,h1,h2,h3⟩:=h.ex;have h1':w.heap[b]?=some (.mapIter (some r) clock (vis.map (·.born)).toArray clock):=by rw[ha.heap];exact h1
 have hm':w.heap[r]?=some (.map es clock):=by rw[ha.heap];exact hmr.at_
 have hold:∀x∈es.toList,x.born<clock:=hmr.st.1;have hlt:=h.lt
 have pairs:∀e∈es.toList,∃a c,(a,c)∈m∧e.key=fk a∧e.val=fv c:=by
  intro e he;have:(e.key,e.val)∈m.map (fun p=>(fk p.1,fv p.2)):=by rw[←hmr.eq];exact List.mem_map.2 ⟨e,he,rfl⟩
  obtain⟨p,hp,hpe⟩:=List.mem_map.1 this;simp only[Prod.mk.injEq]at hpe;exact⟨p.1,p.2,hp,hpe.1.symm,hpe.2.symm⟩
 rcases run_next_at (P:=P) w o.type b r clock clock _ es clock h1' hm' hold (Nat.le_refl _)with⟨hl,hr⟩|⟨e,he,w1,hw1,hr⟩
 ·refine⟨.tuple #[.bool false],H,w,by simp[execOp,ho,hf.eval hx,hr],ha,false,default,default,dn,rfl,h,by simp,fun _=>⟨fun p hp=>?_,rfl⟩,Mo.refl _ _⟩
  have:(fk p.1,fv p.2)∈es.toList.map (fun e=>(e.key,e.val)):=by rw[hmr.eq];exact List.mem_map.2 ⟨p,hp,rfl⟩
  obtain⟨e,he,hee⟩:=List.mem_map.1 this;simp only[Prod.mk.injEq]at hee;have hs:=all_seen es _ hl e he;refine(seen_mem (m:=m) hinj hmr.st h2 h3 he hee.1).1 ?_
  simpa using hs
 ·obtain⟨hes,hns⟩:=mem_left he
  obtain⟨a,c,hac,hk,hv⟩:=pairs e hes
  have hw1':At w0 H w1:=by
   rcases hw1 with rfl|rfl
   ·exact ha
   ·exact ha.drew
  refine⟨.tuple #[.bool true,e.key,e.val],H.setIfInBounds b (.mapIter (some r) clock ((vis.map (·.born)).toArray.push e.born) clock),_,by simp[execOp,ho,hf.eval hx,hr];rfl,?_,true,a,c,dn++[a],by rw[hk,hv];rfl,⟨vis++[e],?_,?_,?_⟩,fun _=>⟨hac,?_,rfl⟩,by simp,mo_set _⟩
  ·exact⟨by simp[ChangeMaps.setBlock,hw1'.heap],hw1'.os,hw1'.tape,hw1'.output,hw1'.dr⟩
  ·simp[hlt]
  ·intro x hx
   rcases List.mem_append.1 hx with h|h
   ·exact h2 x h
   ·simp only[List.mem_singleton]at h;subst h;exact hes
  ·simp[h3,hk]
  ·intro had
   have:=(seen_mem (m:=m) hinj hmr.st h2 h3 hes hk).2 had;simp at hns;simp at this;obtain⟨x,hx,hxe⟩:=this;exact hns x hx hxe
theorem Y.entryA{x:Operand}{a:κ}{c:β}(h:Itr H b r fk es clock (dn++[a]))(hmr:Mr H fk fv r m es clock)(hinj:∀a b,fk a=fk b→a=b)(hac:(a,c)∈m)(ho:o.op= .entry x)(hx:opv l x=some (.pointer (some ⟨b,0,none⟩))):Y P w0 n l H o (.tuple #[fk a,fv c]):=by
 intro ac w hf ha;obtain⟨vis,h1,h2,h3⟩:=h.ex;have h1':w.heap[b]?=some (.mapIter (some r) clock (vis.map (·.born)).toArray clock):=by rw[ha.heap];exact h1
 have hm':w.heap[r]?=some (.map es clock):=by rw[ha.heap];exact hmr.at_
 have hne:vis≠[]:=by intro e;subst e;simp at h3
 obtain⟨e,he⟩:∃e,vis.getLast?=some e:=by
  rw[List.getLast?_eq_some_getLast hne];exact⟨_,rfl⟩
 have hev:e∈vis:=List.mem_of_getLast? he
 have hek:e.key=fk a:=by
  have:=congrArg List.getLast? h3
  simpa[he]using this
 have hes:=h2 e hev;have hback:(vis.map (·.born)).toArray.back?=some e.born:=by simp[he]
 have hfind:es.find? (fun x=>x.born==e.born)=some e:=by
  rw[←Array.find?_toList]
  obtain⟨x,hx⟩:∃x,es.toList.find? (fun x=>x.born==e.born)=some x:=by
   rw[←Option.isSome_iff_exists,List.find?_isSome];exact⟨e,hes,by simp⟩
  have hxm:=List.mem_of_find?_eq_some hx;have hxb:=List.find?_some hx;simp only[beq_iff_eq]at hxb;rw[hx,nodup_inj hmr.st.2.1 hxm hes hxb]
 have hval:e.val=fv c:=by
  have:(fk a,fv c)∈es.toList.map (fun e=>(e.key,e.val)):=by rw[hmr.eq];exact List.mem_map.2 ⟨_,hac,rfl⟩
  obtain⟨y,hy,hye⟩:=List.mem_map.1 this;simp only[Prod.mk.injEq]at hye;have:=nodup_inj hmr.st.2.2 hy hes (hye.1.trans hek.symm);rw[←this];exact hye.2
 simp[execOp,ho,hf.eval hx,Instr.entry,getObj,Sem.run,h1',hm',hback,hfind,hek,hval]
end
end
section
variable {P : Program} {w0 : World} {n : Nat} {l : FL} {H : Heap} {o : Oper}
end
section
variable {P : Program} {w0 : World} {Q : Exit → Act → World → Prop} {n : Nat} {l : FL} {H : Heap} {ops : Array Oper} {rest : List Oper} {o : Oper}
end
section
variable {P : Program} {w0 : World} {Q : Exit → Act → World → Prop} {n k i : Nat} {dn : List Nat} {l : FL} {H : Heap} {ops : Array Oper} {o : Oper} {SH : Heap → Prop} {X : List Nat}
end
end E

namespace E
abbrev Pth:=List UInt8
def blt(a b:Pth):Prop:=Op.bytesLess a b=true
instance (a b:Pth):Decidable (blt a b):=inferInstanceAs (Decidable (_=_))
theorem blt_irr(a:Pth):¬blt a a:=by
 unfold blt
 induction a with
 |nil=>simp[Op.bytesLess]
 |cons x a ih=>simp only[Op.bytesLess];simpa using ih
theorem blt_total:∀{a b:Pth},¬blt a b→¬blt b a→a=b
 |[],[],_,_=>rfl
 |[],_::_,h,_=>by simp[blt,Op.bytesLess]at h
 |_::_,[],_,h=>by simp[blt,Op.bytesLess]at h
 |x::a,y::b,h1,h2=>by
  simp only[blt,Op.bytesLess]at h1 h2;by_cases e1:x<y
  ·simp[e1]at h1
  ·by_cases e2:y<x
   ·simp[e2]at h2
   ·have:x=y:=by apply UInt8.toNat.inj;rw[UInt8.lt_iff_toNat_lt]at e1 e2;omega
    subst this;rw[blt_total (a:=a) (b:=b) (by simpa[blt]using h1) (by simpa[blt]using h2)]
theorem blt_trans:∀{a b c:Pth},blt a b→blt b c→blt a c
 |[],[],_,h,_=>by simp[blt,Op.bytesLess]at h
 |_::_,[],_,h,_=>by simp[blt,Op.bytesLess]at h
 |_,_::_,[],_,h=>by simp[blt,Op.bytesLess]at h
 |[],_::_,_::_,_,_=>by simp[blt,Op.bytesLess]
 |x::a,y::b,z::c,h1,h2=>by
  simp only[blt,Op.bytesLess,Bool.or_eq_true,decide_eq_true_eq,Bool.and_eq_true,beq_iff_eq]at h1 h2⊢;rcases h1 with h1|⟨rfl,h1⟩
  ·rcases h2 with h2|⟨rfl,h2⟩
   ·left;rw[UInt8.lt_iff_toNat_lt]at*;omega
   ·exact .inl h1
  ·rcases h2 with h2|⟨rfl,h2⟩
   ·exact .inl h2
   ·exact .inr ⟨rfl,blt_trans h1 h2⟩
theorem blt_asym{a b:Pth}(h:blt a b):¬blt b a:=fun h2=>blt_irr a (blt_trans h h2)
theorem blt_ne{a b:Pth}(h:blt a b):a≠b:=fun e=>by subst e;exact blt_irr a h
def Rise(l:List Pth):Prop:=l.Pairwise blt
theorem rise_nodup{l:List Pth}(h:Rise l):l.Nodup:=by
 rw[List.nodup_iff_pairwise_ne];exact h.imp (fun h=>blt_ne h)
theorem rise_ext:∀{a b:List Pth},Rise a→Rise b→(∀x,x∈a↔x∈b)→a=b
 |[],[],_,_,_=>rfl
 |[],y::b,_,_,h=>by have:=(h y).2 List.mem_cons_self;cases this
 |x::a,[],_,_,h=>by have:=(h x).1 List.mem_cons_self;cases this
 |x::a,y::b,ha,hb,h=>by
  unfold Rise at ha hb;rw[List.pairwise_cons]at ha hb
  have e:x=y:=by
   rcases List.mem_cons.1 ((h x).1 List.mem_cons_self)with e|h1
   ·exact e
   ·rcases List.mem_cons.1 ((h y).2 List.mem_cons_self)with e|h2
    ·exact e.symm
    ·exact absurd (ha.1 _ h2) (blt_asym (hb.1 _ h1))
  subst e;congr 1;refine rise_ext ha.2 hb.2 (fun z=>⟨fun hz=>?_,fun hz=>?_⟩)
  ·rcases List.mem_cons.1 ((h z).1 (List.mem_cons_of_mem _ hz))with e|h1
   ·subst e;exact absurd (ha.1 _ hz) (blt_irr _)
   ·exact h1
  ·rcases List.mem_cons.1 ((h z).2 (List.mem_cons_of_mem _ hz))with e|h1
   ·subst e;exact absurd (hb.1 _ hz) (blt_irr _)
   ·exact h1
abbrev Nms:=List (Pth×Nat)
def Asc(l:Nms):Prop:=l.Pairwise (fun x y=>blt x.1 y.1)
theorem Asc.rise{l:Nms}(h:Asc l):Rise (l.map (·.1)):=by unfold Rise;rw[List.pairwise_map];exact h
theorem Asc.nodup{l:Nms}(h:Asc l):(l.map (·.1)).Nodup:=rise_nodup h.rise
theorem Asc.filter{l:Nms}(h:Asc l)(p:Pth×Nat→Bool):Asc (l.filter p):=List.Pairwise.filter _ h
def nput:Nms→Pth→Nat→Nms
 |[],p,i=>[(p,i)]
 |x::l,p,i=>if blt x.1 p then x::nput l p i else if x.1=p then(p,i)::l else(p,i)::x::l
theorem mget_nput(l:Nms)(p:Pth)(i:Nat)(q:Pth):mget (nput l p i) q=if q=p then some i else mget l q:=by
 induction l with
 |nil=>simp[nput,mget]
 |cons x l ih=>
  unfold nput;split
  ·rename_i h
   simp only[mget,ih];by_cases hq:q=x.1
   ·have:¬q=p:=fun e=>blt_ne h (by rw[←hq,e])
    rw[if_pos hq,if_pos hq,if_neg this]
   ·rw[if_neg hq,if_neg hq]
  ·split
   ·rename_i h1 h2
    simp only[mget];by_cases hq:q=p
    ·simp[hq]
    ·rw[if_neg hq,if_neg hq,if_neg (fun e=>hq (e.trans h2))]
   ·simp only[mget]
theorem mem_nput{l:Nms}{p:Pth}{i:Nat}{x:Pth×Nat}(h:x∈nput l p i):x=(p,i)∨x∈l:=by
 induction l with
 |nil=>simp[nput]at h;exact .inl h
 |cons y l ih=>
  unfold nput at h;split at h
  ·rcases List.mem_cons.1 h with e|h
   ·exact .inr (by rw[e];exact List.mem_cons_self)
   ·rcases ih h with e|h
    ·exact .inl e
    ·exact .inr (List.mem_cons_of_mem _ h)
  ·split at h
   ·rcases List.mem_cons.1 h with e|h
    ·exact .inl e
    ·exact .inr (List.mem_cons_of_mem _ h)
   ·rcases List.mem_cons.1 h with e|h
    ·exact .inl e
    ·exact .inr h
theorem asc_nput{l:Nms}(h:Asc l)(p:Pth)(i:Nat):Asc (nput l p i):=by
 induction l with
 |nil=>exact List.pairwise_singleton _ _
 |cons x l ih=>
  unfold Asc at h⊢;rw[List.pairwise_cons]at h;unfold nput;split
  ·rename_i h1
   rw[List.pairwise_cons];refine⟨fun y hy=>?_,ih h.2⟩;rcases mem_nput hy with e|hy
   ·rw[e];exact h1
   ·exact h.1 y hy
  ·rename_i h1
   split
   ·rename_i h2
    rw[List.pairwise_cons];exact⟨fun y hy=>by rw[←h2];exact h.1 y hy,h.2⟩
   ·rename_i h2
    have h3:blt p x.1:=Classical.byContradiction (fun h3=>h2 (blt_total h1 h3));rw[List.pairwise_cons];refine⟨fun y hy=>?_,List.pairwise_cons.2 h⟩;rcases List.mem_cons.1 hy with e|hy
    ·rw[e];exact h3
    ·exact blt_trans h3 (h.1 y hy)
theorem asc_ext{a b:Nms}(ha:Asc a)(hb:Asc b)(h:∀p,mget a p=mget b p):a=b:=by
 have hk:a.map (·.1)=b.map (·.1):=rise_ext ha.rise hb.rise (fun x=>by rw[←isSome_iff_key,←isSome_iff_key,h])
 have key:∀(a b:Nms),a.map (·.1)=b.map (·.1)→Asc a→Asc b→(∀p,mget a p=mget b p)→a=b:=by
  intro a
  induction a with
  |nil=>intro b hk _ _ _;cases b with
   |nil=>rfl
   |cons y b=>cases hk
  |cons x a ih=>
   intro b hk ha hb h
   cases b with
   |nil=>cases hk
   |cons y b=>
    simp only[List.map_cons,List.cons.injEq]at hk
    have e2:x.2=y.2:=by
     have:=h x.1;simp only[mget,if_pos,hk.1]at this;exact Option.some.inj this
    have e:x=y:=Prod.ext hk.1 e2;subst e;congr 1;refine ih b hk.2 (List.pairwise_cons.1 ha).2 (List.pairwise_cons.1 hb).2 (fun p=>?_);have h1:=h p;simp only[mget]at h1;by_cases hp:p=x.1
    ·have n1:mget a p=none:=Option.not_isSome_iff_eq_none.1 (fun q=>by
      rw[isSome_iff_key]at q;obtain⟨z,hz,e⟩:=List.mem_map.1 q;exact blt_ne ((List.pairwise_cons.1 ha).1 z hz) (by rw[e,hp]))
     have n2:mget b p=none:=Option.not_isSome_iff_eq_none.1 (fun q=>by
      rw[isSome_iff_key]at q;obtain⟨z,hz,e⟩:=List.mem_map.1 q;exact blt_ne ((List.pairwise_cons.1 hb).1 z hz) (by rw[e,hp]))
     rw[n1,n2]
    ·rw[if_neg hp,if_neg hp]at h1;exact h1
 exact key a b hk ha hb h
theorem asc_del{l:Nms}(h:Asc l)(p:Pth):Asc (mdel l p):=List.Pairwise.filter _ h
theorem mget_filter{l:Nms}{f:Pth→Bool}(p:Pth):mget (l.filter (fun x=>f x.1)) p=if f p=true then mget l p else none:=by
 induction l with
 |nil=>simp[mget]
 |cons x l ih=>
  by_cases hx:f x.1=true
  ·rw[List.filter_cons_of_pos (by simpa using hx)]
   simp only[mget,ih];by_cases hp:p=x.1
   ·rw[if_pos hp,if_pos hp,hp,if_pos hx]
   ·rw[if_neg hp,if_neg hp]
  ·rw[List.filter_cons_of_neg (by simpa using hx),ih]
   simp only[mget];by_cases hp:p=x.1
   ·rw[hp,if_neg hx,if_neg hx]
   ·rw[if_neg hp]
def okc(c:UInt8):Bool:=(97≤c&&c≤122)||(48≤c&&c≤57)||c==46||c==95||c==45||c==47
def slk(p:Pth):Bool:=(List.range p.length).all (fun i=> !(p.getD i 0==47&&(i==0||i==p.length-1||p.getD (i-1) 0==47)))
def nameB(p:Pth):Bool:=decide (1≤p.length)&&decide (p.length≤100)&&p.all okc&&slk p
def headP(p:Pth):Pth:=p.take (p.length-1-(p.reverse.takeWhile (fun c=>c≠47)).length)
def dirP(p:Pth):Pth:=if nameB p=true then headP p else[]
structure Chg where
 g:Pth
 n:Pth
 f:Option Nat
 deriving DecidableEq
def Chg.ap(c:Chg)(l:Nms):Nms:=
 let l1:=if c.g=[]then l else mdel l c.g
 match c.f with
 |none=>l1
 |some i=>nput l1 c.n i
def Chg.dir(c:Chg):Pth:=dirP (if c.g=[]then c.n else c.g)
def apl(cs:List Chg)(l:Nms):Nms:=cs.foldl (fun l c=>c.ap l) l
theorem apl_app(a b:List Chg)(l:Nms):apl (a++b) l=apl b (apl a l):=by unfold apl;rw[List.foldl_append]
theorem asc_ap{l:Nms}(h:Asc l)(c:Chg):Asc (c.ap l):=by
 unfold Chg.ap;have h1:Asc (if c.g=[]then l else mdel l c.g):=by split;exact h;exact asc_del h _
 cases c.f with
 |none=>exact h1
 |some i=>exact asc_nput h1 _ _
theorem asc_apl{l:Nms}(h:Asc l):∀cs:List Chg,Asc (apl cs l):=by
 intro cs
 induction cs generalizing l with
 |nil=>exact h
 |cons c cs ih=>exact ih (asc_ap h c)
def Chg.at(c:Chg)(q:Pth)(o:Option Nat):Option Nat:=
 match c.f with
 |none=>if c.g≠[]∧q=c.g then none else o
 |some i=>if q=c.n then some i else if c.g≠[]∧q=c.g then none else o
theorem mget_ap(c:Chg)(l:Nms)(q:Pth):mget (c.ap l) q=c.at q (mget l q):=by
 unfold Chg.ap Chg.at
 cases c.f with
 |none=>
  simp only;by_cases hg:c.g=[]
  ·simp[hg]
  ·rw[if_neg hg,mget_del];simp[hg]
 |some i=>
  simp only;rw[mget_nput];by_cases hg:c.g=[]
  ·simp[hg]
  ·rw[if_neg hg,mget_del];simp[hg]
structure Wr where
 b:Bool
 d:List UInt8
 deriving DecidableEq,Inhabited
structure Fdt where
 now:List UInt8
 stays:List UInt8
 w:List Wr
 deriving DecidableEq,Inhabited
def Wr.on(w:Wr)(b:List UInt8)(n:Nat):List UInt8:=(if w.b=true then b else[])++w.d.take n
def Wr.ways(w:Wr):Nat:=max 1 (2*w.d.length)
def Wr.part(w:Wr)(b:List UInt8)(way:Nat):List UInt8:=
 if way<w.d.length∨w.d.length=0 then w.on b (min (way+1) w.d.length)else w.on b (way-w.d.length)++List.replicate (w.d.length-(way-w.d.length)) 0
def waysF(ws:List Wr):Nat:=1+(ws.map Wr.ways).sum
def wayW:List Wr→List UInt8→Nat→List UInt8
 |[],b,_=>b
 |w::ws,b,k=>if k=0 then b else if k≤w.ways then w.part b (k-1)else wayW ws (w.on b w.d.length) (k-w.ways)
def onAll(ws:List Wr)(b:List UInt8):List UInt8:=ws.foldl (fun b w=>w.on b w.d.length) b
structure Dk where
 cap:Nat
 most:Nat
 fs:List Fdt
 now:Nms
 stays:Nms
 log:List Chg
 ops:Nat
 left:Nat
 dead:Bool
def fget(fs:List Fdt)(i:Nat):Fdt:=fs.getD i ⟨[],[],[]⟩
def Dk.empty(cap most:Nat):Dk:=⟨cap,most,[],[],[],[],0,0,false⟩
def Dk.begin(d:Dk):Bool×Dk:=
 if d.dead=true then(false,d)
 else if d.left=1 then(false,{d with left:=0,dead:=true})
 else(true,{d with left:=d.left-1,ops:=d.ops+1})
def Dk.look(d:Dk)(p:Pth):Nat:=if nameB p=true then(if(mget d.now p).isSome then 0 else 2)else 7
def usedL(fs:List Fdt)(l:Nms):Nat:=(l.map (fun x=>(fget fs x.2).now.length)).sum
def Dk.used(d:Dk):Nat:=usedL d.fs d.now
def Dk.chgs(d:Dk)(n:Pth):List Chg:=d.log.filter (fun c=>c.dir=n)
def Dk.change(d:Dk)(c:Chg):Dk:={d with now:=c.ap d.now,log:=d.log++[c]}
def Dk.make(d:Dk)(p:Pth):Dk×Nat:=match mget d.now p with
 |some i=>(d,i)
 |none=>(({d with fs:=d.fs++[⟨[],[],[]⟩]}:Dk).change ⟨[],p,some d.fs.length⟩,d.fs.length)
def Dk.wasL(d:Dk)(p:Pth):List UInt8:=match mget d.now p with
 |some i=>(fget d.fs i).now
 |none=>[]
def Dk.putF(d:Dk)(i:Nat)(x:Fdt):Dk:={d with fs:=d.fs.set i x}
def Dk.write(d:Dk)(p:Pth)(w:Wr):Dk:=
 let(d2,i):=d.make p
 d2.putF i ⟨w.on (fget d2.fs i).now w.d.length,(fget d2.fs i).stays,(fget d2.fs i).w++[w]⟩
def Dk.layE(d:Dk)(p:Pth)(w:Wr):Nat:=
 if nameB p=false then 7
 else if d.most<(w.on (d.wasL p) w.d.length).length then 5
 else if d.cap+(d.wasL p).length<d.used+(w.on (d.wasL p) w.d.length).length then 12
 else 0
def Dk.lay(d:Dk)(p:Pth)(w:Wr):Nat×Dk:=
 let(g,d1):=d.begin
 if g=false then(11,d1)else(d1.layE p w,if d1.layE p w=0 then d1.write p w else d1)
def Dk.syncF(d:Dk)(i:Nat):Dk:=d.putF i ⟨(fget d.fs i).now,(fget d.fs i).now,[]⟩
def Dk.sync(d:Dk)(p:Pth):Nat×Dk:=
 let(g,d1):=d.begin
 if g=false then(11,d1)else(d1.look p,if d1.look p=0 then d1.syncF ((mget d1.now p).getD 0)else d1)
def Dk.renE(d:Dk)(a b:Pth):Nat:=
 if nameB a=false∨nameB b=false then 7 else if dirP a≠dirP b then 13 else d.look a
def Dk.rename(d:Dk)(a b:Pth):Nat×Dk:=
 let(g,d1):=d.begin
 if g=false then(11,d1)else(d1.renE a b,if d1.renE a b=0∧a≠b then d1.change ⟨a,b,some ((mget d1.now a).getD 0)⟩else d1)
def merge(now stays:Nms)(n:Pth):Nms:=(now.filter (fun x=>dirP x.1=n)).foldl (fun l x=>nput l x.1 x.2) (stays.filter (fun x=> !decide (dirP x.1=n)))
def Dk.stayD(d:Dk)(n:Pth):Dk:={d with stays:=merge d.now d.stays n,log:=d.log.filter (fun c=> !decide (c.dir=n))}
def dirE(n:Pth):Nat:=if n≠[]∧nameB n=false then 7 else 0
def Dk.syncDir(d:Dk)(n:Pth):Nat×Dk:=
 let(g,d1):=d.begin
 if g=false then(11,d1)else(dirE n,if dirE n=0 then d1.stayD n else d1)
def Dk.readE(d:Dk)(p:Pth):Nat:=if d.dead=true then 11 else d.look p
def Dk.readL(d:Dk)(p:Pth):List UInt8:=if d.readE p=0 then d.wasL p else[]
def Dk.stop(d:Dk)(n:Nat):Dk:={d with left:=n}
def pickN(picks:List Int)(at_ of:Nat):Nat:=if at_<picks.length then(picks.getD at_ 0%(of:Int)).toNat else 0
def crashD(picks:List Int)(d:Dk)(s:Nms×Nat)(n:Pth):Nms×Nat:=
 if d.chgs n=[]then s else(apl ((d.chgs n).take (pickN picks s.2 ((d.chgs n).length+1))) s.1,s.2+1)
def crashF(picks:List Int)(s:List Fdt×Nat)(x:Pth×Nat):List Fdt×Nat:=
 let f:=fget s.1 x.2
 if f.w=[]then s
 else
  let b:=wayW f.w f.stays (pickN picks s.2 (waysF f.w))
  (s.1.set x.2 ⟨b,b,[]⟩,s.2+1)
def insP:List Pth→Pth→List Pth
 |[],p=>[p]
 |x::l,p=>if blt x p then x::insP l p else if x=p then x::l else p::x::l
def Dk.dirty(d:Dk):List Pth:=(d.log.map Chg.dir).foldl insP []
def Dk.crashN(d:Dk)(picks:List Int):Nms×Nat:=d.dirty.foldl (crashD picks d) (d.stays,0)
def Dk.crashA(d:Dk)(picks:List Int):List Fdt×Nat:=(d.crashN picks).1.foldl (crashF picks) (d.fs,(d.crashN picks).2)
def Dk.crash(d:Dk)(picks:List Int):Dk:=
 {d with fs:=(d.crashA picks).1,now:=(d.crashN picks).1,stays:=(d.crashN picks).1,log:=[],left:=0,dead:=false}
theorem mem_insP{l:List Pth}{p q:Pth}:q∈insP l p↔q=p∨q∈l:=by
 induction l with
 |nil=>simp[insP]
 |cons x l ih=>
  unfold insP;split
  ·simp only[List.mem_cons,ih]
   constructor
   ·rintro(h|h|h)
    ·exact .inr (.inl h)
    ·exact .inl h
    ·exact .inr (.inr h)
   ·rintro(h|h|h)
    ·exact .inr (.inl h)
    ·exact .inl h
    ·exact .inr (.inr h)
  ·split
   ·rename_i h;subst h
    simp only[List.mem_cons];constructor
    ·rintro(h|h)
     ·exact .inl h
     ·exact .inr (.inr h)
    ·rintro(h|h|h)
     ·exact .inl h
     ·exact .inl h
     ·exact .inr h
   ·simp only[List.mem_cons]
theorem rise_insP{l:List Pth}(h:Rise l)(p:Pth):Rise (insP l p):=by
 induction l with
 |nil=>exact List.pairwise_singleton _ _
 |cons x l ih=>
  unfold Rise at h⊢;have h0:=h;rw[List.pairwise_cons]at h;unfold insP;split
  ·rename_i h1
   rw[List.pairwise_cons];refine⟨fun y hy=>?_,ih h.2⟩;rcases mem_insP.1 hy with e|hy
   ·rw[e];exact h1
   ·exact h.1 y hy
  ·rename_i h1
   split
   ·exact h0
   ·rename_i h2
    have h3:blt p x:=Classical.byContradiction (fun h3=>h2 (blt_total h1 h3));rw[List.pairwise_cons];refine⟨fun y hy=>?_,h0⟩;rcases List.mem_cons.1 hy with e|hy
    ·rw[e];exact h3
    ·exact blt_trans h3 (h.1 y hy)
theorem foldl_insP(m:List Pth):∀{l:List Pth},Rise l→Rise (m.foldl insP l)∧∀q,q∈m.foldl insP l↔q∈m∨q∈l:=by
 induction m with
 |nil=>intro l h;exact⟨h,fun q=>by simp⟩
 |cons p m ih=>
  intro l h;obtain⟨h1,h2⟩:=ih (rise_insP h p);refine⟨h1,fun q=>?_⟩;rw[List.foldl_cons,h2,mem_insP,List.mem_cons];constructor
  ·rintro(h|h|h)
   ·exact .inl (.inr h)
   ·exact .inl (.inl h)
   ·exact .inr h
  ·rintro((h|h)|h)
   ·exact .inr (.inl h)
   ·exact .inl h
   ·exact .inr (.inr h)
theorem Dk.dirty_rise(d:Dk):Rise d.dirty:=(foldl_insP _ List.Pairwise.nil).1
theorem Dk.mem_dirty(d:Dk)(n:Pth):n∈d.dirty↔d.chgs n≠[]:=by
 unfold Dk.dirty;rw[(foldl_insP _ List.Pairwise.nil).2];unfold Dk.chgs;rw[ne_eq,List.filter_eq_nil_iff];simp
theorem crashD_skip{picks:List Int}{d:Dk}{s:Nms×Nat}{n:Pth}(h:d.chgs n=[]):crashD picks d s n=s:=by unfold crashD;rw[if_pos h]
theorem crashN_of(d:Dk)(picks:List Int):∀(L:List Pth) (s:Nms×Nat),L.foldl (crashD picks d) s=(L.filter (fun n=> !(d.chgs n).isEmpty)).foldl (crashD picks d) s:=by
 intro L
 induction L with
 |nil=>intro s;rfl
 |cons n L ih=>
  intro s;rw[List.foldl_cons];by_cases h:d.chgs n=[]
  ·rw[List.filter_cons_of_neg (by simp[h]),crashD_skip h,ih]
  ·rw[List.filter_cons_of_pos (by simpa using h),List.foldl_cons,ih]
theorem Dk.crashN_any(d:Dk)(picks:List Int){L:List Pth}(hL:Rise L)(h:∀n,d.chgs n≠[]→n∈L):L.foldl (crashD picks d) (d.stays,0)=d.crashN picks:=by
 unfold Dk.crashN;rw[crashN_of];congr 1;refine rise_ext (List.Pairwise.filter _ hL) d.dirty_rise (fun n=>?_);rw[List.mem_filter,d.mem_dirty];constructor
 ·rintro⟨_,h2⟩;simpa using h2
 ·intro h2;exact⟨h n h2,by simpa using h2⟩
theorem mget_fold(l:Nms):∀(m:Nms) (q:Pth),Asc l→mget (l.foldl (fun l x=>nput l x.1 x.2) m) q=match mget l q with|some i=>some i|none=>mget m q:=by
 induction l with
 |nil=>intro m q _;rfl
 |cons x l ih=>
  intro m q h;unfold Asc at h;rw[List.pairwise_cons]at h;rw[List.foldl_cons,ih _ _ h.2,mget_nput];simp only[mget];by_cases hq:q=x.1
  ·have:mget l q=none:=Option.not_isSome_iff_eq_none.1 (fun c=>by
    rw[isSome_iff_key]at c;obtain⟨z,hz,e⟩:=List.mem_map.1 c;exact blt_ne (h.1 z hz) (by rw[e,hq]))
   rw[if_pos hq,if_pos hq,this]
  ·rw[if_neg hq,if_neg hq]
theorem mget_merge{now stays:Nms}(h:Asc now)(n q:Pth):mget (merge now stays n) q=if dirP q=n then mget now q else mget stays q:=by
 unfold merge;rw[mget_fold _ _ _ (h.filter _),mget_filter (f:=fun p=>decide (dirP p=n)),mget_filter (f:=fun p=> !decide (dirP p=n))];by_cases hq:dirP q=n
 ·simp only[hq,decide_true,if_true,Bool.not_true,Bool.false_eq_true,if_false]
  cases mget now q<;>rfl
 ·simp[hq]
theorem asc_fold(l:Nms):∀m:Nms,Asc m→Asc (l.foldl (fun l x=>nput l x.1 x.2) m):=by
 induction l with
 |nil=>intro m h;exact h
 |cons x l ih=>intro m h;exact ih _ (asc_nput h _ _)
theorem asc_merge{now stays:Nms}(h:Asc stays)(n:Pth):Asc (merge now stays n):=asc_fold _ _ (h.filter _)
end E

namespace WalA
open E Go.RowKit Num DelA SumF
abbrev Rec:=List UInt8
def W8:List UInt8:=[83,76,86,71,87,65,76,49]
def chkW(n:Nat)(r:Rec):List UInt8:=(sumOf (Num.numL 8 (UInt64.ofNat n)++r)).take 8
def layW(n:Nat)(r:Rec):List UInt8:=be32 r.length++(chkW n r++r)
def recW(n:Nat)(r:Rec):List UInt8:=layW n r++[67]
def encN:Nat→List Rec→List UInt8
 |_,[]=>[]
 |n,r::l=>recW n r++encN (n+1) l
def encW(l:List Rec):List UInt8:=W8++encN 0 l
theorem chkW_len(n:Nat)(r:Rec):(chkW n r).length=8:=by unfold chkW;rw[List.length_take,sumOf_len];rfl
theorem layW_len(n:Nat)(r:Rec):(layW n r).length=12+r.length:=by unfold layW;rw[List.length_append,List.length_append,chkW_len,be32_len];omega
theorem recW_len(n:Nat)(r:Rec):(recW n r).length=13+r.length:=by unfold recW;rw[List.length_append,layW_len];simp;omega
theorem encN_app:∀(a b:List Rec) (n:Nat),encN n (a++b)=encN n a++encN (n+a.length) b
 |[],b,n=>rfl
 |r::a,b,n=>by rw[List.cons_append,encN,encN_app a b (n+1),encN,List.append_assoc,List.length_cons,show n+1+a.length=n+(a.length+1)by omega]
theorem encW_snoc(l:List Rec)(r:Rec):encW (l++[r])=encW l++recW l.length r:=by unfold encW;rw[encN_app,List.append_assoc];simp[encN]
theorem encN_len:∀(l:List Rec) (n:Nat),(encN n l).length=(l.map (fun r=>13+r.length)).sum
 |[],n=>rfl
 |r::l,n=>by rw[encN,List.length_append,encN_len l,recW_len];simp
theorem encW_len(l:List Rec):(encW l).length=8+(l.map (fun r=>13+r.length)).sum:=by unfold encW;rw[List.length_append,encN_len];rfl
def big(b:List UInt8):Nat:=bev 0 (b.take 4)
def oneW(n:Nat)(b:List UInt8):Option Rec:=
 if b.length≤12∨1048576<big b∨b.length-12≤big b then none
 else if b.getD (12+big b) 0=67∧(b.drop 4).take 8=chkW n ((b.drop 12).take (big b))then some ((b.drop 12).take (big b))else none
theorem oneW_len{n:Nat}{b:List UInt8}{r:Rec}(h:oneW n b=some r):r.length=big b∧13+r.length≤b.length∧r.length≤1048576:=by
 unfold oneW at h;split at h
 ·cases h
 ·rename_i h1
  split at h
  ·have e:=Option.some.inj h
   rw[←e,List.length_take,List.length_drop];omega
  ·cases h
def parF:Nat→Nat→List UInt8→List Rec
 |0,_,_=>[]
 |f+1,n,b=>match oneW n b with
  |none=>[]
  |some r=>r::parF f (n+1) (b.drop (13+r.length))
theorem parF_ext:∀(f g n:Nat) (b:List UInt8),b.length≤f→b.length≤g→parF f n b=parF g n b
 |0,0,_,_,_,_=>rfl
 |0,g+1,n,b,h,_=>by
  have:oneW n b=none:=by unfold oneW;rw[if_pos (.inl (by omega))]
  simp[parF,this]
 |f+1,0,n,b,_,h=>by
  have:oneW n b=none:=by unfold oneW;rw[if_pos (.inl (by omega))]
  simp[parF,this]
 |f+1,g+1,n,b,h1,h2=>by
  unfold parF
  cases h:oneW n b with
  |none=>rfl
  |some r=>
   have:=oneW_len h;simp only;rw[parF_ext f g (n+1) _ (by rw[List.length_drop];omega) (by rw[List.length_drop];omega)]
def parP(n:Nat)(b:List UInt8):List Rec:=parF b.length n b
theorem parP_stop{n:Nat}{b:List UInt8}(h:oneW n b=none):parP n b=[]:=by
 unfold parP
 cases hb:b.length with
 |zero=>rfl
 |succ f=>simp[parF,h]
theorem parP_step{n:Nat}{b:List UInt8}{r:Rec}(h:oneW n b=some r):parP n b=r::parP (n+1) (b.drop (13+r.length)):=by
 have h1:=oneW_len h;unfold parP;rw[parF_ext b.length (b.length+1) n b (Nat.le_refl _) (by omega),parF,h];show r::parF b.length (n+1) (b.drop (13+r.length))=_;rw[parF_ext b.length _ (n+1) (b.drop (13+r.length)) (by rw[List.length_drop];omega) (Nat.le_refl _)]
theorem big_lay(n:Nat)(r:Rec)(t:List UInt8)(h:r.length<4294967296):big (layW n r++t)=r.length:=by
 unfold big layW;rw[List.append_assoc,List.take_left' (be32_len _),bev_be32 _ h]
theorem oneW_rec(n:Nat)(r:Rec)(t:List UInt8)(h:r.length≤1048576):oneW n (recW n r++t)=some r:=by
 have e:recW n r++t=be32 r.length++(chkW n r++(r++(67::t))):=by unfold recW layW;simp
 have hb:big (recW n r++t)=r.length:=by unfold recW;rw[List.append_assoc,big_lay n r _ (by omega)]
 have hl:(recW n r++t).length=13+r.length+t.length:=by rw[List.length_append,recW_len]
 have e12:(recW n r++t).drop 12=r++(67::t):=by
  rw[e,←List.append_assoc,List.drop_left' (by rw[List.length_append,chkW_len,be32_len])]
 have e4:((recW n r++t).drop 4).take 8=chkW n r:=by
  rw[e,List.drop_left' (be32_len _),List.take_left' (chkW_len _ _)]
 have er:((recW n r++t).drop 12).take r.length=r:=by rw[e12,List.take_left' rfl]
 have hC:(recW n r++t).getD (12+r.length) 0=67:=by
  have:(recW n r++t).getD (12+r.length) 0=((recW n r++t).drop 12).getD r.length 0:=by
   simp only[List.getD_eq_getElem?_getD,List.getElem?_drop]
  rw[this,e12];simp[List.getD_eq_getElem?_getD]
 unfold oneW;rw[hb,if_neg (by omega),er,e4,if_pos ⟨hC,rfl⟩]
theorem parP_enc:∀(l:List Rec) (n:Nat) (t:List UInt8),(∀r∈l,r.length≤1048576)→parP n (encN n l++t)=l++parP (n+l.length) t
 |[],n,t,_=>rfl
 |r::l,n,t,h=>by
  rw[encN,List.append_assoc,parP_step (oneW_rec n r _ (h r List.mem_cons_self)),List.drop_left' (recW_len n r),parP_enc l (n+1) t (fun x hx=>h x (List.mem_cons_of_mem _ hx)),List.cons_append,List.length_cons,show n+1+l.length=n+(l.length+1)by omega]
theorem be32_bev:∀(a b c d:UInt8),be32 (bev 0 [a,b,c,d])=[a,b,c,d]:=fun a b c d=>by
 have ha:=a.toNat_lt;have hb:=b.toNat_lt;have hc:=c.toNat_lt;have hd:=d.toNat_lt;simp only[bev,List.foldl_cons,List.foldl_nil,be32,List.cons.injEq,and_true];refine⟨?_,?_,?_,?_⟩<;>(apply UInt8.toNat.inj;rw[UInt8.toNat_ofNat'];omega)
theorem oneW_some{n:Nat}{b:List UInt8}{r:Rec}(h:oneW n b=some r):b=recW n r++b.drop (13+r.length):=by
 have h0:=oneW_len h;unfold oneW at h;split at h
 ·cases h
 ·rename_i h1
  split at h
  ·rename_i h2
   have e:=Option.some.inj h;rw[e,←h0.1]at h2
   have h3:b.take 4=be32 r.length:=by
    rw[h0.1];unfold big
    match b,h1 with
    |a::b::c::d::t,_=>exact(be32_bev a b c d).symm
   have h4:(b.drop 12).take r.length=r:=by rw[h0.1];exact e
   have h5:b.drop (12+r.length)=67::b.drop (13+r.length):=by
    have hl:12+r.length<b.length:=by omega
    rw[List.drop_eq_getElem_cons hl,show 12+r.length+1=13+r.length by omega];have:=h2.1;rw[List.getD_eq_getElem?_getD,List.getElem?_eq_getElem hl]at this;rw[show b[12+r.length]=67 from this]
   calc b=b.take 4++b.drop 4:=(List.take_append_drop 4 b).symm
    _=b.take 4++((b.drop 4).take 8++(b.drop 4).drop 8):=congrArg (fun x=>b.take 4++x) (List.take_append_drop 8 (b.drop 4)).symm
    _=be32 r.length++(chkW n r++b.drop 12):=by rw[h3,h2.2,List.drop_drop]
    _=be32 r.length++(chkW n r++(r++(b.drop 12).drop r.length)):=by
     rw[show(b.drop 12)=(b.drop 12).take r.length++(b.drop 12).drop r.length from(List.take_append_drop _ _).symm,h4];rw[List.drop_left' rfl]
    _=recW n r++b.drop (13+r.length):=by rw[List.drop_drop,h5];unfold recW layW;simp
  ·cases h
theorem oneW_iff{n:Nat}{b:List UInt8}{r:Rec}:oneW n b=some r↔r.length≤1048576∧∃t,b=recW n r++t:=
 ⟨fun h=>⟨(oneW_len h).2.2,_,oneW_some h⟩,fun⟨h,t,e⟩=>by rw[e];exact oneW_rec n r t h⟩
def parE(b:List UInt8):Nat:=if b.take 8=W8 then 0 else 16
def parL(b:List UInt8):List Rec:=if b.take 8=W8 then parP 0 (b.drop 8)else[]
def parS(b:List UInt8):Nat:=if b.take 8=W8 then(encW (parL b)).length else 0
theorem enc_take(l:List Rec)(t:List UInt8):(encW l++t).take 8=W8:=by unfold encW;rw[List.append_assoc,List.take_left' (show W8.length=8 from rfl)]
theorem parE_enc(l:List Rec)(t:List UInt8):parE (encW l++t)=0:=by unfold parE;rw[if_pos (enc_take l t)]
theorem parL_enc(l:List Rec)(t:List UInt8)(h:∀r∈l,r.length≤1048576):parL (encW l++t)=l++parP l.length t:=by
 unfold parL;rw[if_pos (enc_take l t)];unfold encW;rw[List.append_assoc,List.drop_left' (show W8.length=8 from rfl),parP_enc l 0 t h,Nat.zero_add]
theorem parL_all{l:List Rec}(h:∀r∈l,r.length≤1048576):parL (encW l)=l:=by
 have:=parL_enc l [] h;rw[List.append_nil,parP_stop (by simp[oneW]),List.append_nil]at this;exact this
theorem parP_max:∀(f:Nat) (n:Nat) (b:List UInt8),∀r∈parF f n b,r.length≤1048576
 |0,_,_,r,h=>by cases h
 |f+1,n,b,r,h=>by
  unfold parF at h;split at h
  ·cases h
  ·rename_i x hx
   rcases List.mem_cons.1 h with e|h
   ·rw[e];exact(oneW_len hx).2.2
   ·exact parP_max f _ _ r h
theorem parL_max(b:List UInt8):∀r∈parL b,r.length≤1048576:=fun r h=>by
 unfold parL at h;split at h
 ·exact parP_max _ _ _ r h
 ·cases h
theorem parP_pre:∀(f n:Nat) (b:List UInt8),b.length≤f→∃t,b=encN n (parP n b)++t∧oneW (n+(parP n b).length) t=none
 |0,n,b,h=>by
  have:oneW n b=none:=by unfold oneW;rw[if_pos (.inl (by omega))]
  rw[parP_stop this];exact⟨b,rfl,by simpa using this⟩
 |f+1,n,b,h=>by
  cases ho:oneW n b with
  |none=>rw[parP_stop ho];exact⟨b,rfl,by simpa using ho⟩
  |some r=>
   have h1:=oneW_len ho;obtain⟨t,e,h2⟩:=parP_pre f (n+1) (b.drop (13+r.length)) (by rw[List.length_drop];omega);rw[parP_step ho];refine⟨t,?_,by rw[List.length_cons,show n+((parP (n+1) (b.drop (13+r.length))).length+1)=n+1+(parP (n+1) (b.drop (13+r.length))).length by omega];exact h2⟩;rw[encN,List.append_assoc,←e];exact oneW_some ho
theorem parL_pre{b:List UInt8}(h:parE b=0):∃t,b=encW (parL b)++t∧oneW (parL b).length t=none:=by
 have h8:b.take 8=W8:=by unfold parE at h;split at h;assumption;cases h
 obtain⟨t,e,h2⟩:=parP_pre _ 0 (b.drop 8) (Nat.le_refl _);have e2:parL b=parP 0 (b.drop 8):=by unfold parL;rw[if_pos h8]
 refine⟨t,?_,by rw[e2];simpa using h2⟩;rw[e2];unfold encW;rw[List.append_assoc,←e,←h8,List.take_append_drop]
theorem parS_le(b:List UInt8):parS b≤b.length:=by
 unfold parS;split
 ·rename_i h
  obtain⟨t,e,_⟩:=parL_pre (b:=b) (by unfold parE;rw[if_pos h]);have:=congrArg List.length e;rw[List.length_append]at this;omega
 ·omega
theorem parS_eq{b:List UInt8}(h:parE b=0)(h2:parS b=b.length):b=encW (parL b):=by
 have h8:b.take 8=W8:=by unfold parE at h;split at h;assumption;cases h
 unfold parS at h2;rw[if_pos h8]at h2;obtain⟨t,e,_⟩:=parL_pre h;have:=congrArg List.length e;rw[List.length_append]at this;have:t=[]:=List.eq_nil_of_length_eq_zero (by omega);rw[this,List.append_nil]at e;exact e
theorem torn_none(n:Nat)(r:Rec)(k z:Nat)(h:k+z≤12+r.length)(hr:r.length≤1048576):oneW n ((layW n r).take k++List.replicate z 0)=none:=by
 have hk:((layW n r).take k).length=k:=by rw[List.length_take,layW_len];omega
 have hl:((layW n r).take k++List.replicate z (0:UInt8)).length=k+z:=by rw[List.length_append,hk,List.length_replicate]
 unfold oneW;by_cases h12:k+z≤12
 ·rw[if_pos (.inl (by omega))]
 by_cases hk4:4≤k
 ·have hb:big ((layW n r).take k++List.replicate z 0)=r.length:=by
   have:((layW n r).take k++List.replicate z (0:UInt8)).take 4=(layW n r).take 4:=by
    rw[List.take_append_of_le_length (by omega),List.take_take,Nat.min_eq_left hk4]
   have e2:=big_lay n r [] (by omega);rw[List.append_nil]at e2;unfold big at e2⊢;rw[this,e2]
  rw[if_pos (.inr (.inr (by rw[hb,hl];omega)))]
 ·by_cases h9:((layW n r).take k++List.replicate z (0:UInt8)).length≤12∨1048576<big ((layW n r).take k++List.replicate z 0)∨((layW n r).take k++List.replicate z (0:UInt8)).length-12≤big ((layW n r).take k++List.replicate z 0)
  ·rw[if_pos h9]
  ·rw[if_neg h9,if_neg]
   rintro⟨h1,_⟩
   have:((layW n r).take k++List.replicate z (0:UInt8)).getD (12+big ((layW n r).take k++List.replicate z 0)) 0=0:=by
    rw[List.getD_eq_getElem?_getD,List.getElem?_append_right (by omega),List.getElem?_replicate];split<;>rfl
   rw[this]at h1;cases h1
end WalA

namespace E
section
variable {h k kk : Nat} {ks : List Nat} {G F : Nat → Prop} {H0 H H' : Heap}
theorem Nx.z{a:Nat}(x:Nx 0 h k):Nx a h k:=by unfold Nx at*;omega
end
section
variable {κ β : Type} [DecidableEq κ] {fk : κ → Value} {fv : β → Value} {b m r : Nat} {l : List (κ × β)} {es : Array MapEntry} {clock : Nat} {dn : List κ} {H H' : Heap}
end
section
variable {κ α : Type} {G : Nat → Prop} {e : TypeId} {H H' : Heap} {f : α → List Value} {sz : Nat} {val : κ → Value} {ch : κ → List α} {ks : List Nat}
end
end E

namespace E
abbrev FW(ro:Option Nat):Fence:={Fence.wide with round:=ro}
structure Lpr (H:Heap) (b:Nat) (r:Loop):Prop where
 at_:H[b]?=some (.loop r)
structure Dfr (H:Heap) (b:Nat):Prop where
 at_:H[b]?=some (.deferred (some []))
section
variable {H H' : Heap} {b : Nat} {r : Loop} {ks : List Nat}
theorem Lpr.lt(h:Lpr H b r):b<H.size:=(Array.getElem?_eq_some_iff.1 h.at_).1
theorem Lpr.up{S:Nat→Prop}(h:Lpr H b r)(s:Mo S H H')(hS:¬S b):Lpr H' b r:=⟨by rw[s.same b h.lt hS];exact h.at_⟩
theorem Lpr.nw(h:Lpr H b r)(s:Nw H H'):Lpr H' b r:=h.up s (fun e=>e)
theorem Lpr.upL(h:Lpr H b r)(s:Mo (Ms ks) H H')(d:DL (b+1) ks):Lpr H' b r:=h.up s (fun h2=>d (b+1) h2 b rfl rfl)
theorem Dfr.lt(h:Dfr H b):b<H.size:=(Array.getElem?_eq_some_iff.1 h.at_).1
theorem Dfr.up{S:Nat→Prop}(h:Dfr H b)(s:Mo S H H')(hS:¬S b):Dfr H' b:=⟨by rw[s.same b h.lt hS];exact h.at_⟩
theorem Dfr.nw(h:Dfr H b)(s:Nw H H'):Dfr H' b:=h.up s (fun e=>e)
theorem Dfr.upL(h:Dfr H b)(s:Mo (Ms ks) H H')(d:DL (b+1) ks):Dfr H' b:=h.up s (fun h2=>d (b+1) h2 b rfl rfl)
end
theorem Var.le{e:TypeId}{H:Heap}{b:Nat}{cs:List Value}(h:Var e H b cs):b+1≤H.size:=h.lt
def LRI(ro:Option Nat)(P:Program)(w0:World)(ops:Array Oper)(Q:Exit→Act→World→Prop)(n:Nat)(l:FL)(rest:List Oper)(H:Heap):Prop:=
 ∀a w,Fr n l a→At w0 H w→wpListIn (FW ro) 0 P ops Q rest a w
def YCt(P:Program)(w0:World)(lp:Nat)(args:List Value)(H:Heap)(R:Value→Heap→Prop):Prop:=
 ∀w,At w0 H w→YieldAt (FW none) 0 P lp args.toArray w (fun e w'=>∃r H',e= .returned r∧At w0 H' w'∧R r H')
section
variable {ro : Option Nat} {P : Program} {w0 : World} {Q : Exit → Act → World → Prop} {n : Nat} {l : FL} {H : Heap} {ops : Array Oper} {rest : List Oper} {o : Oper}
theorem LRI.nil(h:QN w0 Q n l H):LRI ro P w0 ops Q n l [] H:=fun a w hf ha=>h a w hf ha
theorem LRI.v{v:Value}{d:Nat}(hy:Y P w0 n l H o v)(hnd:∀c,o.op≠ .defer c)(hw:Wd ops l o)(hd:o.dst=some d)(hn:Nat.blt d n=true)(h:LRI ro P w0 ops Q n ((d,v)::l) rest H):LRI ro P w0 ops Q n l (o::rest) H:=by
 intro a w hf ha;have hp:=hf.put hn v;rw[←hd]at hp;unfold wpListIn;rw[if_pos (hw n a hf)];refine⟨fun _ _=>trivial,?_⟩;rw[Oper.semAt_eq _ _ _ hnd,hy a w hf ha];exact h _ w hp ha
theorem LRI.z{R:Value→Heap→Prop}{d:Nat}(hz:Z P w0 n l H o R)(hnd:∀c,o.op≠ .defer c)(hw:Wd ops l o)(hd:o.dst=some d)(hn:Nat.blt d n=true)(h:∀v H',R v H'→LRI ro P w0 ops Q n ((d,v)::l) rest H'):LRI ro P w0 ops Q n l (o::rest) H:=by
 intro a w hf ha;obtain⟨v,H',w',hr,ha',hR⟩:=hz a w hf ha;have hp:=hf.put hn v;rw[←hd]at hp;unfold wpListIn;rw[if_pos (hw n a hf)];refine⟨fun _ _=>trivial,?_⟩;rw[Oper.semAt_eq _ _ _ hnd,hr];exact h v H' hR _ w' hp ha'
theorem LRI.s{R:Heap→Prop}(hz:S P w0 n l H o R)(hnd:∀c,o.op≠ .defer c)(hw:Wd ops l o)(hd:o.dst=none)(h:∀H',R H'→LRI ro P w0 ops Q n l rest H'):LRI ro P w0 ops Q n l (o::rest) H:=by
 intro a w hf ha;obtain⟨H',w',hr,ha',hR⟩:=hz a w hf ha;unfold wpListIn;rw[if_pos (hw n a hf)];refine⟨fun _ _=>trivial,?_⟩;rw[Oper.semAt_eq _ _ _ hnd,hr];show wpListIn (FW ro) 0 P ops Q rest (a.put o.dst undef) w';rw[hd];exact h H' hR a w' hf ha'
theorem LRI.round{R:Value→Heap→Prop}{d lp:Nat}{c:Operand}{args:List Operand}{ats:Array TypeId}{vs:List Value}(ho:o.op= .call {callee:= .value c,args:=args.toArray,argTypes:=ats})
 (hcv:opv l c=some (.func (.yield lp) #[] #[])) (hv:opvs l args=some vs) (hw:Wd ops l o) (hd:o.dst=some d) (hn:Nat.blt d n=true) (hc:YCt P w0 lp vs H R)
 (h:∀v H',R v H'→LRI none P w0 ops Q n ((d,v)::l) rest H'):LRI none P w0 ops Q n l (o::rest) H:=by
 intro a w hf ha;obtain⟨fn,tmps,assign,body,hy,hr⟩:=hc w ha
 have he:(execOp a.eval o).run P w= .ok (.round lp fn tmps assign body) w:=by
  have h2:=hf.evals hv;have h3:(args.toArray.map a.eval)=vs.toArray:=by rw[List.map_toArray,h2]
  simp[execOp,ho,resolve,Deferred.ofValue,hf.eval hcv,invoke,h2,hy]
 unfold wpListIn;rw[if_pos (hw n a hf)];refine⟨fun _ _=>trivial,?_⟩;rw[Oper.semAt_eq _ _ _ (by intro c e;rw[ho]at e;cases e),he,Oper.uponIn_round];refine⟨fun q=>(by cases q),?_⟩;refine hr.mono ?_;rintro e w' ⟨r,H',rfl,ha',hR⟩;have hp:=hf.put hn r;rw[←hd]at hp;exact h r H' hR _ w' hp ha'
theorem CW.region_in{id:Nat}{lo:List Oper}(h:LRI none P w0 lo.toArray Q n l lo H):CW P w0 Q n l (.region id lo.toArray false) H:=
 fun a w hf ha=>wpIn_wide.1 (wpIn_region_lit (h a w hf ha))
theorem LRI.mono{Q2:Exit→Act→World→Prop}(hq:∀e a w,Q e a w→Q2 e a w){id:Nat}{lo:List Oper}(h:LRI ro P w0 lo.toArray Q n l lo H){a:Act}{w:World}(hf:Fr n l a)(ha:At w0 H w):(Code.region id lo.toArray false).wpIn (FW ro) 0 P Q2 a w:=
 Code.wpIn_mono hq (wpIn_region_lit (h a w hf ha))
theorem YCt.of{r:Loop}{x:Value}{p lp ida idb idc:Nat}{la lb:List Oper}{R:Value→Heap→Prop}(hl:Lpr H lp r)(hst:r.state= .ready)(hpe:r.pending=none)(hps:r.params= #[p])(hA:r.assign= .region ida la.toArray false)(hB:r.body= .block idb (.region idc lb.toArray false))
 (hf:Fr n l {tmps:=r.tmps.setIfInBounds p x,defers:=[]})
 (h:LRI (some lp) P w0 la.toArray (fun e a1 w1=>e= .normal∧∃l2 H2,Fr n l2 a1∧At w0 H2 w1∧Lpr H2 lp r∧
  LRI (some lp) P w0 lb.toArray (fun e a3 w3=>e= .normal∧∃H3,At w0 H3 w3∧Lpr H3 lp {r with state:= .busy}∧R (.bool true) (H3.setIfInBounds lp (.loop r))) n l2 lb (H2.setIfInBounds lp (.loop {r with state:= .busy}))) n l la H):
 YCt P w0 lp [x] H R:=by
 intro w ha;have hlw:w.heap[lp]?=some (.loop r):=by rw[ha.heap];exact hl.at_
 refine⟨r.fn,r.tmps.setIfInBounds p x,r.assign,r.body,?_,?_⟩
 ·have:=run_yield (P:=P) (args:= #[x]) hlw (by rw[hps];rfl)
  rw[hps]at this
  simpa using this
 ·refine roundIn_of_wpIn (F:=FW none) trivial ?_
  rw[hA,hB];refine LRI.mono (ro:=some lp) ?_ h hf ha;rintro e a1 w1 ⟨rfl,l2,H2,hf2,ha2,hl2,hb⟩;have hlw2:w1.heap[lp]?=some (.loop r):=by rw[ha2.heap];exact hl2.at_
  refine⟨_,run_beginRound (P:=P) hlw2 hst,?_⟩
  have ha3:At w0 (H2.setIfInBounds lp (.loop {r with state:= .busy})) (w1.putObj lp (.loop {r with state:= .busy})):=by
   unfold World.putObj;rw[ha2.heap];exact ha2.set
  refine wpIn_block ?_;refine LRI.mono (ro:=some lp) ?_ hb hf2 ha3;rintro e a3 w3 ⟨rfl,H3,ha4,hl4,hR⟩;have hlw4:w3.heap[lp]?=some (.loop {r with state:= .busy}):=by rw[ha4.heap];exact hl4.at_
  refine⟨_,_,run_endRound (P:=P) none hlw4,.bool true,H3.setIfInBounds lp (.loop r),rfl,?_,hR⟩
  have hr2:({({r with state:= .busy}:Loop)with state:=if(none:Option Code).isNone then .ready else .done,pending:=none}:Loop)=r:=by
   cases r;simp only at hst hpe;subst hst hpe;rfl
  rw[hr2];unfold World.putObj;rw[ha4.heap];exact ha4.set
end
end E

namespace E
section
variable {F : Nat → Prop} {a k k2 h h2 m : Nat} {K K0 K2 K3 ks : List Nat}
def DKL(K ks:List Nat):Prop:=∀k∈K,DL k ks
def NxK(K:List Nat)(h:Nat)(K2:List Nat):Prop:=∀k∈K2,k=0∨k∈K∨h<k
def BK(K:List Nat)(h:Nat):Prop:=∀k∈K,k≤h
theorem DL.zK:DL 0 K:=fun k _=>Dj.z2
theorem DL.app(d:DL a K)(e:DL a ks):DL a (K++ks):=fun k hk=>(List.mem_append.1 hk).elim (d k) (e k)
theorem DFL.app(d:DFL F K)(e:DFL F ks):DFL F (K++ks):=fun k hk=>(List.mem_append.1 hk).elim (d k) (e k)
theorem DKL.nil:DKL K []:=fun k _=>DL.nil
theorem DKL.cons(d:DL m K)(e:DKL K ks):DKL K (m::ks):=fun k hk=>DL.cons (d k hk).symm (e k hk)
theorem DKL.app(d:DKL K K2)(e:DKL K ks):DKL K (K2++ks):=fun k hk=>DL.app (d k hk) (e k hk)
theorem DKL.symm(d:DKL K K2):DKL K2 K:=fun k hk j hj=>(d j hj k hk).symm
theorem MIL.app{js:List Nat}(d:MIL ks h K)(e:MIL ks h js):MIL ks h (K++js):=fun k hk=>(List.mem_append.1 hk).elim (d k) (e k)
theorem DL.newK(b:BK K h):DL (h+1) K:=fun k hk=>(Dj.new (b k hk)).symm
theorem DL.appK(d:DL a K)(ha:a≤h)(x:NxK K h K2):DL a K2:=fun k hk=>by
 rcases x k hk with e|e|e
 ·subst e;exact Dj.z
 ·exact d k e
 ·intro c h1 h2;omega
theorem DFL.appK(d:DFL F K)(hb:BF F h)(x:NxK K h K2):DFL F K2:=fun k hk b hF he=>by
 have:=hb b hF;rcases x k hk with e|e|e
 ·omega
 ·exact d k e b hF he
 ·omega
theorem DKL.appK(d:DKL K0 K)(b:BK K0 h)(x:NxK K h K2):DKL K0 K2:=fun k hk=>DL.appK (d k hk) (b k hk) x
theorem DL.app2(d:DL k K)(b:BK K h)(x:Nx k h k2):DL k2 K:=fun j hj=>by
 rcases x with e|e|e
 ·subst e;exact Dj.z2
 ·subst e;exact d j hj
 ·have:=b j hj;intro c h1 h2;omega
theorem NxK.refl(K:List Nat)(h:Nat):NxK K h K:=fun k hk=> .inr (.inl hk)
theorem NxK.tr(x:NxK K h K2)(y:NxK K2 h2 K3)(hh:h≤h2):NxK K h K3:=fun k hk=>by
 rcases y k hk with e|e|e
 ·exact .inl e
 ·exact x k e
 ·exact .inr (.inr (by omega))
theorem NxK.cons(d:Nx 0 h a)(x:NxK K h K2):NxK K h (a::K2):=fun k hk=>by
 rcases List.mem_cons.1 hk with e|e
 ·subst e;unfold Nx at d;omega
 ·exact x k e
def KM(K:List Nat)(k:Nat):Prop:=∀c,c+1=k→c+1∈K
theorem KM.of(h:k∈K):KM K k:=fun c e=>by rw[e];exact h
theorem KM.or(h:KM K k):k=0∨k∈K:=by
 cases k with
 |zero=>exact .inl rfl
 |succ c=>exact .inr (h c rfl)
theorem DL.at(d:DL a K)(m:KM K k):Dj a k:=by
 rcases m.or with e|e
 ·subst e;exact Dj.z
 ·exact d k e
theorem DFL.at(d:DFL F K)(m:KM K k):DF F k:=by
 rcases m.or with e|e
 ·subst e;exact DF.z
 ·exact d k e
theorem MIL.at(d:MIL ks h K)(m:KM K k):MI ks h k:=by
 rcases m.or with e|e
 ·subst e;exact MI.z
 ·exact d k e
theorem NxK.app{k0:Nat}(x:NxK K h K2)(hm:KM K2 k0)(y:Nx k0 h2 a)(hh:h≤h2):NxK K h (a::K2):=fun k hk=>by
 rcases List.mem_cons.1 hk with e|e
 ·subst e
  rcases y with y|y|y
  ·exact .inl y
  ·rcases hm.or with e2|e2
   ·exact .inl (y.trans e2)
   ·rw[y];exact x k0 e2
  ·exact .inr (.inr (by omega))
 ·exact x k e
theorem NxK.consE(x:NxK K h K2)(e:a=0∨a∈K2∨h<a):NxK K h (a::K2):=fun k hk=>by
 rcases List.mem_cons.1 hk with q|q
 ·subst q
  rcases e with e|e|e
  ·exact .inl e
  ·exact x k e
  ·exact .inr (.inr e)
 ·exact x k q
theorem DL.nxK(b:BK K h)(x:Nx 0 h a):DL a K:=fun k hk=>by
 have:=b k hk;intro c h1 h2;unfold Nx at x;omega
theorem MIL.ofK(x:NxK K h K2)(hk:∀k∈K,k∈ks):MIL ks h K2:=fun k hk2 b hb e=>by
 rcases x k hk2 with e2|e2|e2
 ·omega
 ·unfold Ms;rw[e];exact hk k e2
 ·omega
theorem MIL.ofK0(x:NxK [] h K2):MIL ks h K2:=fun k hk2 b hb e=>by
 rcases x k hk2 with e2|e2|e2
 ·omega
 ·cases e2
 ·omega
theorem DFL.above{n:Nat}(hF:∀b,F b→n≤b)(hk:BK K n):DFL F K:=fun k hk2 b h1 e=>by have:=hF b h1;have:=hk k hk2;omega
end
section
open Go.MapKept
variable {P : Program} {w0 : World} {n : Nat} {l : FL} {H : Heap} {o : Oper} {κ β : Type} [DecidableEq κ] {fk : κ → Value} {fv : β → Value} {b : Nat} {m : List (κ × β)} {d : TypeDesc}
theorem Z.delS{t u kt et:TypeId}{x i:Operand}{k:κ}(h:Mp H fk fv b m)(hfk:KeyFn d fk)(ho:o.op= .call {callee:= .builtin .delete,args:= #[x,i],argTypes:= #[t,u]})(hm:∀w,(underlying t).run P w= .ok (.map kt et) w)(hk:P.underlying kt=some d)
 (hx:opv l x=some (.map (some b))) (hi:opv l i=some (fk k)):Z P w0 n l H o (fun r H'=>r= .tuple #[]∧Mp H' fk fv b (mdel m k)∧Mo (fun c=>c=b) H H'):=by
 intro ac w hf ha;obtain⟨r,es,clock,hv,h2,h3,h4,h5⟩:=h.mo.ex;obtain rfl:=h2;have h3':w.heap[r]?=some (.map es clock):=by rw[ha.heap];exact h3
 have hlt:=(Array.getElem?_eq_some_iff.1 h3).1;have hget:∀ob,(H.setIfInBounds r ob)[r]?=some ob:=fun ob=>by simp[hlt]
 rcases find_entries (k:=k) hfk es.toList m 0 h5 with⟨q1,q2,q3⟩|⟨j,e',b',q1,q2,q3,q4,q5⟩
 ·refine⟨_,H.setIfInBounds r (.map es clock),{w with heap:=H.setIfInBounds r (.map es clock)},?_,ha.set,rfl,⟨⟨r,_,_,rfl,rfl,hget _,h4,?_⟩⟩,mo_set _⟩
  ·simp[execOp,ho,hf.eval hx,hf.eval hi,resolve,invoke,builtin,Builtin.delete_,hm,MapKept.run_getObj_map h3',MapKept.run_checkKey hk (hfk.key k),MapKept.run_findKey hk q2,MapKept.run_setObj_map _ h3',ha.heap]
  ·rw[h5]
   congr 1;unfold mdel;exact(List.filter_eq_self.2 (fun p hp=>by simpa using mget_none q1 p hp)).symm
 ·have hj:es[j]?=some e':=by simpa using q3
  refine⟨_,H.setIfInBounds r (.map (es.eraseIdxIfInBounds j) clock),{w with heap:=H.setIfInBounds r (.map (es.eraseIdxIfInBounds j) clock)},?_,ha.set,rfl,⟨⟨r,_,_,rfl,rfl,hget _,stamped_erase h4 _,?_⟩⟩,mo_set _⟩
  ·simp[execOp,ho,hf.eval hx,hf.eval hi,resolve,invoke,builtin,Builtin.delete_,hm,MapKept.run_getObj_map h3',MapKept.run_checkKey hk (hfk.key k),MapKept.run_findKey hk q2,MapKept.run_setObj_map _ h3',ha.heap]
  ·have hjl:j<es.size:=(Array.getElem?_eq_some_iff.1 hj).1
   rw[Array.eraseIdxIfInBounds,dif_pos hjl,Array.toList_eraseIdx];exact erase_entries hfk.inj es.toList m j e' h5 h4.2.2 q3 q4
end
end E

namespace SimA
open E Go.RowKit
theorem Ct.still{P:Program}{w0:World}{f:FuncId}{args:Array Value}{H:Heap}{v:Value}(h:∀w,At w0 H w→Calls P f args w fun e w'=>e= .returned v∧w'=w):Ct P w0 f args H (fun r H2=>r=v∧Nw H H2):=
 fun w ha=>(h w ha).mono (fun e w' ⟨he,hw⟩=>⟨v,H,he,by rw[hw];exact ha,rfl,Nw.refl _⟩)
abbrev MX(m:Int)(H:Heap):Prop:=PtF (fun b=>b=0) H ⟨0,0,none⟩ [.int .i64 m]
theorem MX.cell{m:Int}{H:Heap}{w0 w:World}(h:MX m H)(ha:At w0 H w):w.cell? ⟨0,0,none⟩=some (.int .i64 m):=by
 have:=h.pt.cells 0 (.int .i64 m) rfl;rw[ha.cell];exact this
theorem contains_ct(s sub:List UInt8)(mx_:Int)(w0:World)(H0:Heap)(mx:MX mx_ H0)(hs:s.length<4294967281):Ct Tryz.prog w0 68 #[Str s,Str sub] H0 (fun r H2=>r= .bool (Lib.contains s sub)∧Nw H0 H2):=
 Ct.still (fun w ha=>by
  have h:Calls Tryz.prog 68 #[Str s,Str sub] w fun e w'=>e= .returned (.bool (Lib.contains s sub))∧w'=w:=Any.strings_Contains Tryz.lays144 ⟨s.toArray⟩ ⟨sub.toArray⟩ mx_ w (by simpa[ByteArray.size]using hs) (mx.cell ha);exact h)
theorem idx_ct(s:List UInt8)(c:UInt8)(w0:World)(H0:Heap):Ct Tryz.prog w0 69 #[Str s,.int .u8 c.toNat] H0 (fun r H2=>r= .int .i64 (Lib.indexByte s c)∧Nw H0 H2):=
 Ct.still (fun w ha=>by
  have h:Calls Tryz.prog 69 #[Str s,.int .u8 c.toNat] w fun e w'=>e= .returned (.int .i64 (Lib.indexByte s ((c.toNat:Int)).toNat.toUInt8))∧w'=w:=Any.strings_IndexByte Tryz.lays137 ⟨s.toArray⟩ c.toNat w;have e:((c.toNat:Int)).toNat.toUInt8=c:=by simp
  rw[e]at h;exact h)
def lastL(p:List UInt8):List UInt8:=(p.reverse.takeWhile (fun c=>c≠47)).reverse
theorem lastL_at{p:List UInt8}{j:Nat}(hj:j≤p.length)(h1:∀q (h:q<p.length),j≤q→p[q]≠47)(h2:∀h:0<j,p[j-1]'(by omega)=47):lastL p=p.drop j:=by
 have e:p.reverse=(p.drop j).reverse++(p.take j).reverse:=by rw[←List.reverse_append,List.take_append_drop]
 have hd:∀c∈(p.drop j).reverse,(decide (c≠47))=true:=by
  intro c hc;rw[List.mem_reverse,List.mem_iff_getElem]at hc;obtain⟨q,hq,rfl⟩:=hc;rw[List.getElem_drop]
  simpa using h1 (j+q) (by simpa using(by rw[List.length_drop]at hq;omega)) (by omega)
 unfold lastL;rw[e,List.takeWhile_append_of_pos hd];rcases Nat.eq_zero_or_pos j with h0|h0
 ·subst h0;simp
 ·have e2:(p.take j).reverse=47::(p.take (j-1)).reverse:=by
   have:p.take j=p.take (j-1)++[47]:=by
    have h3:=List.take_succ_eq_append_getElem (l:=p) (i:=j-1) (by omega);rw[show j-1+1=j by omega,h2 h0]at h3;exact h3
   rw[this];simp
  rw[e2,List.takeWhile_cons];simp
theorem Ct.still2{P:Program}{w0:World}{f:FuncId}{args:Array Value}{H:Heap}{v:Value}(h:∀w,At w0 H w→Calls P f args w fun e w'=>e= .returned v∧(w'=w∨w'=w.drew)):Ct P w0 f args H (fun r H2=>r=v∧Nw H H2):=
 fun w ha=>(h w ha).mono (fun e w' ⟨he,hw⟩=>by
  rcases hw with rfl|rfl
  ·exact⟨v,H,he,ha,rfl,Nw.refl _⟩
  ·exact⟨v,H,he,ha.drew,rfl,Nw.refl _⟩)
theorem trim_ct(s:List UInt8)(w0:World)(H0:Heap)(hs:s.length≤9223372036854775807):Ct Tryz.prog w0 67 #[Str s,Str [47]] H0 (fun r H2=>r=Str (Lib.trimB s 47)∧Nw H0 H2):=
 Ct.still2 (fun w ha=>by
  have h:Calls Tryz.prog 67 #[Str s,Str [47]] w fun e w'=>e= .returned (.string ⟨(Lib.trimB (⟨s.toArray⟩:ByteArray).data.toList 47).toArray⟩)∧(w'=w∨w'=w.drew):=Any.strings_Trim_one Tryz.lays160 ⟨s.toArray⟩ 47 (by decide) w (by simpa[ByteArray.size]using hs);exact h)
def dd:List UInt8→Bool
 |[]=>false
 |[_]=>false
 |a::b::l=>(a==47&&b==47)||dd (b::l)
theorem dd_index:∀s:List UInt8,(0≤Lib.index s [47,47])↔dd s=true
 |[]=>by simp[Lib.index,dd]
 |[a]=>by simp[Lib.index,dd,List.isPrefixOf]
 |a::b::l=>by
  have ih:=dd_index (b::l);have hg:=Lib.index_ge (b::l) [47,47];rw[Lib.index];by_cases h:a=47∧b=47
  ·obtain⟨rfl,rfl⟩:=h
   simp[List.isPrefixOf,dd]
  ·have hp:([47,47]:List UInt8).isPrefixOf (a::b::l)=false:=by
    simp only[List.isPrefixOf,Bool.and_true,Bool.and_eq_false_iff,beq_eq_false_iff_ne];by_cases h1:a=47
    ·exact .inr (fun e=>h ⟨h1,e.symm⟩)
    ·exact .inl (fun e=>h1 e.symm)
   have hd:dd (a::b::l)=dd (b::l):=by
    rw[dd]
    have:(a==47&&b==47)=false:=by
     rw[Bool.and_eq_false_iff,beq_eq_false_iff_ne,beq_eq_false_iff_ne];by_cases h1:a=47
     ·exact .inr (fun e=>h ⟨h1,e⟩)
     ·exact .inl h1
    rw[this,Bool.false_or]
   rw[hp,hd,←ih];simp only[Bool.false_eq_true,if_false];by_cases hm:Lib.index (b::l) [47,47]= -1
   ·simp[hm]
   ·simp[hm];omega
theorem dd_iff:∀s:List UInt8,dd s=true↔∃i,i+1<s.length∧s.getD i 0=47∧s.getD (i+1) 0=47
 |[]=>by simp[dd]
 |[a]=>by simp[dd]
 |a::b::l=>by
  rw[dd,Bool.or_eq_true,dd_iff (b::l),Bool.and_eq_true,beq_iff_eq,beq_iff_eq];constructor
  ·rintro(⟨h1,h2⟩|⟨i,h1,h2,h3⟩)
   ·exact⟨0,by simp,by simpa using h1,by simpa using h2⟩
   ·exact⟨i+1,by simp at h1⊢;omega,by simpa using h2,by simpa using h3⟩
  ·rintro⟨i,h1,h2,h3⟩
   cases i with
   |zero=>exact .inl ⟨by simpa using h2,by simpa using h3⟩
   |succ i=>exact .inr ⟨i,by simp at h1⊢;omega,by simpa using h2,by simpa using h3⟩
theorem slk_iff{p:List UInt8}(h0:1≤p.length):slk p=true↔p.getD 0 0≠47∧p.getD (p.length-1) 0≠47∧dd p=false:=by
 unfold slk;rw[List.all_eq_true];simp only[List.mem_range,Bool.not_eq_true',Bool.and_eq_false_iff,beq_eq_false_iff_ne,Bool.or_eq_false_iff];constructor
 ·intro h
  refine⟨?_,?_,?_⟩
  ·rcases h 0 (by omega)with h|h
   ·exact h
   ·exact absurd rfl h.1.1
  ·rcases h (p.length-1) (by omega)with h|h
   ·exact h
   ·exact absurd rfl h.1.2
  ·cases hd:dd p with
   |false=>rfl
   |true=>
    obtain⟨i,h1,h2,h3⟩:=(dd_iff p).1 hd;rcases h (i+1) h1 with h|h
    ·exact absurd h3 h
    ·exact absurd h2 (by simpa using h.2)
 ·rintro⟨h1,h2,h3⟩ i hi
  by_cases e:p.getD i 0=47
  ·refine .inr ⟨⟨fun e0=>?_,fun e0=>?_⟩,fun e0=>?_⟩
   ·subst e0;exact h1 e
   ·subst e0;exact h2 e
   ·have:dd p=true:=(dd_iff p).2 ⟨i-1,by
     rcases Nat.eq_zero_or_pos i with h|h
     ·subst h;exact absurd e h1
     ·omega,e0,by
     rcases Nat.eq_zero_or_pos i with h|h
     ·subst h;exact absurd e h1
     ·rw[show i-1+1=i by omega];exact e⟩
    rw[h3]at this;cases this
  ·exact .inl e
theorem trimB_iff{p:List UInt8}(h0:1≤p.length):Lib.trimB p 47=p↔p.getD 0 0≠47∧p.getD (p.length-1) 0≠47:=by
 have hL:∀q:List UInt8,(Lib.trimLeftB q 47).length≤q.length:=fun q=>(List.dropWhile_suffix _).length_le;have hR:∀q:List UInt8,(Lib.trimRightB q 47).length≤q.length:=fun q=>by unfold Lib.trimRightB;rw[List.length_reverse];have:=(List.dropWhile_suffix (l:=q.reverse) (fun x:UInt8=>x==47)).length_le;rwa[List.length_reverse]at this
 have hl1:∀q:List UInt8,1≤q.length→(Lib.trimLeftB q 47=q↔q.getD 0 0≠47):=by
  intro q hq
  cases q with
  |nil=>simp at hq
  |cons a l=>
   unfold Lib.trimLeftB;rw[List.dropWhile_cons];by_cases ha:a=47
   ·have:(List.dropWhile (fun x:UInt8=>x==47) l).length≤l.length:=(List.dropWhile_suffix _).length_le
    simp only[ha,beq_self_eq_true,if_true,List.getD_cons_zero,ne_eq,not_true,iff_false];intro e;rw[e]at this;simp only[List.length_cons]at this;omega
   ·simp[ha]
 have hr1:Lib.trimRightB p 47=p↔p.getD (p.length-1) 0≠47:=by
  have h:=hl1 p.reverse (by rw[List.length_reverse];omega)
  have e1:p.reverse.getD 0 0=p.getD (p.length-1) 0:=by
   simp[List.getD,List.getElem?_reverse (show 0<p.length by omega)]
  rw[←e1,←h];unfold Lib.trimRightB Lib.trimLeftB;constructor
  ·intro h;have:=congrArg List.reverse h;rwa[List.reverse_reverse]at this
  ·intro h;rw[h,List.reverse_reverse]
 unfold Lib.trimB;constructor
 ·intro h
  have e:Lib.trimRightB p 47=p:=by
   refine(List.IsPrefix.eq_of_length_le ?_ ?_)
   ·unfold Lib.trimRightB
    rw[←List.reverse_suffix,List.reverse_reverse];exact List.dropWhile_suffix _
   ·have h1:=congrArg List.length h
    have h2:=hL (Lib.trimRightB p 47);omega
  rw[e]at h;exact⟨(hl1 p h0).1 h,hr1.1 e⟩
 ·rintro⟨h1,h2⟩
  rw[hr1.2 h2];exact(hl1 p h0).2 h1
theorem name_iff(p:List UInt8):nameB p=true↔p≠[]∧p.length≤100∧Lib.trimB p 47=p∧Lib.contains p [47,47]=false∧∀i (h:i<p.length),okc p[i]=true:=by
 have hc:Lib.contains p [47,47]=dd p:=by
  unfold Lib.contains;rw[Bool.eq_iff_iff,decide_eq_true_iff];exact dd_index p
 unfold nameB;simp only[Bool.and_eq_true,decide_eq_true_eq,List.all_eq_true];rw[hc];constructor
 ·rintro⟨⟨⟨h1,h2⟩,h3⟩,h4⟩
  have h5:=(slk_iff h1).1 h4;exact⟨fun e=>by rw[e]at h1;simp at h1,h2,(trimB_iff h1).2 ⟨h5.1,h5.2.1⟩,h5.2.2,fun i h=>h3 _ (List.getElem_mem h)⟩
 ·rintro⟨h1,h2,h3,h4,h5⟩
  have h0:1≤p.length:=by cases p with
   |nil=>exact absurd rfl h1
   |cons a l=>simp
  have h6:=(trimB_iff h0).1 h3;refine⟨⟨⟨h0,h2⟩,fun x hx=>?_⟩,(slk_iff h0).2 ⟨h6.1,h6.2,h4⟩⟩;obtain⟨i,hi,rfl⟩:=List.mem_iff_getElem.1 hx;exact h5 i hi
theorem nameF{p:List UInt8}(h:¬(p≠[]∧p.length≤100∧Lib.trimB p 47=p∧Lib.contains p [47,47]=false∧∀i (h:i<p.length),okc p[i]=true)):nameB p=false:=by
 cases hn:nameB p with
 |false=>rfl
 |true=>exact absurd ((name_iff p).1 hn) h
theorem okc_iff(c:UInt8):okc c=true↔(97≤c.toNat∧c.toNat≤122)∨(48≤c.toNat∧c.toNat≤57)∨0≤Lib.indexByte [46,95,45,47] c:=by
 have h:∀n:Fin 256,(okc (UInt8.ofNat n.val)=decide ((97≤n.val∧n.val≤122)∨(48≤n.val∧n.val≤57)∨0≤Lib.indexByte [46,95,45,47] (UInt8.ofNat n.val))):=by decide+kernel
 have:=h ⟨c.toNat,c.toNat_lt⟩;simp only[UInt8.ofNat_toNat]at this;rw[this,decide_eq_true_iff]
theorem head_of{s:List UInt8}{j:Nat}(hj:j≤s.length)(h:lastL s=s.drop j):headP s=s.take (j-1):=by
 unfold headP;have h1:=congrArg List.length h;unfold lastL at h1;rw[List.length_reverse,List.length_drop]at h1;rw[h1];congr 1;omega
theorem lix_ct0(s:List UInt8)(w0:World)(H0:Heap)
 (hl:s.length≤9223372036854775807):
 Ct Tryz.prog w0 118 #[Str s,.int .u8 (47:UInt8).toNat] H0 (fun r H2=>∃j:Nat,r= .int .i64 ((j:Int)-1)∧(j≤s.length)∧(lastL s=s.drop j)∧Nw H0 H2):=by
 refine Ct.enter (args:=[Str s,.int .u8 (47:UInt8).toNat]) Tryz.func118 rfl rfl rfl ?_;intro Q0 hret;have hm0:Nw H0 H0:=Mo.refl _ _;refine CW.sr (fun ag=>?_);refine LR.an ?_;refine ag _ _ (CW.s2 (fun ah ai=>CW.sr (fun aj=>?_)));refine LR.m1 ?_;refine LR.v1 (Y.slen rfl u'9 rfl) ?_;refine LR.v1 (Y.subi rfl rfl rfl (by omega)) ?_;refine LR.an ?_;refine aj _ _ (CW.block (fun _ _ ak al=>?_))
 refine CW.loop (fun(j:(Nat))=>[(0,Str s),(1,.int .u8 (47:UInt8).toNat),(5,.int .i64 ((j:Int)-1))])
  (fun(j:(Nat)) (H:Heap)=>(j≤s.length)∧(∀q (h:q<s.length),j≤q→s[q]≠47)∧Nw H0 H)
  (fun(j:(Nat))=>j) s.length ⟨rfl,rfl,rfl,trivial⟩ ?_ ?_
 ·
  exact⟨(by omega),(fun q h h2=>absurd h2 (by omega)),Mo.refl _ _⟩
 intro j az am K5 ao af;obtain⟨hj,hno,aa⟩:=am;replace hm0:=hm0.tr aa;have aA:=aa.size;refine CW.s2 (fun ap aq=>CW.sr (fun ar=>?_));refine LR.m1 ?_;refine LR.v1 (Y.geq rfl rfl rfl) (LR.nil (ar _ _ ?_));refine CW.condp rfl (fun au=>?_) (fun au=>?_)
 ·
  refine CW.skip (ap _ _ (CW.s2 (fun av aw=>CW.block (fun _ ax _ ay=>CW.sr (fun ab=>?_)))));refine LR.m1 ?_;refine LR.m1 ?_;refine LR.v1 (Y.sindex (j-1) rfl u'9 rfl rfl (by first|rfl|omega) (by omega)) ?_;refine LR.m1 ?_;refine LR.v1 (Y.eql rfl rfl rfl) (LR.nil (ab _ _ ?_));refine CW.condp rfl (fun ac=>?_) (fun ac=>?_)
  ·
   refine CW.sr (fun ad=>?_);refine LR.m1 ?_;refine LR.an ?_;refine ad _ _ ?_;refine CW.ret (ay .ret nofun (by simp) _ _ (aw .ret nofun _ _ (af .ret nofun _ _ (al .ret nofun (by simp) _ _ (ai .ret nofun _ _ (hret .ret (.inr rfl) _ _ _ (res1 rfl rfl) ?_))))));exact⟨j,rfl,(by omega),lastL_at hj hno (fun h=>by apply UInt8.toNat_inj.1;have:=ac;simp at this⊢;omega),hm0⟩
  ·
   refine CW.skip (ax _ _ (av _ _ (CW.region ?_)));refine LR.m1 ?_;refine LR.v1 (Y.subi rfl rfl rfl (by omega)) ?_;refine LR.an ?_;refine QN.sub (ao (j-1) _ ?_ ?_) ⟨rfl,(iv (by omega)),(iv (by omega)),trivial⟩
   ·exact⟨(by omega),(fun q h h2=>by rcases Nat.lt_or_ge q j with h5|h5;(obtain rfl:q=j-1:=by omega);exact(fun e=>ac (by first|(rw[e];done)|(rw[e];rfl)));exact hno q h h5),aa⟩
   ·first|omega|(simp only;omega)|(simp;omega)
 ·
  refine CW.exit (aq (.exit 0) nofun _ _ (af (.exit 0) nofun _ _ (ak _ _ ?_)));refine ah _ _ (CW.sr (fun ae=>?_));refine LR.an ?_;refine ae _ _ ?_;refine CW.ret (hret .ret (.inr rfl) _ _ _ (res1 rfl rfl) ?_);obtain rfl:j=0:=by omega
  exact⟨0,rfl,(by omega),lastL_at hj hno (fun h=>absurd h (Nat.lt_irrefl _)),hm0⟩
theorem lix_ct(s:List UInt8)(w0:World)(H0:Heap)
 (hl:s.length≤9223372036854775807):
 Ct Tryz.prog w0 87 #[Str s,.int .u8 (47:UInt8).toNat] H0 (fun r H2=>∃j:Nat,r= .int .i64 ((j:Int)-1)∧(j≤s.length)∧(lastL s=s.drop j)∧Nw H0 H2):=by
 refine Ct.enter (args:=[Str s,.int .u8 (47:UInt8).toNat]) Tryz.func87 rfl rfl rfl ?_;intro Q0 hret;have hm0:Nw H0 H0:=Mo.refl _ _;refine CW.sr (fun aa=>?_);refine LR.an ?_;refine aa _ _ (CW.sr (fun ab=>?_));refine LR.m1 ?_;refine LR.m1 ?_;refine LR.call rfl c'118 rfl (Wd.u rfl) rfl rfl (lix_ct0 s w0 _ hl) ?_;rintro v7 H7 ⟨j7,rfl,hj7,hl7,ac⟩;replace hm0:=hm0.tr ac;refine LR.an ?_;refine ab _ _ ?_;refine CW.ret (hret .ret (.inr rfl) _ _ _ (res1 rfl rfl) ?_);exact⟨j7,rfl,hj7,hl7,hm0⟩
theorem name_ct(mx_:Int)(l:List UInt8)(w0:World)(H0:Heap)
 (mx:MX mx_ H0) (bf_mx:BF (fun b=>b=0) H0.size) (hl:l.length≤4294967280):
 Ct Tryz.prog w0 26 #[Str l] H0 (fun r H2=>r= .bool (nameB l)∧Nw H0 H2):=by
 refine Ct.enter (args:=[Str l]) Tryz.func26 rfl rfl rfl ?_;intro Q0 hret;have hm0:Nw H0 H0:=Mo.refl _ _;refine CW.sr (fun aS=>?_);refine LR.an ?_;refine aS _ _ (CW.s2 (fun aT aw=>CW.sr (fun ax=>?_)));refine LR.m1 ?_;refine LR.v1 (Y.seql rfl rfl rfl) ?_;refine LR.m1 ?_;refine LR.splitp (d:=7) rfl (fun g7=>?_) (fun g7=>?_)
 ·
  refine LR.g1 ?_;refine LR.g1 ?_;refine LR.g1 ?_;refine LR.pt ?_;refine LR.m1 ?_;refine LR.g1 ?_;refine LR.g1 ?_;refine LR.g1 ?_;refine LR.g1 ?_;refine LR.pt ?_;refine LR.m1 ?_;refine LR.g1 ?_;refine LR.g1 ?_;refine LR.pt ?_;refine LR.nil (ax _ _ ?_);refine CW.cond_t rfl ?_;refine CW.sr (fun aU=>?_);refine LR.an ?_;refine aU _ _ ?_;refine CW.ret (aw .ret nofun _ _ (hret .ret (.inr rfl) _ _ _ (res1 rfl rfl) ?_));exact⟨congrArg Value.bool (nameF (fun h=>by obtain⟨h1,h2,h3,h4,h5⟩:=h;first|exact h1 g7|omega|exact ar h3|(rw[h4]at ai;cases ai))).symm,hm0⟩
 ·
  refine LR.wm ?_;refine LR.w1 (Y.slen rfl u'9 rfl) ?_;refine LR.w1 (Y.gtr rfl rfl rfl) ?_;refine LR.pf ?_;refine LR.m1 ?_;refine LR.splitp (d:=12) rfl (fun aV=>?_) (fun aV=>?_)
  ·
   refine LR.g1 ?_;refine LR.g1 ?_;refine LR.g1 ?_;refine LR.g1 ?_;refine LR.pt ?_;refine LR.m1 ?_;refine LR.g1 ?_;refine LR.g1 ?_;refine LR.pt ?_;refine LR.nil (ax _ _ ?_);refine CW.cond_t rfl ?_;refine CW.sr (fun aW=>?_);refine LR.an ?_;refine aW _ _ ?_;refine CW.ret (aw .ret nofun _ _ (hret .ret (.inr rfl) _ _ _ (res1 rfl rfl) ?_));exact⟨congrArg Value.bool (nameF (fun h=>by obtain⟨h1,h2,h3,h4,h5⟩:=h;first|exact h1 g7|omega|exact ar h3|(rw[h4]at ai;cases ai))).symm,hm0⟩
  ·
   refine LR.wm ?_;refine LR.call rfl c'67 rfl (Wd.g rfl rfl rfl) rfl rfl (trim_ct l w0 _ (by omega)) (fun a9 a_ aX=>?_);obtain⟨rfl,am⟩:=aX;replace mx:=mx.nw am;replace hm0:=hm0.tr am;have ba:=am.size;refine LR.wm ?_;refine LR.w1 (Y.sneq rfl rfl rfl) ?_;refine LR.pf ?_;refine LR.m1 ?_;refine LR.splitp (d:=18) rfl (fun ar=>?_) (fun ar=>?_)
   ·
    refine LR.g1 ?_;refine LR.g1 ?_;refine LR.pt ?_;refine LR.nil (ax _ _ ?_);refine CW.cond_t rfl ?_;refine CW.sr (fun aY=>?_);refine LR.an ?_;refine aY _ _ ?_;refine CW.ret (aw .ret nofun _ _ (hret .ret (.inr rfl) _ _ _ (res1 rfl rfl) ?_));exact⟨congrArg Value.bool (nameF (fun h=>by obtain⟨h1,h2,h3,h4,h5⟩:=h;first|exact h1 g7|omega|exact ar h3|(rw[h4]at ai;cases ai))).symm,hm0⟩
   ·
    refine LR.wm ?_;refine LR.call rfl c'68 rfl (Wd.g rfl rfl rfl) rfl rfl (contains_ct l [47,47] mx_ w0 _ mx (by omega)) (fun bb bc aZ=>?_);obtain⟨rfl,au⟩:=aZ;replace hm0:=hm0.tr au;have bd:=au.size;refine LR.pf ?_;refine LR.nil (ax _ _ ?_);refine CW.cond rfl (fun ai=>?_) (fun ai=>?_)
    ·
     refine CW.sr (fun a0=>?_);refine LR.an ?_;refine a0 _ _ ?_;refine CW.ret (aw .ret nofun _ _ (hret .ret (.inr rfl) _ _ _ (res1 rfl rfl) ?_));exact⟨congrArg Value.bool (nameF (fun h=>by obtain⟨h1,h2,h3,h4,h5⟩:=h;first|exact h1 g7|omega|exact ar h3|(rw[h4]at ai;cases ai))).symm,hm0⟩
    ·
     refine CW.skip (aT _ _ (CW.s2 (fun a1 ay=>CW.sr (fun a2=>?_))));refine LR.m1 ?_;refine LR.z1 (Z.strbw rfl Tryz.underlying9 Tryz.underlying34 Tryz.underlying5 rfl (by omega)) fun aP a3 a4=>?_;obtain⟨owb,av,aQ⟩:=a4;replace hm0:=hm0.tr av;have be:=av.size;refine LR.v1 (Y.len owb.rd rfl u'34 rfl) ?_;refine LR.m1 (LR.nil (a2 _ _ ?_));refine CW.block (fun _ _ az aj=>?_)
     refine CW.loop (fun(i:(Nat))=>[(23,aP),(24,.int .i64 l.length),(25,.int .i64 i)])
      (fun(i:(Nat)) (H:Heap)=>(i≤l.length)∧(∀q (h:q<l.length),q<i→okc l[q]=true)∧Nw a3 H)
      (fun(i:(Nat))=>l.length-i) 0 ⟨rfl,rfl,rfl,trivial⟩ ?_ ?_
     ·
      exact⟨(by omega),(fun q h h2=>absurd h2 (by omega)),Mo.refl _ _⟩
     intro i aA a5 bf aB ah;obtain⟨hi,hok,ag⟩:=a5;replace owb:=owb.nw ag;replace hm0:=hm0.tr ag;have bg:=ag.size;refine CW.sr (fun aC=>?_);refine LR.v1 (Y.lss rfl rfl rfl) (LR.nil (aC _ _ ?_));refine CW.s2 (fun aD aE=>?_);refine CW.condp rfl (fun a6=>?_) (fun a6=>?_)
     ·
      have hil:i<l.length:=by omega
      refine CW.skip (aD _ _ ?_)
      refine CW.cut (fun(_:Unit)=>[(23,aP),(24,.int .i64 l.length),(25,.int .i64 i)])
       (fun(_:Unit) (H:Heap)=>(okc l[i]=true)∧Nw aA H) (fun _ ac ak=>?_) ?_
      ·
       have aa:Nw aA aA:=Mo.refl _ _;refine CW.block (fun _ ad _ al=>CW.sr (fun aF=>?_));refine LR.v1 (Y.owAddr owb (i) rfl u'34 s'5 rfl rfl (by first|rfl|omega) (by first|omega|(simp;omega)|(simp;done))) ?_;refine LR.v1 (Y.load1 (owb.pt (j:=i) (by first|omega|(simp;omega)|(simp;done))) rfl a'5 rfl) ?_;refine LR.an ?_;refine aF _ _ (CW.sr (fun ae=>?_));refine LR.m1 ?_;refine LR.v1 (Y.geq rfl rfl rfl) ?_;refine LR.m1 ?_;refine LR.splitp (d:=31) rfl (fun a7=>?_) (fun a7=>?_)
       ·
        refine LR.wm ?_;refine LR.w1 (Y.leq rfl rfl rfl) ?_;refine LR.pt ?_;refine LR.m1 ?_;refine LR.splitp (d:=35) rfl (fun a8=>?_) (fun a8=>?_)
        ·
         refine LR.g1 ?_;refine LR.g1 ?_;refine LR.g1 ?_;refine LR.gsu rfl rfl rfl rfl rfl ?_;refine LR.gsu rfl rfl rfl rfl rfl ?_;refine LR.g1 ?_;refine LR.pt ?_;refine LR.m1 ?_;refine LR.g1 ?_;refine LR.g1 ?_;refine LR.g1 ?_;refine LR.pt ?_;refine LR.v1 (Y.not rfl rfl) (LR.nil (ae _ _ ?_));refine CW.cond_f rfl ?_;refine CW.skip (ad _ _ ?_);refine QN.sub (ac () _ ?_) ⟨rfl,(iv (by omega)),(iv (by omega)),trivial⟩;exact⟨(okc_iff _).2 (by simp at*;omega),aa⟩
        ·
         refine LR.wm ?_;refine LR.w1 (Y.geq rfl rfl rfl) ?_;refine LR.wm ?_;refine LR.splitp (d:=38) rfl (fun aG=>?_) (fun aG=>?_)
         ·
          refine LR.wm ?_;refine LR.w1 (Y.leq rfl rfl rfl) ?_;refine LR.w1 (Y.pick_t rfl rfl rfl) ?_;refine LR.pf ?_;refine LR.m1 ?_;refine LR.splitp (d:=43) rfl (fun aH=>?_) (fun aH=>?_)
          ·
           refine LR.g1 ?_;refine LR.g1 ?_;refine LR.g1 ?_;refine LR.pt ?_;refine LR.v1 (Y.not rfl rfl) (LR.nil (ae _ _ ?_));refine CW.cond_f rfl ?_;refine CW.skip (ad _ _ ?_);refine QN.sub (ac () _ ?_) ⟨rfl,(iv (by omega)),(iv (by omega)),trivial⟩;exact⟨(okc_iff _).2 (by simp at*;omega),aa⟩
          ·
           refine LR.wm ?_;refine LR.call rfl c'69 rfl (Wd.g rfl rfl rfl) rfl rfl (idx_ct [46,95,45,47] l[i] w0 _) (fun aI aJ ao=>?_);obtain⟨rfl,ab⟩:=ao;replace hm0:=hm0.tr ab;replace aa:=aa.tr ab;have bh:=ab.size;refine LR.w1 (Y.geq rfl rfl rfl) ?_;refine LR.pf ?_;refine LR.v1 (Y.notp rfl rfl) (LR.nil (ae _ _ ?_));refine CW.condp rfl (fun ap=>?_) (fun ap=>?_)
           ·
            refine CW.sr (fun aK=>?_);refine LR.an ?_;refine aK _ _ ?_;refine CW.ret (al .ret nofun (by simp) _ _ (ak .ret nofun _ _ (ah .ret nofun _ _ (aj .ret nofun (by simp) _ _ (ay .ret nofun _ _ (hret .ret (.inr rfl) _ _ _ (res1 rfl rfl) ?_))))));exact⟨congrArg Value.bool (nameF (fun h=>by have h9:=(okc_iff _).1 (h.2.2.2.2 i hil);simp at*;omega)).symm,hm0⟩
           ·
            refine CW.skip (ad _ _ ?_);refine QN.sub (ac () _ ?_) ⟨rfl,(iv (by omega)),(iv (by omega)),trivial⟩;exact⟨(okc_iff _).2 (by simp at*;omega),aa⟩
         ·
          refine LR.g1 ?_;refine LR.g1 ?_;refine LR.w1 (Y.pick_f rfl rfl rfl) ?_;refine LR.pf ?_;refine LR.m1 ?_;refine LR.wm ?_;refine LR.call rfl c'69 rfl (Wd.g rfl rfl rfl) rfl rfl (idx_ct [46,95,45,47] l[i] w0 _) (fun aI aJ ao=>?_);obtain⟨rfl,ab⟩:=ao;replace hm0:=hm0.tr ab;replace aa:=aa.tr ab;have bi:=ab.size;refine LR.w1 (Y.geq rfl rfl rfl) ?_;refine LR.pf ?_;refine LR.v1 (Y.notp rfl rfl) (LR.nil (ae _ _ ?_));refine CW.condp rfl (fun ap=>?_) (fun ap=>?_)
          ·
           refine CW.sr (fun aL=>?_);refine LR.an ?_;refine aL _ _ ?_;refine CW.ret (al .ret nofun (by simp) _ _ (ak .ret nofun _ _ (ah .ret nofun _ _ (aj .ret nofun (by simp) _ _ (ay .ret nofun _ _ (hret .ret (.inr rfl) _ _ _ (res1 rfl rfl) ?_))))));exact⟨congrArg Value.bool (nameF (fun h=>by have h9:=(okc_iff _).1 (h.2.2.2.2 i hil);simp at*;omega)).symm,hm0⟩
          ·
           refine CW.skip (ad _ _ ?_);refine QN.sub (ac () _ ?_) ⟨rfl,(iv (by omega)),(iv (by omega)),trivial⟩;exact⟨(okc_iff _).2 (by simp at*;omega),aa⟩
       ·
        refine LR.g1 ?_;refine LR.g1 ?_;refine LR.pf ?_;refine LR.m1 ?_;refine LR.wm ?_;refine LR.w1 (Y.geq rfl rfl rfl) ?_;refine LR.wm ?_;refine LR.splitp (d:=38) rfl (fun aG=>?_) (fun aG=>?_)
        ·
         refine LR.wm ?_;refine LR.w1 (Y.leq rfl rfl rfl) ?_;refine LR.w1 (Y.pick_t rfl rfl rfl) ?_;refine LR.pf ?_;refine LR.m1 ?_;refine LR.splitp (d:=43) rfl (fun aH=>?_) (fun aH=>?_)
         ·
          refine LR.g1 ?_;refine LR.g1 ?_;refine LR.g1 ?_;refine LR.pt ?_;refine LR.v1 (Y.not rfl rfl) (LR.nil (ae _ _ ?_));refine CW.cond_f rfl ?_;refine CW.skip (ad _ _ ?_);refine QN.sub (ac () _ ?_) ⟨rfl,(iv (by omega)),(iv (by omega)),trivial⟩;exact⟨(okc_iff _).2 (by simp at*;omega),aa⟩
         ·
          refine LR.wm ?_;refine LR.call rfl c'69 rfl (Wd.g rfl rfl rfl) rfl rfl (idx_ct [46,95,45,47] l[i] w0 _) (fun aI aJ ao=>?_);obtain⟨rfl,ab⟩:=ao;replace hm0:=hm0.tr ab;replace aa:=aa.tr ab;have bj:=ab.size;refine LR.w1 (Y.geq rfl rfl rfl) ?_;refine LR.pf ?_;refine LR.v1 (Y.notp rfl rfl) (LR.nil (ae _ _ ?_));refine CW.condp rfl (fun ap=>?_) (fun ap=>?_)
          ·
           refine CW.sr (fun aM=>?_);refine LR.an ?_;refine aM _ _ ?_;refine CW.ret (al .ret nofun (by simp) _ _ (ak .ret nofun _ _ (ah .ret nofun _ _ (aj .ret nofun (by simp) _ _ (ay .ret nofun _ _ (hret .ret (.inr rfl) _ _ _ (res1 rfl rfl) ?_))))));exact⟨congrArg Value.bool (nameF (fun h=>by have h9:=(okc_iff _).1 (h.2.2.2.2 i hil);simp at*;omega)).symm,hm0⟩
          ·
           refine CW.skip (ad _ _ ?_);refine QN.sub (ac () _ ?_) ⟨rfl,(iv (by omega)),(iv (by omega)),trivial⟩;exact⟨(okc_iff _).2 (by simp at*;omega),aa⟩
        ·
         refine LR.g1 ?_;refine LR.g1 ?_;refine LR.w1 (Y.pick_f rfl rfl rfl) ?_;refine LR.pf ?_;refine LR.m1 ?_;refine LR.wm ?_;refine LR.call rfl c'69 rfl (Wd.g rfl rfl rfl) rfl rfl (idx_ct [46,95,45,47] l[i] w0 _) (fun aI aJ ao=>?_);obtain⟨rfl,ab⟩:=ao;replace hm0:=hm0.tr ab;replace aa:=aa.tr ab;have bk:=ab.size;refine LR.w1 (Y.geq rfl rfl rfl) ?_;refine LR.pf ?_;refine LR.v1 (Y.notp rfl rfl) (LR.nil (ae _ _ ?_));refine CW.condp rfl (fun ap=>?_) (fun ap=>?_)
         ·
          refine CW.sr (fun aN=>?_);refine LR.an ?_;refine aN _ _ ?_;refine CW.ret (al .ret nofun (by simp) _ _ (ak .ret nofun _ _ (ah .ret nofun _ _ (aj .ret nofun (by simp) _ _ (ay .ret nofun _ _ (hret .ret (.inr rfl) _ _ _ (res1 rfl rfl) ?_))))));exact⟨congrArg Value.bool (nameF (fun h=>by have h9:=(okc_iff _).1 (h.2.2.2.2 i hil);simp at*;omega)).symm,hm0⟩
         ·
          refine CW.skip (ad _ _ ?_);refine QN.sub (ac () _ ?_) ⟨rfl,(iv (by omega)),(iv (by omega)),trivial⟩;exact⟨(okc_iff _).2 (by simp at*;omega),aa⟩
      ·
       intro _ aR aq;obtain⟨hci,af⟩:=aq;replace ag:=ag.tr af;have bl:=af.size;refine CW.region ?_;refine LR.v1 (Y.addi rfl rfl rfl (by omega)) ?_;refine LR.m1 (LR.nil ?_);refine QN.sub (aB (i+1) _ ?_ ?_) ⟨rfl,(iv (by omega)),(iv (by omega)),trivial⟩
       ·exact⟨(by omega),(fun q h h2=>by rcases Nat.lt_or_ge q i with h5|h5;exact hok q h h5;(obtain rfl:q=i:=by omega);exact hci),ag⟩
       ·first|omega|(simp only;omega)|(simp;omega)
     ·
      refine CW.exit (aE (.exit 0) nofun _ _ (ah (.exit 0) nofun _ _ (az _ _ ?_)));refine a1 _ _ (CW.sr (fun aO=>?_));refine LR.an ?_;refine aO _ _ ?_;refine CW.ret (hret .ret (.inr rfl) _ _ _ (res1 rfl rfl) ?_);obtain rfl:i=l.length:=by omega
      exact⟨congrArg Value.bool ((name_iff l).2 ⟨g7,by omega,by simpa using ar,by simpa using ai,fun i h=>hok i h h⟩).symm,hm0⟩
theorem dir_ct(mx_:Int)(l:List UInt8)(w0:World)(H0:Heap)
 (mx:MX mx_ H0) (bf_mx:BF (fun b=>b=0) H0.size) (hl:l.length≤4294967280):
 Ct Tryz.prog w0 52 #[Str l] H0 (fun r H2=>r=Str (dirP l)∧Nw H0 H2):=by
 refine Ct.enter (args:=[Str l]) Tryz.func52 rfl rfl rfl ?_;intro Q0 hret;have hm0:Nw H0 H0:=Mo.refl _ _;refine CW.sr (fun ac=>?_);refine LR.an ?_;refine ac _ _ (CW.s2 (fun ad ae=>CW.sr (fun af=>?_)));refine LR.m1 ?_;refine LR.call rfl c'26 rfl (Wd.u rfl) rfl rfl (name_ct mx_ l w0 _ mx (bf_mx.mono (by omega)) hl) ?_;rintro v4 H4 ⟨rfl,aa⟩;replace hm0:=hm0.tr aa;have ai:=aa.size;refine LR.v1 (Y.not rfl rfl) (LR.nil (af _ _ ?_));refine CW.cond rfl (fun c5=>?_) (fun c5=>?_)
 ·
  refine CW.sr (fun ag=>?_);refine LR.an ?_;refine ag _ _ ?_;refine CW.ret (ae .ret nofun _ _ (hret .ret (.inr rfl) _ _ _ (res1 rfl rfl) ?_));exact⟨by rw[dirP,if_neg (by simpa using c5)];rfl,hm0⟩
 ·
  refine CW.skip (ad _ _ (CW.sr (fun ah=>?_)));refine LR.m1 ?_;refine LR.m1 ?_;refine LR.call rfl c'87 rfl (Wd.u rfl) rfl rfl (lix_ct l w0 _ (by omega)) ?_;rintro v8 H8 ⟨j8,rfl,hj8,hl8,ab⟩;replace hm0:=hm0.tr ab;have aj:=ab.size;refine LR.v1 (Y.cast (v2:= .int .i64 ((j8-1:Nat):Int)) (Y.maxi rfl rfl rfl) (ivv (by omega))) ?_;refine LR.v1 (Y.sslice (0) (j8-1) rfl u'9 rfl (.inl ⟨rfl,rfl⟩) (.inr ⟨_,_,_,rfl,rfl,by first|rfl|omega⟩) (by omega) (by omega)) ?_;refine LR.an ?_;refine ah _ _ ?_;refine CW.ret (hret .ret (.inr rfl) _ _ _ (res1 rfl rfl) ?_);exact⟨by rw[dirP,if_pos (by simpa using c5),head_of hj8 hl8];simp,hm0⟩
end SimA

namespace E
open Go.Lib
section
variable {P : Program} {w0 : World} {n : Nat} {l : FL} {H : Heap} {o : Oper} {α : Type} {f : α → List Value} {sz : Nat} {v : Value} {e : TypeId}
theorem zeroCells_rep'{z:Value}{z0:α}(h:z.cells.toList=f z0):∀m,(Builtin.zeroCells z.cells m).toList=(List.replicate m z0).flatMap f:=by
 have hl:(f z0).length=z.cells.size:=by rw[←h,Array.length_toList]
 have e0:∀m,(Builtin.zeroCells z.cells m).toList=(List.range (m*z.cells.size)).map (fun i=>z.cells[i%z.cells.size]!):=fun m=>by
  unfold Builtin.zeroCells;rw[Array.toList_map,Array.toList_range]
 have e1:(List.range z.cells.size).map (fun i=>z.cells[i%z.cells.size]!)=f z0:=by
  rw[←h];apply List.ext_getElem
  ·simp
  ·intro j h1 h2
   have hj:j<z.cells.size:=by simpa using h1
   simp[Nat.mod_eq_of_lt hj,getElem!_pos z.cells j hj]
 intro m;rw[e0]
 induction m with
 |zero=>simp
 |succ m ih=>
  rw[Nat.succ_mul,Nat.add_comm,List.range_add,List.map_append,List.map_map,e1,List.replicate_succ,List.flatMap_cons,←ih];congr 1;apply List.map_congr_left;intro j _;simp
theorem Z.apzOwn{G:Nat→Prop}{xs:List α}{s x:Operand}{t tn:TypeId}{kn kq:IntKind}{bytes m:Nat}{zv:Value}(h:Own G e H f sz v xs)(z0:α)(ho:o.op= .call {callee:= .builtin .append,args:= #[s,x],argTypes:= #[t,tn]})
 (hinf:Inf P t e sz bytes) (htn:P.underlying tn=some (.int kn)) (hzv:∀w,(zeroValue e).run P w= .ok zv w) (hz0:zv.cells.toList=f z0) (hs0:0<sz) (hs:opv l s=some v) (hx:opv l x=some (.int kq (m:Nat)))
 (hb:(xs.length+m)*bytes≤140737488355328) (hm:xs.length+m≤9223372036854775807):
 Z P w0 n l H o (fun r H'=>Own (fun b=>G b∨H.size≤b) e H' f sz r (xs++List.replicate m z0)∧Mo G H H'):=by
 obtain⟨ht,i,z,hi,hz,hsz,hby,hzs⟩:=hinf;subst hsz;subst hby;intro a w hf ha
 have hzz:z=zv:=by
  have h1:=hzv w;simp[zeroValue,typeInfo,hi,hz]at h1;exact h1
 subst hzz;have hl:((List.replicate m z0).flatMap f).length=m*i.size:=by rw[length_flatMap h.cells,List.length_replicate]
 have h1:∀c∈(List.replicate m z0).flatMap f,c.oneCell'=true:=by
  intro c hc;obtain⟨y,hy,hc⟩:=List.mem_flatMap.1 hc;exact h.one y c hc
 have hzc:Builtin.zeroCells z.cells m=((List.replicate m z0).flatMap f).toArray:=by apply Array.ext';rw[zeroCells_rep' hz0]
 have hw:IntKind.i64.wrap (m:Int)=m:=by rw[IntKind.wrap_i64];omega
 have hneg:¬((m:Int)<0):=by omega
 have h48i:¬(281474976710656<(m:Int)*(i.bytes:Int)):=by
  have:m*i.bytes≤(xs.length+m)*i.bytes:=Nat.mul_le_mul_right _ (by omega);rw[←Int.natCast_mul];omega
 have grown:∀(old:Nat) (r:Value),old<xs.length+m→r= .slice (some ⟨w.heap.size,0,none⟩) (xs.length+m) (grownCap w (xs.length+m) old e)→∀ob,ob=Obj.cells ((xs.flatMap f).toArray++Builtin.zeroCells z.cells m++Builtin.zeroCells z.cells (grownCap w (xs.length+m) old e-(xs.length+m))) e→
  At w0 (w.drew.alloc ob).heap (w.drew.alloc ob)∧Own (fun b=>G b∨H.size≤b) e (w.drew.alloc ob).heap f i.size r (xs++List.replicate m z0)∧Mo G H (w.drew.alloc ob).heap:=by
  rintro old r ho' rfl ob rfl;have hge:=grownCap_ge w (xs.length+m) old e;have hcm:grownCap w (xs.length+m) old e≤maxLen:=grownCap_le_maxLen w (xs.length+m) old e (by unfold maxLen;omega);have ha2:At w0 H w.drew:=ha.drew;refine⟨⟨rfl,ha.os,ha.tape,ha.output,ha2.dr⟩,?_,?_⟩
  ·have:=Own.new (e:=e) (G':=fun b=>G b∨H.size≤b) (w:=w.drew) (z:=z) (cap:=grownCap w (xs.length+m) old e) (zs:=xs++List.replicate m z0) h.cells h.one hzs (.inr (by rw[ha2.heap];exact Nat.le_refl _)) (by simpa using hge) hcm
   rw[hzc]
   simpa using this
  ·rw[(ha2.alloc _).heap];exact Mo.push _ _ _
 rcases h.ex with⟨rfl,rfl⟩|⟨g,cap',cur,rfl,hg,hh,r1,r2,r3,r4⟩
 ·by_cases hm0:m=0
  ·subst hm0
   refine⟨.slice none 0 0,H,w,?_,ha,by simpa using h.imp (fun b _ hg=> .inl hg),Mo.refl _ _⟩;simp[execOp,ho,resolve,invoke,builtin,hf.eval hs,hf.eval hx,Builtin.append_,run_underlying ht,run_underlying htn,sizeOf,typeInfo,hi,asInt,asIntOf,IntKind.wrap_i64]
  ·simp only[List.length_nil,Nat.zero_add]at hb hm
   have hrun:=run_append_nil_zeros (P:=P) w t tn o.type e i z kq kn ht htn hi hz m (by omega) hs0 (by omega) (by omega);have:=grown 0 _ (by simp;omega) rfl _ rfl;simp only[List.length_nil,Nat.zero_add,List.flatMap_nil,List.nil_append,Array.empty_append]at this;exact⟨_,_,_,by simp[execOp,ho,resolve,invoke,builtin,hf.eval hs,hf.eval hx,hrun],this.1,this.2.1,this.2.2⟩
 ·obtain⟨fz,hh0,hsf⟩:=id hh
  have hg':w.heap[g]?=some (.cells cur e fz):=by rw[ha.heap];exact hh0
  by_cases hroom:xs.length+m≤cap'
  ·have hfit:xs.length*i.size+((List.replicate m z0).flatMap f).length≤cur.size:=by rw[hl,r3,←Nat.add_mul];exact Nat.mul_le_mul_right _ hroom
   have hst:=run_storeCells_soft P g (xs.length*i.size) e fz ((List.replicate m z0).flatMap f) 0 cur w hg' hsf (by simpa using hfit) h1;simp only[Nat.add_zero]at hst
   have hrun:(Builtin.append_ #[t,tn] o.type #[.slice (some ⟨g,0,none⟩) xs.length cap',.int kq m]).run P w= .ok (.slice (some ⟨g,0,none⟩) (xs.length+m) cap') (w.setRow g (cur.toList.take (xs.length*i.size)++(List.replicate m z0).flatMap f++cur.toList.drop (xs.length*i.size+((List.replicate m z0).flatMap f).length)).toArray):=by
    by_cases hm0:m=0
    ·subst hm0
     simp only[List.replicate_zero,List.flatMap_nil]at hst;simp[Builtin.append_,run_underlying ht,run_underlying htn,sizeOf,typeInfo,hi,asInt,asIntOf,IntKind.wrap_i64,r1,Addr.add_lit,hst]
    ·have hns:¬(m*i.size=0):=Nat.mul_ne_zero hm0 (by omega)
     simp[Builtin.append_,run_underlying ht,run_underlying htn,sizeOf,typeInfo,zeroValue,hi,hz,asInt,asIntOf,hw,hneg,h48i,hns,hroom,hzc,Addr.add_lit,hst]
   refine⟨.slice (some ⟨g,0,none⟩) (xs.length+m) cap',(w.setRow g (cur.toList.take (xs.length*i.size)++(List.replicate m z0).flatMap f++cur.toList.drop (xs.length*i.size+((List.replicate m z0).flatMap f).length)).toArray).heap,w.setRow g (cur.toList.take (xs.length*i.size)++(List.replicate m z0).flatMap f++cur.toList.drop (xs.length*i.size+((List.replicate m z0).flatMap f).length)).toArray,by simp[execOp,ho,resolve,invoke,builtin,hf.eval hs,hf.eval hx,hrun],⟨rfl,ha.os,ha.tape,ha.output,ha.dr⟩,⟨h.cells,h.one,.inr ⟨g,cap',_,by rw[List.length_append,List.length_replicate],.inl hg,⟨fz,setRow_heap w g cur _ e _ hg',hsf.1,fun i hi=>hsf.2 i (by simp only[List.size_toArray,List.length_append,List.length_take,List.length_drop,Array.length_toList]at hi;omega)⟩,by rw[List.length_append,List.length_replicate];exact hroom,r2,?_,?_⟩⟩,?_⟩
   ·simp only[List.size_toArray,List.length_append,List.length_take,List.length_drop,Array.length_toList]
    omega
   ·have hlx:=length_flatMap h.cells xs
    rw[r4,←List.flatMap_append,List.length_append,Nat.add_mul,List.length_replicate,←hl,←hlx,←List.length_append,←List.flatMap_append];exact List.take_left
   ·exact(setRow_mo ha g _).weaken (fun b _ e=>by rw[e];exact hg)
  ·have holds:∀j c,(xs.flatMap f)[j]?=some c→w.drew.cell? ((⟨g,0,none⟩:Addr).add j)=some c:=h.rd.pts h.cells rfl ha.drew
   have hold:(Builtin.firstCells i.size xs.length (.slice (some ⟨g,0,none⟩) xs.length cap')).run P w.drew= .ok (xs.flatMap f).toArray w.drew:=run_firstCells_some (P:=P) w.drew i.size xs.length ⟨g,0,none⟩ xs.length cap' _ (length_flatMap h.cells xs) holds
   have hrun:=Lib.run_append_grow_zeros (P:=P) w t tn o.type e i z kq kn ht htn hi hz (some ⟨g,0,none⟩) xs.length cap' (xs.flatMap f) hold m (by omega) hs0 (by omega) (by omega) (by
    have:m*i.bytes≤(xs.length+m)*i.bytes:=Nat.mul_le_mul_right _ (by omega);omega) (growslice_fits (by omega) hb)
   have:=grown cap' _ (by omega) rfl _ rfl;exact⟨_,_,_,by simp[execOp,ho,resolve,invoke,builtin,hf.eval hs,hf.eval hx,hrun],this.1,this.2.1,this.2.2⟩
theorem Z.apz{k:Nat}{xs:List α}{s x:Operand}{t tn:TypeId}{kn kq:IntKind}{bytes m:Nat}{zv:Value}(h:Ow k e H f sz v xs)(z0:α)(ho:o.op= .call {callee:= .builtin .append,args:= #[s,x],argTypes:= #[t,tn]})
 (hinf:Inf P t e sz bytes) (htn:P.underlying tn=some (.int kn)) (hzv:∀w,(zeroValue e).run P w= .ok zv w) (hz0:zv.cells.toList=f z0) (hs0:0<sz) (hs:opv l s=some v) (hx:opv l x=some (.int kq (m:Nat)))
 (hb:(xs.length+m)*bytes≤140737488355328) (hm:xs.length+m≤9223372036854775807):
 Z P w0 n l H o (fun r H'=>∃k',Ow k' e H' f sz r (xs++List.replicate m z0)∧(k'=0∨k'=k∨H.size<k')∧Mo (fun b=>b+1=k) H H'):=
 (Z.apzOwn h.own z0 ho hinf htn hzv hz0 hs0 hs hx hb hm).mono fun r H' ⟨h1,h2⟩=>by
  obtain⟨k',h3,h4⟩:=Ow.of h1;refine⟨k',h3,?_,h2⟩;rcases h4 with rfl|⟨g,rfl,h5⟩
  ·exact .inl rfl
  ·omega
theorem Y.sliceV'{x:Operand}{lo hi:Option Operand}{t e:TypeId}{a:Option Addr}{len cap sz:Nat}(i j:Nat)(ho:o.op= .slice t x lo hi none)(ht:∀w,(underlying t).run P w= .ok (.slice e) w)(hs:∀w,(sizeOf e).run P w= .ok sz w)(hx:opv l x=some (.slice a len cap))
 (hlo:lo=none∧i=0∨∃p k iv,lo=some p∧opv l p=some (.int k iv)∧iv=(i:Int)) (hhi:hi=none∧j=len∨∃p k iv,hi=some p∧opv l p=some (.int k iv)∧iv=(j:Int)) (hij:i≤j) (hj:j≤cap):
 Y P w0 n l H o (.slice (if cap=i then a else a.map (·.add (i*sz))) (j-i) (cap-i)):=by
 intro ac w hf ha
 have e1:∀w,(Instr.sliceBounds true len cap (lo.map ac.eval) (hi.map ac.eval) none).run P w= .ok (i,j,cap) w:=by
  intro w
  rcases hlo with⟨rfl,rfl⟩|⟨p,k,iv,rfl,h1,rfl⟩<;>rcases hhi with⟨rfl,rfl⟩|⟨p2,k2,iv2,rfl,h3,rfl⟩<;>
   simp[Instr.sliceBounds,Instr.sliceBound,asIntOf,hf.eval, *]
 have hu:∀w,(underlying t).run P w= .ok (.slice e) w:=ht;simp[execOp,ho,hf.eval hx,Instr.sliceAt,Instr.slice,hu,hs,e1]
theorem Y.capV'{x:Operand}{t e:TypeId}{a:Option Addr}{len cap:Nat}(ho:o.op= .call {callee:= .builtin .cap,args:= #[x],argTypes:= #[t]})(ht:∀w,(underlying t).run P w= .ok (.slice e) w)(hx:opv l x=some (.slice a len cap)):Y P w0 n l H o (.int .i64 cap):=by
 intro ac w hf ha;simp[execOp,ho,hf.eval hx,resolve,invoke,builtin,Builtin.cap_,ht,goInt]
end
end E

namespace SimB
open E Go.RowKit SimA
set_option maxRecDepth 100000 in
theorem inf22:Inf Tryz.prog 22 34 1 24:=⟨Tryz.underlying22,_,_,rfl,rfl,rfl,rfl,rfl⟩
set_option maxRecDepth 100000 in
theorem inf34:Inf Tryz.prog 34 5 1 1:=⟨Tryz.underlying34,_,_,rfl,rfl,rfl,rfl,rfl⟩
theorem bclone_ct(v1:Value)(a:List UInt8)(w0:World)(H0:Heap)
 (ha:RdT H0 fB 1 v1 a) (hal:a.length≤140737488355328):
 Ct Tryz.prog w0 64 #[v1] H0 (fun r H2=>∃s:SV,∃k:Nat,r=s.v∧(Ow k 5 H2 fB 1 s.v a)∧(Nx 0 H0.size k)∧Nw H0 H2):=by
 refine Ct.enter (args:=[v1]) Tryz.func64 rfl rfl rfl ?_;intro Q0 hret;have hm0:Nw H0 H0:=Mo.refl _ _;replace ha:=ha.bnd;obtain⟨p,cp,rfl,_,_,hne⟩:=id ha.ex;refine CW.sr (fun ag=>?_);refine LR.an ?_;refine ag _ _ (CW.s2 (fun ah ai=>CW.sr (fun aj=>?_)));refine LR.m1 ?_;refine LR.v1 (Y.sleq rfl Tryz.underlying34 rfl rfl) (LR.nil (aj _ _ ?_));refine CW.cond rfl (fun c4=>?_) (fun c4=>?_)
 ·
  obtain rfl:a=[]:=by
   apply Decidable.byContradiction;intro h;obtain⟨ad,h1,_⟩:=hne h;rw[h1]at c4;cases c4
  refine CW.sr (fun ak=>?_);refine LR.an ?_;refine ak _ _ ?_;refine CW.ret (ai .ret nofun _ _ (hret .ret (.inr rfl) _ _ _ (res1 rfl rfl) ?_));exact⟨⟨none,0,0⟩,0,rfl,Ow.nil fB_len fB_one,Nx.refl _ _,hm0⟩
 ·
  refine CW.skip (ah _ _ (CW.sr (fun al=>?_)));refine LR.z1 (Z.litw _ (([]:List UInt8)) rfl inf34 rfl rfl rfl (by decide) (by decide) fB_len fB_one (rfl)) ?_;rintro v5 H5 ⟨am,aa,ar,ao⟩;have ap:H5.size=H0.size+1:=by rw[ao];simp
  have ae:Nx 0 H0.size (H0.size+1):=Nx.new hm0.size;replace ha:=ha.nw aa;replace hm0:=hm0.tr aa;have au:=aa.size;refine LR.m1 ?_;refine LR.z1 (Z.apnd am ha rfl inf34 rfl rfl (by first|omega|(simp;omega)) (by first|omega|(simp;omega))) ?_;rintro v7 H7 ⟨k7,af,ab,ac⟩;replace ab:Nx (H0.size+1) H5.size k7:=ab;replace ac:=ac.md;have aq:Nx 0 H0.size k7:=Nx.tr (ae) ab hm0.size;replace hm0:=hm0.tq ac (MIL.o (MI.q ae));refine LR.an ?_;refine al _ _ ?_;refine CW.ret (hret .ret (.inr rfl) _ _ _ (res1 rfl rfl) ?_);obtain⟨s7,rfl⟩:∃s:SV,v7=s.v:=⟨toSV v7,af.sv.symm⟩;exact⟨s7,k7,rfl,by simpa using af,aq,hm0⟩
def catP(l:List (SV×List UInt8)):List UInt8:=l.flatMap (·.2)
theorem catP_take{l:List (SV×List UInt8)}{i:Nat}(h:i<l.length):catP (l.take (i+1))=catP (l.take i)++l[i].2:=by
 unfold catP;rw[List.take_succ_eq_append_getElem h,List.flatMap_append];simp
theorem catP_le(l:List (SV×List UInt8))(i:Nat):(catP (l.take i)).length≤(catP l).length:=by
 have:catP l=catP (l.take i)++catP (l.drop i):=by unfold catP;rw[←List.flatMap_append,List.take_append_drop]
 rw[this,List.length_append];omega
theorem catP_at{l:List (SV×List UInt8)}{i:Nat}(h:i<l.length):(catP (l.take i)).length+l[i].2.length≤(catP l).length:=by
 have:=catP_le l (i+1);rw[catP_take h,List.length_append]at this;exact this
theorem grow_ct(m:Nat)(w0:World)(H0:Heap)
 (hm:m≤1099511627776):
 Ct Tryz.prog w0 114 #[.slice none 0 0,.int .i64 (m:Int)] H0 (fun r H2=>∃s:SV,∃k:Nat,r=s.v∧(Ow k 5 H2 fB 1 s.v [])∧(Nx 0 H0.size k)∧Nw H0 H2):=by
 refine Ct.enter (args:=[.slice none 0 0,.int .i64 (m:Int)]) Tryz.func114 rfl rfl rfl ?_;intro Q0 hret;have hm0:Nw H0 H0:=Mo.refl _ _;refine CW.sr (fun ai=>?_);refine LR.an ?_;refine ai _ _ (CW.s1 (fun aj=>CW.sr (fun ak=>?_)));refine LR.m1 ?_;refine LR.v1 ((Y.lss rfl rfl rfl).isF (by omega)) (LR.nil (ak _ _ ?_));refine CW.cond_f rfl ?_;refine CW.skip (aj _ _ (CW.s1 (fun ag=>CW.sr (fun al=>?_))));refine LR.m1 ?_;refine LR.m1 ?_;refine LR.v1 (Y.capV' rfl u'34 rfl) ?_;refine LR.m1 ?_;refine LR.v1 (Y.cast (v2:= .int .i64 ((0:Nat):Int)) (Y.len (Rd.nil (fun _=>False) _ fB 1) rfl u'34 rfl) (rfl)) ?_;refine LR.v1 (Y.cast (v2:= .int .i64 ((0:Nat):Int)) (Y.subi rfl rfl rfl (by omega)) (rfl)) ?_;refine LR.v1 (Y.cast (v2:= .int .i64 (m:Int)) (Y.subi rfl rfl rfl (by omega)) (ivv (by simp))) ?_;refine LR.an ?_;refine al _ _ (CW.sr (fun am=>?_));refine LR.m1 ?_;refine LR.v1 (Y.gtr rfl rfl rfl) (LR.nil (am _ _ ?_));refine CW.condp rfl (fun ao=>?_) (fun ao=>?_)
 ·
  refine CW.region ?_;refine LR.m1 ?_;refine LR.m1 ?_;refine LR.v1 (Y.capV' rfl u'34 rfl) ?_;refine LR.v1 (Y.sliceV' 0 0 rfl u'34 s'5 rfl (.inl ⟨rfl,rfl⟩) (.inr ⟨_,_,_,rfl,rfl,rfl⟩) (by omega) (by omega)) ?_;refine LR.m1 ?_;have nl22:Ow 0 5 H0 fB 1 (.slice none 0 0) []:=Ow.nil fB_len fB_one;refine LR.z1 (Z.apz (m:=m) nl22 (0:UInt8) rfl inf34 Tryz.underlying3 z'5 rfl (by decide) rfl rfl (by simp;omega) (by simp;omega)) fun aw ax ap=>?_;obtain⟨af,ac,ab,aa⟩:=ap;replace ab:Nx 0 H0.size af:=ab;replace aa:=aa.md;have aq:Nx 0 H0.size af:=Nx.tr (Nx.refl 0 _) ab hm0.size;replace hm0:=hm0.tq aa (MIL.cons MI.z MIL.nil);have ay:=aa.size;have ad:=ac.le;refine LR.m1 ?_;refine LR.v1 (Y.cast (v2:= .int .i64 ((0:Nat):Int)) (Y.len (Rd.nil (fun _=>False) _ fB 1) rfl u'34 rfl) (rfl)) ?_;refine LR.e1 (g:=fun v=>v) (Y.owFront ac (0) rfl u'34 s'5 rfl rfl (by first|rfl|omega) (by omega)) fun ah ae=>?_;refine LR.an ?_;refine ag _ _ (CW.sr (fun ar=>?_));refine LR.m1 ?_;refine LR.an ?_;refine ar _ _ ?_;refine CW.ret (hret .ret (.inr rfl) _ _ _ (res1 rfl rfl) ?_);obtain⟨au,rfl⟩:∃s:SV,ah=s.v:=⟨toSV ah,ae.sv.symm⟩;exact⟨au,af,rfl,by simpa using ae,aq,hm0⟩
 ·
  refine CW.skip (ag _ _ (CW.sr (fun av=>?_)));refine LR.m1 ?_;refine LR.an ?_;refine av _ _ ?_;refine CW.ret (hret .ret (.inr rfl) _ _ _ (res1 rfl rfl) ?_);exact⟨⟨none,0,0⟩,0,rfl,Ow.nil fB_len fB_one,Nx.refl _ _,hm0⟩
theorem concat_ct(v:Value)(l:List (SV×List UInt8))(w0:World)(H0:Heap)
 (hl:RdT H0 fP 1 v l) (hx:∀x∈l,RdT H0 fB 1 x.1.v x.2) (hc:(catP l).length≤1099511627776):
 Ct Tryz.prog w0 75 #[v] H0 (fun r H2=>∃s:SV,∃k:Nat,r=s.v∧(Ow k 5 H2 fB 1 s.v (catP l))∧(Nx 0 H0.size k)∧Nw H0 H2):=by
 refine Ct.enter (args:=[v]) Tryz.func75 rfl rfl rfl ?_;intro Q0 hret;have hm0:Nw H0 H0:=Mo.refl _ _;replace hl:=hl.bnd;have am:=hl.bf;replace hx:=fun x ah=>(hx x ah).bnd;have aj:BF (fun b=>True∧b<H0.size) H0.size:=fun b h=>h.2;have hlm:=hl.len;refine CW.sr (fun aR=>?_);refine LR.an ?_;refine aR _ _ (CW.sr (fun aS=>?_));refine LR.an ?_;refine aS _ _ (CW.s1 (fun aT=>CW.sr (fun aU=>?_)));refine LR.m1 ?_;refine LR.v1 (Y.len hl rfl u'22 rfl) ?_;refine LR.m1 (LR.nil (aU _ _ ?_));refine CW.block (fun _ _ aV _=>?_)
 refine CW.loop (fun(i:(Nat))=>[(0,v),(3,.int .i64 ((catP (l.take i)).length:Int)),(9,v),(10,.int .i64 l.length),(11,.int .i64 i)])
  (fun(i:(Nat)) (H:Heap)=>(i≤l.length)∧Nw H0 H)
  (fun(i:(Nat))=>l.length-i) 0 ⟨rfl,rfl,rfl,rfl,rfl,trivial⟩ ?_ ?_
 ·
  exact⟨(by omega),Mo.refl _ _⟩
 intro i bg aW K6 aX aY;obtain⟨hi,ae⟩:=aW;replace hl:=hl.nw ae;replace hx:=fun x ah=>(hx x ah).nw ae;replace hm0:=hm0.tr ae;have bh:=ae.size;refine CW.sr (fun aZ=>?_);refine LR.v1 (Y.lss rfl rfl rfl) (LR.nil (aZ _ _ ?_));refine CW.s2 (fun a0 a1=>?_);refine CW.condp rfl (fun a2=>?_) (fun a2=>?_)
 ·
  have hil:i<l.length:=by omega
  have hca:=catP_at hil;have hxi:=hx l[i] (List.getElem_mem hil);refine CW.skip (a0 _ _ (CW.s1 (fun a3=>CW.block (fun _ ap _ _=>CW.sr (fun aq=>?_)))));refine LR.e1 (g:=fun ad=> .pointer (some ad)) (Y.iF hl (i) rfl u'22 s'34 rfl rfl) fun a4 ar=>?_;refine LR.v1 (Y.load1 ar.pt rfl a'34 rfl) ?_;refine LR.an ?_;refine aq _ _ (CW.sr (fun au=>?_));refine LR.m1 ?_;refine LR.m1 ?_;refine LR.v1 (Y.len hxi rfl u'34 rfl) ?_;refine LR.v1 (Y.cast (v2:= .int .i64 ((catP (l.take (i+1))).length:Int)) (Y.addi rfl rfl rfl (by omega)) (ivv (by rw[catP_take hil,List.length_append];omega))) ?_;refine LR.an ?_;refine au _ _ (CW.sr (fun av=>?_));refine LR.m1 ?_;refine LR.v1 ((Y.lss rfl rfl rfl).isF (by omega)) (LR.nil (av _ _ ?_));refine CW.cond_f rfl ?_;refine CW.skip (ap _ _ (a3 _ _ (CW.region ?_)));refine LR.v1 (Y.addi rfl rfl rfl (by omega)) ?_;refine LR.m1 (LR.nil ?_);have hci:=catP_take hil;refine QN.sub (aX (i+1) _ ?_ ?_) ⟨rfl,(iv (by omega)),rfl,(iv (by omega)),(iv (by omega)),trivial⟩
  ·exact⟨(by omega),ae⟩
  ·first|omega|(simp only;omega)|(simp;omega)
 ·
  obtain rfl:i=l.length:=by omega
  refine CW.exit (a1 (.exit 0) nofun _ _ (aY (.exit 0) nofun _ _ (aV _ _ ?_)));refine aT _ _ (CW.sr (fun aw=>?_));refine LR.v1 (Y.cast (v2:= .int .i64 ((catP l).length:Int)) (Y.move rfl rfl) (by rw[List.take_length])) ?_;refine LR.call rfl c'114 rfl (Wd.u rfl) rfl rfl (grow_ct (catP l).length w0 _ hc) (fun bi ax a5=>?_);obtain⟨a6,ao,rfl,af,ak,ai⟩:=a5;have a7:=DF.app (DF.z) (am.mono hm0.size) ak;have aN:=DF.app (DF.z) (aj.mono hm0.size) ak;have aO:Nx 0 H0.size ao:=Nx.tr (Nx.refl 0 _) ak hm0.size;replace hl:=hl.nw ai;replace hx:=fun x ah=>(hx x ah).nw ai;replace hm0:=hm0.tr ai;have bj:=ai.size;have ac:=af.le;refine LR.an ?_;refine aw _ _ (CW.s1 (fun ay=>CW.sr (fun az=>?_)));refine LR.m1 ?_;refine LR.v1 (Y.len hl rfl u'22 rfl) ?_;refine LR.m1 (LR.nil (az _ _ ?_));refine CW.block (fun _ _ aA _=>?_)
  refine CW.loop (fun(s_:(Nat)×(SV)×(Nat))=>match s_ with|(q,s6,k6)=>[(6,s6.v),(25,v),(26,.int .i64 l.length),(27,.int .i64 q)])
   (fun(q,s6,k6) (H:Heap)=>(q≤l.length)∧(Ow k6 5 H fB 1 s6.v (catP (l.take q)))∧(Nx ao ax.size k6)∧Mo (Ms [ao]) ax H)
   (fun(q,s6,k6)=>l.length-q) (0,a6,ao) ⟨rfl,rfl,rfl,rfl,trivial⟩ ?_ ?_
  ·
   exact⟨(by omega),by simpa[catP]using af,Nx.refl _ _,Mo.refl _ _⟩
  rintro⟨q,s6,k6⟩ a8 a9 bk aB aC;obtain⟨hq,af,aa,ab⟩:=a9;have a_:=DF.app (aN) (aj.mono hm0.size) aa;have ba:Nx 0 H0.size k6:=Nx.tr (aO) aa hm0.size;replace hl:=hl.upL ab (DFL.o a7);replace hx:=fun x ah=>(hx x ah).upL ab (DFL.o aN);replace hm0:=hm0.tq ab (MIL.o (MI.q aO));have bl:=ab.size;have ac:=af.le;have aP:=aa;refine CW.sr (fun aD=>?_);refine LR.v1 (Y.lss rfl rfl rfl) (LR.nil (aD _ _ ?_));refine CW.s2 (fun aE aF=>?_);refine CW.condp rfl (fun bb=>?_) (fun bb=>?_)
  ·
   have hql:q<l.length:=by omega
   have hcb:=catP_at hql;have hxq:=hx l[q] (List.getElem_mem hql);refine CW.skip (aE _ _ (CW.s1 (fun aG=>CW.block (fun _ aH _ _=>CW.sr (fun aI=>?_)))));refine LR.e1 (g:=fun ad=> .pointer (some ad)) (Y.iF hl (q) rfl u'22 s'34 rfl rfl) fun bc aJ=>?_;refine LR.v1 (Y.load1 aJ.pt rfl a'34 rfl) ?_;refine LR.an ?_;refine aI _ _ (CW.region ?_);refine LR.m1 ?_;refine LR.m1 ?_;refine LR.z1 (Z.apnd af hxq rfl inf34 rfl rfl (by first|omega|(simp;omega)) (by first|omega|(simp;omega))) fun aQ bm bd=>?_;obtain⟨aK,af,al,ag⟩:=bd;replace al:Nx k6 a8.size aK:=al;replace ag:=ag.md;have aL:Nx ao ax.size aK:=Nx.tr (aP) al ab.size;replace hx:=fun x ah=>(hx x ah).upL ag (DFL.o a_);replace ab:=ab.trL ag (MIL.o (MI.r aP));have bn:=ag.size;have ac:=af.le;refine LR.an ?_;refine aH _ _ (aG _ _ (CW.region ?_));refine LR.v1 (Y.addi rfl rfl rfl (by omega)) ?_;refine LR.m1 (LR.nil ?_);obtain⟨be,rfl⟩:∃s:SV,aQ=s.v:=⟨toSV aQ,af.sv.symm⟩;refine QN.sub (aB (q+1,be,aK) _ ?_ ?_) ⟨rfl,rfl,(iv (by omega)),(iv (by omega)),trivial⟩
   ·exact⟨(by omega),by rw[catP_take hql];exact af,aL,ab⟩
   ·first|omega|(simp only;omega)|(simp;omega)
  ·
   refine CW.exit (aF (.exit 2) nofun _ _ (aC (.exit 2) nofun _ _ (aA _ _ ?_)));refine ay _ _ (CW.sr (fun aM=>?_));refine LR.m1 ?_;refine LR.an ?_;refine aM _ _ ?_;refine CW.ret (hret .ret (.inr rfl) _ _ _ (res1 rfl rfl) ?_);obtain rfl:q=l.length:=by omega
   rw[List.take_length]at af;exact⟨s6,k6,rfl,af,ba,hm0⟩
abbrev Wx:=Wr×SV
abbrev fW(x:Wx):List Value:=[.bool x.1.b,x.2.v]
theorem fW_len(x:Wx):(fW x).length=2:=rfl
theorem fW_one(x:Wx):∀u∈fW x,u.oneCell'=true:=by intro u hu;simp only[List.mem_cons,List.not_mem_nil,or_false]at hu;rcases hu with rfl|rfl<;>rfl
abbrev wV(x:Wx):Value:= .agg (fW x).toArray
theorem on_le(w:Wr)(b:List UInt8)(n:Nat):(w.on b n).length≤b.length+n:=by
 unfold Wr.on;rw[List.length_append,List.length_take];split<;>simp<;>omega
theorem on_ct(x:Wx)(sb:SV)(b:List UInt8)(n:Nat)(w0:World)(H0:Heap)
 (hd:RdT H0 fB 1 x.2.v x.1.d) (hb:RdT H0 fB 1 sb.v b) (hn:n≤x.1.d.length) (hbl:b.length+n≤1099511627776):
 Ct Tryz.prog w0 84 #[wV x,sb.v,.int .i64 (n:Int)] H0 (fun r H2=>∃s:SV,∃k:Nat,r=s.v∧(Ow k 5 H2 fB 1 s.v (x.1.on b n))∧(Nx 0 H0.size k)∧Nw H0 H2):=by
 refine Ct.enter (args:=[wV x,sb.v,.int .i64 (n:Int)]) Tryz.func84 rfl rfl rfl ?_;intro Q0 hret;have hm0:Nw H0 H0:=Mo.refl _ _;replace hd:=hd.bnd;replace hb:=hb.bnd;refine CW.sr (fun au=>?_);refine LR.z1 (Z.boxv rfl rfl) ?_;rintro v3 H3 ⟨rfl,vx,af,aF,av⟩;have aw:H3.size=H0.size+1:=by rw[av];simp
 replace hd:=hd.nw af;replace hb:=hb.nw af;replace hm0:=hm0.tr af;have aG:=af.size;replace vx:Var 149 H3 H0.size (fW x):=vx;refine LR.an ?_;refine au _ _ ?_
 refine CW.cut (fun(s_:(SV)×(List UInt8))=>match s_ with|(s1,b1)=>[(1,s1.v),(2,.int .i64 (n:Int)),(3,.pointer (some ⟨H0.size,0,none⟩))])
  (fun(s1,b1) (H:Heap)=>(RdT H fB 1 s1.v b1)∧(b1=if x.1.b=true then b else[])∧Nw H3 H) (fun _ ao _=>?_) ?_
 ·
  have ae:Nw H3 H3:=Mo.refl _ _;refine CW.sr (fun ax=>?_);refine LR.v1 (Y.FA vx.pt rfl u'149 rfl s'4) ?_;refine LR.v1 (Y.load1 vx.pt rfl a'4 rfl) ?_;refine LR.v1 (Y.not rfl rfl) (LR.nil (ax _ _ ?_));refine CW.cond rfl (fun c9=>?_) (fun c9=>?_)
  ·
   refine CW.region ?_;refine LR.an ?_;refine QN.sub (ao (⟨none,0,0⟩,[]) _ ?_) ⟨rfl,(iv (by omega)),rfl,trivial⟩;exact⟨Rd.nil _ _ _ _,by rw[if_neg (by simpa using c9)],ae⟩
  ·
   refine CW.skip ?_;refine QN.sub (ao (sb,b) _ ?_) ⟨rfl,(iv (by omega)),rfl,trivial⟩;exact⟨hb.any,by rw[if_pos (by simpa using c9)],ae⟩
 ·
  rintro⟨s1,b1⟩ ad ab;obtain⟨hb1,hb1e,aa⟩:=ab;replace hd:=hd.nw aa;replace vx:=vx.nw aa;replace hm0:=hm0.tr aa;have aH:=aa.size;have hb1l:b1.length≤b.length:=by rw[hb1e];split<;>simp
  refine CW.sr (fun ay=>?_);refine LR.m1 ?_;refine LR.v1 (Y.FA vx.pt rfl u'149 rfl s'34) ?_;refine LR.v1 (Y.load1 (vx.pt.drop 1) rfl a'34 rfl) ?_;refine LR.m1 ?_;refine LR.e1 (g:=fun v=>v) (Y.slice hd (0) (n) rfl u'34 s'5 rfl (.inl ⟨rfl,rfl⟩) (.inr ⟨_,_,_,rfl,rfl,by first|rfl|omega⟩) (by omega) (by omega)) fun ap rd14=>?_;obtain⟨ag,rfl⟩:∃s:SV,ap=s.v:=⟨toSV ap,rd14.sv.symm⟩;refine LR.z1 (Z.litw _ ([(s1,b1),(ag,(x.1.d.take n).drop 0)]) rfl inf22 rfl rfl rfl (by decide) (by decide) fP_len fP_one (rfl)) fun az aA aB=>?_;obtain⟨ah,ac,aC,ai⟩:=aB;have aq:aA.size=ad.size+1:=by rw[ai];simp
  replace rd14:=rd14.nw ac;replace hm0:=hm0.tr ac;have aI:=ac.size;refine LR.call rfl c'75 rfl (Wd.u rfl) rfl rfl (concat_ct az [(s1,b1),(ag,(x.1.d.take n).drop 0)] w0 _ ah.rd.any (fun x hx=>by simp only[List.mem_cons,List.not_mem_nil,or_false]at hx;rcases hx with rfl|rfl;exact hb1.nw ac;exact rd14.any) (by simp[catP];omega)) (fun aJ aK aD=>?_);obtain⟨aE,ar,rfl,aj,ak,al⟩:=aD;have am:Nx 0 H0.size ar:=Nx.tr (Nx.refl 0 _) ak hm0.size;replace hm0:=hm0.tr al;refine LR.an ?_;refine ay _ _ ?_;refine CW.ret (hret .ret (.inr rfl) _ _ _ (res1 rfl rfl) ?_);exact⟨aE,ar,rfl,by have e:catP [(s1,b1),(ag,(x.1.d.take n).drop 0)]=x.1.on b n:=(by unfold Wr.on;rw[←hb1e];simp[catP]);rw[←e];exact aj,am,hm0⟩
theorem ways_ct(x:Wx)(w0:World)(H0:Heap)
 (hd:RdT H0 fB 1 x.2.v x.1.d) (hdl:x.1.d.length≤1099511627776):
 Ct Tryz.prog w0 82 #[wV x] H0 (fun r H2=>r= .int .i64 (x.1.ways:Int)∧Nw H0 H2):=by
 refine Ct.enter (args:=[wV x]) Tryz.func82 rfl rfl rfl ?_;intro Q0 hret;have hm0:Nw H0 H0:=Mo.refl _ _;replace hd:=hd.bnd;refine CW.sr (fun ab=>?_);refine LR.z1 (Z.boxv rfl rfl) ?_;rintro v1 H1 ⟨rfl,vx,aa,af,ac⟩;have ad:H1.size=H0.size+1:=by rw[ac];simp
 replace hd:=hd.nw aa;replace hm0:=hm0.tr aa;have ag:=aa.size;replace vx:Var 149 H1 H0.size (fW x):=vx;refine LR.an ?_;refine ab _ _ (CW.sr (fun ae=>?_));refine LR.v1 (Y.FA vx.pt rfl u'149 rfl s'34) ?_;refine LR.v1 (Y.load1 (vx.pt.drop 1) rfl a'34 rfl) ?_;refine LR.v1 (Y.len hd rfl u'34 rfl) ?_;refine LR.v1 (Y.cast (v2:= .int .i64 ((2*x.1.d.length:Nat):Int)) (Y.muli rfl rfl rfl (by omega)) (ivv (by omega))) ?_;refine LR.v1 (Y.cast (v2:= .int .i64 (x.1.ways:Int)) (Y.maxi rfl rfl rfl) (ivv (by unfold Wr.ways;omega))) ?_;refine LR.an ?_;refine ae _ _ ?_;refine CW.ret (hret .ret (.inr rfl) _ _ _ (res1 rfl rfl) ?_);exact⟨rfl,hm0⟩
theorem part_ct(x:Wx)(sb:SV)(b:List UInt8)(way:Nat)(w0:World)(H0:Heap)
 (hd:RdT H0 fB 1 x.2.v x.1.d) (hb:RdT H0 fB 1 sb.v b) (hw:way<x.1.ways) (hbl:b.length+x.1.d.length≤1099511627776):
 Ct Tryz.prog w0 83 #[wV x,sb.v,.int .i64 (way:Int)] H0 (fun r H2=>∃s:SV,∃k:Nat,r=s.v∧(Ow k 5 H2 fB 1 s.v (x.1.part b way))∧(Nx 0 H0.size k)∧Nw H0 H2):=by
 refine Ct.enter (args:=[wV x,sb.v,.int .i64 (way:Int)]) Tryz.func83 rfl rfl rfl ?_;intro Q0 hret;have hm0:Nw H0 H0:=Mo.refl _ _;replace hd:=hd.bnd;replace hb:=hb.bnd;have aR:way<1∨way<2*x.1.d.length:=by unfold Wr.ways at hw;omega
 refine CW.sr (fun az=>?_);refine LR.z1 (Z.boxv rfl rfl) ?_;rintro v3 H3 ⟨rfl,vx,al,aS,aA⟩;have aB:H3.size=H0.size+1:=by rw[aA];simp
 replace hd:=hd.nw al;replace hb:=hb.nw al;replace hm0:=hm0.tr al;have aT:=al.size;replace vx:Var 149 H3 H0.size (fW x):=vx;refine LR.an ?_;refine az _ _ (CW.sr (fun aC=>?_));refine LR.v1 (Y.FA vx.pt rfl u'149 rfl s'34) ?_;refine LR.v1 (Y.load1 (vx.pt.drop 1) rfl a'34 rfl) ?_;refine LR.v1 (Y.len hd rfl u'34 rfl) ?_;refine LR.an ?_;refine aC _ _ (CW.s2 (fun aD av=>CW.sr (fun aw=>?_)));refine LR.m1 ?_;refine LR.m1 ?_;refine LR.v1 (Y.lss rfl rfl rfl) ?_;refine LR.m1 ?_;refine LR.splitp (d:=14) rfl (fun aE=>?_) (fun aE=>?_)
 ·
  refine LR.g1 ?_;refine LR.g1 ?_;refine LR.pt ?_;refine LR.nil (aw _ _ ?_);refine CW.cond_t rfl ?_;refine CW.sr (fun aF=>?_);refine LR.v1 (Y.loadN vx.pt rfl a'149 s'149 (rfl) rfl) ?_;refine LR.m1 ?_;refine LR.m1 ?_;refine LR.v1 (Y.addi rfl rfl rfl (by omega)) ?_;refine LR.m1 ?_;refine LR.v1 (Y.cast (v2:= .int .i64 ((min (way+1) x.1.d.length:Nat):Int)) (Y.mini rfl rfl rfl) (ivv (by omega))) ?_;refine LR.call rfl c'84 rfl (Wd.u rfl) rfl rfl (on_ct x sb b (min (way+1) x.1.d.length) w0 _ hd.any hb.any (by omega) (by omega)) (fun aG aH am=>?_);obtain⟨ao,ai,rfl,ab,ag,ac⟩:=am;have aI:Nx 0 H0.size ai:=Nx.tr (Nx.refl 0 _) ag hm0.size;replace hm0:=hm0.tr ac;have aU:=ac.size;have ad:=ab.le;refine LR.an ?_;refine aF _ _ ?_;refine CW.ret (av .ret nofun _ _ (hret .ret (.inr rfl) _ _ _ (res1 rfl rfl) ?_));exact⟨ao,ai,rfl,by have h9:x.1.part b way=x.1.on b (min (way+1) x.1.d.length):=(by unfold Wr.part;rw[if_pos (by first|exact .inl (by omega)|exact .inr (by omega))]);rw[h9];exact ab,aI,hm0⟩
 ·
  refine LR.wm ?_;refine LR.w1 (Y.eql rfl rfl rfl) ?_;refine LR.pf ?_;refine LR.nil (aw _ _ ?_);refine CW.condp rfl (fun aJ=>?_) (fun aJ=>?_)
  ·
   refine CW.sr (fun aK=>?_);refine LR.v1 (Y.loadN vx.pt rfl a'149 s'149 (rfl) rfl) ?_;refine LR.m1 ?_;refine LR.m1 ?_;refine LR.v1 (Y.addi rfl rfl rfl (by omega)) ?_;refine LR.m1 ?_;refine LR.v1 (Y.cast (v2:= .int .i64 ((min (way+1) x.1.d.length:Nat):Int)) (Y.mini rfl rfl rfl) (ivv (by omega))) ?_;refine LR.call rfl c'84 rfl (Wd.u rfl) rfl rfl (on_ct x sb b (min (way+1) x.1.d.length) w0 _ hd.any hb.any (by omega) (by omega)) (fun aG aH am=>?_);obtain⟨ao,ai,rfl,ab,ag,ac⟩:=am;have ap:Nx 0 H0.size ai:=Nx.tr (Nx.refl 0 _) ag hm0.size;replace hm0:=hm0.tr ac;have aV:=ac.size;have ad:=ab.le;refine LR.an ?_;refine aK _ _ ?_;refine CW.ret (av .ret nofun _ _ (hret .ret (.inr rfl) _ _ _ (res1 rfl rfl) ?_));exact⟨ao,ai,rfl,by have h9:x.1.part b way=x.1.on b (min (way+1) x.1.d.length):=(by unfold Wr.part;rw[if_pos (by first|exact .inl (by omega)|exact .inr (by omega))]);rw[h9];exact ab,ap,hm0⟩
  ·
   refine CW.skip (aD _ _ (CW.sr (fun aL=>?_)));refine LR.m1 ?_;refine LR.m1 ?_;refine LR.v1 (Y.cast (v2:= .int .i64 ((way-x.1.d.length:Nat):Int)) (Y.subi rfl rfl rfl (by omega)) (ivv (by omega))) ?_;refine LR.an ?_;refine aL _ _ (CW.sr (fun aM=>?_));refine LR.v1 (Y.loadN vx.pt rfl a'149 s'149 (rfl) rfl) ?_;refine LR.m1 ?_;refine LR.m1 ?_;refine LR.call rfl c'84 rfl (Wd.u rfl) rfl rfl (on_ct x sb b (way-x.1.d.length) w0 _ hd.any hb.any (by omega) (by omega)) (fun aW aN aO=>?_);obtain⟨aX,ax,rfl,aa,aq,aj⟩:=aO;have ak:Nx 0 H0.size ax:=Nx.tr (Nx.refl 0 _) aq hm0.size;replace hm0:=hm0.tr aj;have aY:=aj.size;have ae:=aa.le;have hol:=on_le x.1 b (way-x.1.d.length);refine LR.m1 ?_;refine LR.m1 ?_;refine LR.v1 (Y.cast (v2:= .int .i64 ((x.1.d.length-(way-x.1.d.length):Nat):Int)) (Y.subi rfl rfl rfl (by omega)) (ivv (by omega))) ?_;refine LR.z1 (Z.apz (m:=x.1.d.length-(way-x.1.d.length)) aa (0:UInt8) rfl inf34 Tryz.underlying3 z'5 rfl (by decide) rfl rfl (by first|omega|(simp;omega)) (by first|omega|(simp;omega))) fun ay aZ aP=>?_;obtain⟨ar,aa,ah,af⟩:=aP;replace ah:Nx ax aN.size ar:=ah;replace af:=af.md;have au:Nx 0 H0.size ar:=Nx.tr (ak) ah hm0.size;replace hm0:=hm0.tq af (MIL.o (MI.q ak));have a0:=af.size;have ae:=aa.le;refine LR.an ?_;refine aM _ _ ?_;refine CW.ret (hret .ret (.inr rfl) _ _ _ (res1 rfl rfl) ?_);obtain⟨aQ,rfl⟩:∃s:SV,ay=s.v:=⟨toSV ay,aa.sv.symm⟩;exact⟨aQ,ar,rfl,by have h9:x.1.part b way=x.1.on b (way-x.1.d.length)++List.replicate (x.1.d.length-(way-x.1.d.length)) 0:=(by unfold Wr.part;rw[if_neg (by omega)]);rw[h9];exact aa,au,hm0⟩
end SimB

namespace WalB
open E Go.RowKit SumB SumC SumD SumF SumG DelA SimA SimB WalA
set_option maxRecDepth 100000 in
theorem inf22:Inf Tryz.prog 22 34 1 24:=⟨Tryz.underlying22,_,_,rfl,rfl,rfl,rfl,rfl⟩
set_option maxRecDepth 100000 in
theorem inf34:Inf Tryz.prog 34 5 1 1:=⟨Tryz.underlying34,_,_,rfl,rfl,rfl,rfl,rfl⟩
abbrev recs(l:List (SV×Rec)):List Rec:=l.map (·.2)
theorem encN_take{l:List (SV×Rec)}{i:Nat}(h:i<l.length):encN 0 (recs (l.take (i+1)))=encN 0 (recs (l.take i))++recW i l[i].2:=by
 have e:(recs (l.take i)).length=i:=by simp;omega
 rw[List.take_succ_eq_append_getElem h];unfold recs;rw[List.map_append,encN_app];unfold recs at e;rw[e];simp[encN]
theorem encN_take_le(l:List (SV×Rec))(i:Nat):(encN 0 (recs (l.take i))).length≤(encN 0 (recs l)).length:=by
 have h:l=l.take i++l.drop i:=(List.take_append_drop i l).symm;have h2:recs l=recs (l.take i)++recs (l.drop i):=by unfold recs;rw[←List.map_append,←h]
 rw[h2,encN_app,List.length_append];omega
theorem encN_take_le2{l:List (SV×Rec)}{i:Nat}(h:i<l.length):(encN 0 (recs (l.take i))).length+(13+l[i].2.length)≤(encN 0 (recs l)).length:=by
 have:=encN_take_le l (i+1);rw[encN_take h,List.length_append,recW_len]at this;exact this
theorem number_ct(k:Nat)(v:Value)(xs:List UInt8)(n:Nat)(x:UInt64)(w0:World)(H0:Heap)
 (how:Ow k 5 H0 fB 1 v xs) (hn:n≤8) (hx:xs.length≤1099511627776):
 Ct Tryz.prog w0 76 #[v,.int .i64 n,.int .u64 x.toNat] H0 (fun r H2=>∃v2:Value,∃k2:Nat,r=v2∧(Ow k2 5 H2 fB 1 v2 (xs++Num.numL n x))∧(Nx k H0.size k2)∧Mo (Ms [k]) H0 H2):=by
 refine Ct.enter (args:=[v,.int .i64 n,.int .u64 x.toNat]) Tryz.func76 rfl rfl rfl ?_;intro Q0 hret;have hm0:Mo (Ms [k]) H0 H0:=Mo.refl _ _;have aa:=Nx.refl k H0.size;have ad:=how.le;refine CW.sr (fun ar=>?_);refine LR.an ?_;refine ar _ _ (CW.s1 (fun au=>CW.sr (fun av=>?_)));refine LR.m1 ?_;refine LR.v1 (Y.subi rfl rfl rfl (by omega)) ?_;refine LR.an ?_;refine av _ _ (CW.block (fun _ _ aw _=>?_))
 refine CW.loop (fun(s_:(Nat)×(Value)×(Nat)×(List UInt8))=>match s_ with|(j,v',k',ys)=>[(0,v'),(2,.int .u64 x.toNat),(7,.int .i64 ((j:Int)-1))])
  (fun(j,v',k',ys) (H:Heap)=>(j≤n)∧(Ow k' 5 H fB 1 v' ys)∧(ys++Num.numL j x=xs++Num.numL n x)∧(Nx k H0.size (k'))∧Mo (Ms [k]) H0 H)
  (fun(j,v',k',ys)=>j) (n,v,k,xs) ⟨rfl,rfl,rfl,trivial⟩ ?_ ?_
 ·
  exact⟨(by omega),how,rfl,Nx.refl _ _,Mo.refl _ _⟩
 rintro⟨j,v',k',ys⟩ ax ay K5 az aA;obtain⟨hj,how,hys,ac,ab⟩:=ay;have aB:Nx k H0.size (k'):=Nx.tr (aa) ac hm0.size;replace hm0:=hm0.trL ab (MIL.o (MI.r aa));have aN:=ab.size;have ad:=how.le;have ao:=ac;have hyl:ys.length+j=xs.length+n:=by have:=congrArg List.length hys;simpa[Num.numL_len]using this
 refine CW.s2 (fun aC aD=>CW.sr (fun aE=>?_));refine LR.m1 ?_;refine LR.v1 (Y.geq rfl rfl rfl) (LR.nil (aE _ _ ?_));refine CW.condp rfl (fun aF=>?_) (fun aF=>?_)
 ·
  obtain⟨j,rfl⟩:∃q,j=q+1:=⟨j-1,by omega⟩;refine CW.skip (aC _ _ (CW.s1 (fun aG=>CW.block (fun _ aH _ _=>CW.region ?_))));refine LR.m1 ?_;refine LR.m1 ?_;refine LR.m1 ?_;refine LR.v1 (Y.muli rfl rfl rfl (by omega)) ?_;refine LR.v1 (Y.shr_u64 (8*j) rfl rfl rfl (by first|rfl|omega) (by omega)) ?_;refine LR.v1 (Y.conv_u8 rfl u'151 u'5 rfl) ?_;refine LR.z1 (Z.litw _ ([UInt8.ofNat (shrw_u64 x (8*j)).toNat]) rfl inf34 rfl rfl rfl (by decide) (by decide) fB_len fB_one (rfl)) fun aO ap aI=>?_;obtain⟨aj,af,aJ,ak⟩:=aI;have aq:ap.size=ax.size+1:=by rw[ak];simp
  replace how:=how.nw af;replace ab:=ab.trN af;have aP:=af.size;refine LR.z1 (Z.apnd how aj.rd rfl inf34 rfl rfl (by first|omega|(simp;omega)) (by first|omega|(simp;omega))) fun aK aQ aL=>?_;obtain⟨al,ah,ag,ae⟩:=aL;replace ag:Nx (k') ap.size al:=ag;replace ae:=ae.md;have aM:Nx k H0.size al:=Nx.tr (ao) ag ab.size;replace ab:=ab.trL ae (MIL.o (MI.r ao));have aR:=ae.size;have ai:=ah.le;refine LR.an ?_;refine aH _ _ (aG _ _ (CW.region ?_));refine LR.m1 ?_;refine LR.v1 (Y.subi rfl rfl rfl (by omega)) ?_;refine LR.an ?_;refine QN.sub (az (j,aK,al,ys++[UInt8.ofNat (shrw_u64 x (8*j)).toNat]) _ ?_ ?_) ⟨rfl,(iv (by omega)),(iv (by omega)),trivial⟩
  ·exact⟨(by omega),ah,by rw[←hys,List.append_assoc];rfl,aM,ab⟩
  ·first|omega|(simp only;omega)|(simp;omega)
 ·
  obtain rfl:j=0:=by omega
  rw[Num.numL,List.append_nil]at hys;subst hys;refine CW.exit (aD (.exit 0) nofun _ _ (aA (.exit 0) nofun _ _ (aw _ _ ?_)));refine au _ _ (CW.sr (fun am=>?_));refine LR.m1 ?_;refine LR.an ?_;refine am _ _ ?_;refine CW.ret (hret .ret (.inr rfl) _ _ _ (res1 rfl rfl) ?_);exact⟨v',k',rfl,how,aB,hm0⟩
theorem spl2{vs cs:List Value}(h:cs.length=vs.length):splice cs 0 vs=vs:=by simp[splice,h]
theorem check_ct(n:Nat)(s:SV)(rc:List UInt8)(w0:World)(H0:Heap)
 (hr:RdT H0 fB 1 s.v rc) (hrl:rc.length≤1099511000000):
 Ct Tryz.prog w0 72 #[.int .i64 (n:Int),s.v] H0 (fun r H2=>∃t:SV,r=t.v∧(Rd (fun b=>H0.size≤b) H2 fB 1 t.v (chkW n rc))∧Nw H0 H2):=by
 refine Ct.enter (args:=[.int .i64 (n:Int),s.v]) Tryz.func72 rfl rfl rfl ?_;intro Q0 hret;have hm0:Nw H0 H0:=Mo.refl _ _;replace hr:=hr.bnd;refine CW.sr (fun ao=>?_);refine LR.an ?_;refine ao _ _ (CW.sr (fun ap=>?_));refine LR.m1 ?_;refine LR.v1 (Y.cast (v2:= .int .u64 (UInt64.ofNat n).toNat) (Y.conv_u64 rfl u'3 u'151 rfl) (rfl)) ?_;refine LR.call rfl c'76 rfl (Wd.u rfl) rfl rfl (number_ct 0 _ [] 8 (UInt64.ofNat (n)) w0 _ (Ow.nil fB_len fB_one) (by omega) (by simp)) ?_;rintro v8 H8 ⟨aC,k8,rfl,ac,aD,ag⟩;replace hr:=hr.upL ag (DFL.o DF.z);replace hm0:=hm0.tq ag (MIL.cons MI.z MIL.nil);have aE:=ag.size;have ae:=ac.le;rw[List.nil_append]at ac;obtain⟨s8,rfl⟩:∃s:SV,v8=s.v:=⟨toSV v8,ac.sv.symm⟩;refine LR.m1 ?_;refine LR.z1 (Z.litw _ ([(s8,Num.numL 8 (UInt64.ofNat n)),(s,rc)]) rfl inf22 rfl rfl rfl (by decide) (by decide) fP_len fP_one (rfl)) fun aF aq ar=>?_;obtain⟨ah,ab,au,ai⟩:=ar;have ak:aq.size=H8.size+1:=by rw[ai];simp
 replace hr:=hr.nw ab;replace ac:=ac.nw ab;replace hm0:=hm0.tr ab;have aG:=ab.size;refine LR.call rfl c'111 rfl (Wd.u rfl) rfl rfl (pof_ct _ [(s8,Num.numL 8 (UInt64.ofNat n)),(s,rc)] w0 _ ah.rd.any (fun x hx=>by simp only[List.mem_cons,List.not_mem_nil,or_false]at hx;rcases hx with rfl|rfl;exact ac.rd.any;exact hr.any) (by simp[cat,Num.numL_len];omega)) (fun aH af av=>?_);obtain⟨rfl,ad⟩:=av;replace hm0:=hm0.tr ad;have aI:=ad.size;rw[show cat [(s8,Num.numL 8 (UInt64.ofNat n)),(s,rc)]=(Num.numL 8 (UInt64.ofNat n)++rc)from by simp[cat]];refine LR.z1 (Z.allocv rfl z'165) ?_;rintro v5 H5 ⟨rfl,va5,al,aJ,aw⟩;have ax:H5.size=af.size+1:=by rw[aw];simp
 have ay:Nx 0 H0.size (af.size+1):=Nx.new hm0.size;replace hm0:=hm0.tr al;have aK:=al.size;replace va5:Var 165 H5 af.size ((List.replicate 32 (0:UInt8)).map V8):=va5;refine LR.s1 (S.var va5 ((sumOf (Num.numL 8 (UInt64.ofNat n)++rc)).map V8) ((sumOf (Num.numL 8 (UInt64.ofNat n)++rc)).map V8) rfl rfl rfl rfl (by intro u hu;obtain⟨x,_,rfl⟩:=List.mem_map.1 hu;rfl) s'165 (by simp[sumOf_len]) (by simp[sumOf_len]) (spl2 (by simp[sumOf_len]))) fun az aj=>?_;obtain⟨va5,aa⟩:=aj;replace aa:=aa.md1;replace hm0:=hm0.tq aa (MIL.o (MI.q ay));have aL:=aa.size;refine LR.nil (ap _ _ (CW.sr (fun aA=>?_)));refine LR.e1 (g:=fun v=>v) (Y.sliceArrE (F:=fun c=>c=af.size) (f:=fB) (xs:=sumOf (Num.numL 8 (UInt64.ofNat n)++rc)) va5.pt rfl va5.lt (sumOf_len _) (fun i x h=>⟨by simp[h],rfl⟩) (0) (8) rfl (fun w=> .inl (u'165 w)) s'5 rfl (.inl ⟨rfl,rfl⟩) (.inr ⟨_,_,_,rfl,rfl,by first|rfl|omega⟩) (by omega) (by omega) (by decide)) fun am rd12=>?_;rw[List.drop_zero]at rd12;obtain⟨aB,rfl⟩:∃s:SV,am=s.v:=⟨toSV am,rd12.sv.symm⟩;refine LR.an ?_;refine aA _ _ ?_;refine CW.ret (hret .ret (.inr rfl) _ _ _ (res1 rfl rfl) ?_);exact⟨aB,rfl,(rd12.imp (fun b _ e=>by omega)),hm0⟩
theorem wlay_ct(n:Nat)(s:SV)(rc:List UInt8)(w0:World)(H0:Heap)
 (hr:RdT H0 fB 1 s.v rc) (hrl:rc.length≤4294967000):
 Ct Tryz.prog w0 34 #[.int .i64 (n:Int),s.v] H0 (fun r H2=>∃t:SV,∃k:Nat,r=t.v∧(Ow k 5 H2 fB 1 t.v (layW n rc))∧(Nx 0 H0.size k)∧Nw H0 H2):=by
 refine Ct.enter (args:=[.int .i64 (n:Int),s.v]) Tryz.func34 rfl rfl rfl ?_;intro Q0 hret;have hm0:Nw H0 H0:=Mo.refl _ _;replace hr:=hr.bnd;refine CW.sr (fun aq=>?_);refine LR.an ?_;refine aq _ _ (CW.sr (fun ar=>?_));refine LR.m1 ?_;refine LR.v1 (Y.len hr rfl u'34 rfl) ?_;refine LR.v1 (Y.cast (v2:= .int .u64 (UInt64.ofNat rc.length).toNat) (Y.conv_u64 rfl u'3 u'151 rfl) (rfl)) ?_;refine LR.call rfl c'76 rfl (Wd.u rfl) rfl rfl (number_ct 0 _ [] 4 (UInt64.ofNat (rc.length)) w0 _ (Ow.nil fB_len fB_one) (by omega) (by simp)) ?_;rintro v8 H8 ⟨aC,k8,rfl,ac,aD,af⟩;replace hr:=hr.upL af (DFL.o DF.z);replace hm0:=hm0.tq af (MIL.cons MI.z MIL.nil);have aE:=af.size;have ae:=ac.le;rw[List.nil_append]at ac;obtain⟨s8,rfl⟩:∃s:SV,v8=s.v:=⟨toSV v8,ac.sv.symm⟩;rw[num_be32 _ (by omega)]at ac;refine LR.m1 ?_;refine LR.m1 ?_;refine LR.call rfl c'72 rfl (Wd.u rfl) rfl rfl (check_ct n s rc w0 _ hr.any (by omega)) (fun aF au av=>?_);obtain⟨ag,rfl,aa,ad⟩:=av;replace hr:=hr.nw ad;replace ac:=ac.nw ad;replace hm0:=hm0.tr ad;have aG:=ad.size;replace aa:=aa.bnd;refine LR.m1 ?_;refine LR.z1 (Z.litw _ ([(s8,be32 rc.length),(ag,chkW n rc),(s,rc)]) rfl inf22 rfl rfl rfl (by decide) (by decide) fP_len fP_one (rfl)) fun aw ax ay=>?_;obtain⟨ah,ab,az,ai⟩:=ay;have ao:ax.size=au.size+1:=by rw[ai];simp
 replace hr:=hr.nw ab;replace ac:=ac.nw ab;replace aa:=aa.nw ab;replace hm0:=hm0.tr ab;have aH:=ab.size;refine LR.call rfl c'75 rfl (Wd.u rfl) rfl rfl (concat_ct aw [(s8,be32 rc.length),(ag,chkW n rc),(s,rc)] w0 _ ah.rd.any (fun x hx=>by simp only[List.mem_cons,List.not_mem_nil,or_false]at hx;rcases hx with rfl|rfl|rfl;exact ac.rd.any;exact aa.any;exact hr.any) (by simp[catP,be32_len,chkW_len];omega)) (fun aI aJ aA=>?_);obtain⟨aB,ap,rfl,aj,ak,al⟩:=aA;have am:Nx 0 H0.size ap:=Nx.tr (Nx.refl 0 _) ak hm0.size;replace hm0:=hm0.tr al;refine LR.an ?_;refine ar _ _ ?_;refine CW.ret (hret .ret (.inr rfl) _ _ _ (res1 rfl rfl) ?_);exact⟨aB,ap,rfl,by have e:catP [(s8,be32 rc.length),(ag,chkW n rc),(s,rc)]=layW n rc:=(by simp[catP,layW]);rw[←e];exact aj,am,hm0⟩
theorem encode_ct(s:SV)(l:List (SV×Rec))(w0:World)(H0:Heap)
 (hl:RdT H0 fP 1 s.v l) (hx:∀x∈l,RdT H0 fB 1 x.1.v x.2) (hrl:∀x∈l,x.2.length≤1048576) (hel:(encN 0 (recs l)).length≤1099510000000):
 Ct Tryz.prog w0 46 #[s.v] H0 (fun r H2=>∃t:SV,∃k:Nat,r=t.v∧(Ow k 5 H2 fB 1 t.v (encW (recs l)))∧(Nx 0 H0.size k)∧Nw H0 H2):=by
 refine Ct.enter (args:=[s.v]) Tryz.func46 rfl rfl rfl ?_;intro Q0 hret;have hm0:Nw H0 H0:=Mo.refl _ _;replace hl:=hl.bnd;have ao:=hl.bf;replace hx:=fun x ab=>(hx x ab).bnd;have ae:BF (fun b=>True∧b<H0.size) H0.size:=fun b h=>h.2;have hll:=hl.len;refine CW.sr (fun aM=>?_);refine LR.an ?_;refine aM _ _ (CW.sr (fun aN=>?_));refine LR.z1 (Z.litw _ (W8) rfl inf34 rfl rfl rfl (by decide) (by decide) fB_len fB_one (rfl)) ?_;rintro v6 H6 ⟨ow,au,bc,aO⟩;have aP:H6.size=H0.size+1:=by rw[aO];simp
 have aH:=(DF.new (ao.mono hm0.size):DF _ (H0.size+1));have av:=(DF.new (ae.mono hm0.size):DF _ (H0.size+1));have aw:Nx 0 H0.size (H0.size+1):=Nx.new hm0.size;replace hl:=hl.nw au;replace hx:=fun x ab=>(hx x ab).nw au;replace hm0:=hm0.tr au;have bd:=au.size;refine LR.z1 (Z.bconst ow (by decide) rfl Tryz.underlying34 Tryz.underlying5 rfl) ?_;rintro v7 H7 ⟨rfl,ow,am⟩;replace am:=am.md;replace hl:=hl.upL am (DFL.o aH);replace hx:=fun x ab=>(hx x ab).upL am (DFL.o av);replace hm0:=hm0.tq am (MIL.o (MI.q aw));have be:=am.size;refine LR.an ?_;refine aN _ _ (CW.s1 (fun aQ=>CW.sr (fun aR=>?_)));refine LR.m1 ?_;refine LR.v1 (Y.len hl rfl u'22 rfl) ?_;refine LR.m1 (LR.nil (aR _ _ ?_));refine CW.block (fun _ _ aS _=>?_)
 refine CW.loop (fun(s_:(Nat)×(Value)×(Nat))=>match s_ with|(i,vo,ko)=>[(3,vo),(8,s.v),(9,.int .i64 (l.length:Int)),(10,.int .i64 (i:Int))])
  (fun(i,vo,ko) (H:Heap)=>(i≤l.length)∧(Ow ko 5 H fB 1 vo (W8++encN 0 (recs (l.take i))))∧(Nx (H0.size+1) H7.size ko)∧Mo (Ms [(H0.size+1)]) H7 H)
  (fun(i,vo,ko)=>l.length-i) (0,v7,(H0.size+1)) ⟨rfl,rfl,rfl,rfl,trivial⟩ ?_ ?_
 ·
  exact⟨(by omega),by simpa only[List.take_zero,recs,List.map_nil,encN,List.append_nil]using ow,Nx.refl _ _,Mo.refl _ _⟩
 rintro⟨i,vo,ko⟩ bg aT K6 aU aV;obtain⟨hi,ow,ac,aa⟩:=aT;have aI:=DF.app (av) (ae.mono hm0.size) ac;have aW:Nx 0 H0.size ko:=Nx.tr (aw) ac hm0.size;replace hl:=hl.upL aa (DFL.o aH);replace hx:=fun x ab=>(hx x ab).upL aa (DFL.o av);replace hm0:=hm0.tq aa (MIL.o (MI.q aw));have bh:=aa.size;have af:=ow.le;have aJ:=ac;refine CW.sr (fun aX=>?_);refine LR.v1 (Y.lss rfl rfl rfl) (LR.nil (aX _ _ ?_));refine CW.s2 (fun aY aZ=>?_);refine CW.condp rfl (fun a0=>?_) (fun a0=>?_)
 ·
  refine CW.skip (aY _ _ (CW.s1 (fun a2=>CW.block (fun _ ax _ _=>CW.sr (fun ay=>?_)))));refine LR.m1 ?_;have hil:i<l.length:=by omega
  have hel2:=encN_take_le2 hil;have hxi:=hx l[i] (List.getElem_mem hil);have hri:=hrl l[i] (List.getElem_mem hil);have h8:W8.length=8:=rfl;have hwl:=layW_len i l[i].2;refine LR.e1 (g:=fun ad=> .pointer (some ad)) (Y.iF hl (i) rfl u'22 s'34 rfl rfl) fun a3 az=>?_;refine LR.v1 (Y.load1 az.pt rfl a'34 rfl) ?_;refine LR.a1 ?_;refine LR.an ?_;refine ay _ _ (CW.region ?_);refine LR.m1 ?_;refine LR.m1 ?_;refine LR.m1 ?_;refine LR.call rfl c'34 rfl (Wd.u rfl) rfl rfl (wlay_ct i l[i].1 l[i].2 w0 _ hxi.any (by omega)) (fun bi a4 a5=>?_);obtain⟨bj,bk,rfl,ap,a6,ag⟩:=a5;replace hx:=fun x ab=>(hx x ab).nw ag;replace ow:=ow.nw ag;replace hm0:=hm0.tr ag;replace aa:=aa.trN ag;have bl:=ag.size;have aq:=ap.le;refine LR.z1 (Z.apnd ow ap.rd rfl inf34 rfl rfl (by simp only[List.length_append];omega) (by simp only[List.length_append];omega)) fun bm a7 a8=>?_;obtain⟨aA,ow,aj,ah⟩:=a8;replace aj:Nx ko a4.size aA:=aj;replace ah:=ah.md;have aB:=DF.app (aI) (ae.mono hm0.size) aj;have ar:Nx (H0.size+1) H7.size aA:=Nx.tr (aJ) aj aa.size;replace hx:=fun x ab=>(hx x ab).upL ah (DFL.o aI);replace aa:=aa.trL ah (MIL.o (MI.r aJ));have bn:=ah.size;have af:=ow.le;refine LR.z1 (Z.litw _ ([(67:UInt8)]) rfl inf34 rfl rfl rfl (by decide) (by decide) fB_len fB_one (rfl)) fun bo aK a9=>?_;obtain⟨aC,ak,a_,aD⟩:=a9;have aL:aK.size=a7.size+1:=by rw[aD];simp
  replace hx:=fun x ab=>(hx x ab).nw ak;replace ow:=ow.nw ak;replace aa:=aa.trN ak;have bp:=ak.size;refine LR.z1 (Z.apnd ow aC.rd rfl inf34 rfl rfl (by simp only[List.length_append,List.length_singleton];omega) (by simp only[List.length_append,List.length_singleton];omega)) fun ba bq bb=>?_;obtain⟨aE,ow,al,ai⟩:=bb;replace al:Nx aA aK.size aE:=al;replace ai:=ai.md;have aF:Nx (H0.size+1) H7.size aE:=Nx.tr (ar) al aa.size;replace hx:=fun x ab=>(hx x ab).upL ai (DFL.o aB);replace aa:=aa.trL ai (MIL.o (MI.r ar));have br:=ai.size;have af:=ow.le;refine LR.an ?_;refine ax _ _ (a2 _ _ (CW.region ?_));refine LR.v1 (Y.addi rfl rfl rfl (by omega)) ?_;refine LR.m1 (LR.nil ?_);refine QN.sub (aU (i+1,ba,aE) _ ?_ ?_) ⟨rfl,rfl,(iv (by omega)),(iv (by omega)),trivial⟩
  ·exact⟨(by omega),by rw[encN_take hil,←List.append_assoc];unfold recW;rw[←List.append_assoc];exact ow,aF,aa⟩
  ·first|omega|(simp only;omega)|(simp;omega)
 ·
  refine CW.exit (aZ (.exit 0) nofun _ _ (aV (.exit 0) nofun _ _ (aS _ _ ?_)));refine aQ _ _ (CW.sr (fun aG=>?_));refine LR.m1 ?_;refine LR.an ?_;refine aG _ _ ?_;refine CW.ret (hret .ret (.inr rfl) _ _ _ (res1 rfl rfl) ?_);have hil:i=l.length:=by omega
  rw[hil,List.take_length]at ow;obtain⟨so,rfl⟩:∃s:SV,vo=s.v:=⟨toSV vo,ow.sv.symm⟩;exact⟨so,ko,rfl,ow,aW,hm0⟩
theorem equal_ct(s t:SV)(a b:List UInt8)(w0:World)(H0:Heap)
 (ha:RdT H0 fB 1 s.v a) (hb:RdT H0 fB 1 t.v b):
 Ct Tryz.prog w0 71 #[s.v,t.v] H0 (fun r H2=>r= .bool (decide (a=b))∧Nw H0 H2):=by
 refine Ct.enter (args:=[s.v,t.v]) Tryz.func71 rfl rfl rfl ?_;intro Q0 hret;have hm0:Nw H0 H0:=Mo.refl _ _;replace ha:=ha.bnd;replace hb:=hb.bnd;refine CW.sr (fun aa=>?_);refine LR.an ?_;refine aa _ _ (CW.sr (fun ab=>?_));refine LR.m1 ?_;refine LR.v1 (Y.bstr ha rfl Tryz.underlying34 Tryz.underlying9 Tryz.underlying5 rfl) ?_;refine LR.m1 ?_;refine LR.v1 (Y.bstr hb rfl Tryz.underlying34 Tryz.underlying9 Tryz.underlying5 rfl) ?_;refine LR.v1 (Y.seql rfl rfl rfl) ?_;refine LR.an ?_;refine ab _ _ ?_;refine CW.ret (hret .ret (.inr rfl) _ _ _ (res1 rfl rfl) ?_);exact⟨rfl,hm0⟩
end WalB

namespace WalC
open E Go.RowKit SumB SumC SumD SumF SumG DelA SimA SimB WalA WalB
set_option maxRecDepth 100000 in
theorem inf22:Inf Tryz.prog 22 34 1 24:=⟨Tryz.underlying22,_,_,rfl,rfl,rfl,rfl,rfl⟩
set_option maxRecDepth 100000 in
theorem inf34:Inf Tryz.prog 34 5 1 1:=⟨Tryz.underlying34,_,_,rfl,rfl,rfl,rfl,rfl⟩
theorem big_or{b:List UInt8}(h:4≤b.length):((b[0].toNat*2^24|||b[1].toNat*2^16)|||b[2].toNat*2^8)|||b[3].toNat=big b:=by
 match b,h with
 |a::b::c::d::t,_=>
  have h1:=a.toNat_lt;have h2:=b.toNat_lt;have h3:=c.toNat_lt;have h4:=d.toNat_lt
  have e1:a.toNat*2^24|||b.toNat*2^16=(a.toNat*256+b.toNat)*2^16:=by
   rw[show a.toNat*2^24=(a.toNat*2^8)*2^16 by omega,←Nat.shiftLeft_eq _ 16,←Nat.shiftLeft_eq b.toNat 16,←Nat.shiftLeft_or_distrib,or256,Nat.shiftLeft_eq]
  have e2:(a.toNat*256+b.toNat)*2^16|||c.toNat*2^8=((a.toNat*256+b.toNat)*256+c.toNat)*2^8:=by
   rw[show(a.toNat*256+b.toNat)*2^16=((a.toNat*256+b.toNat)*2^8)*2^8 by omega,←Nat.shiftLeft_eq _ 8,←Nat.shiftLeft_eq c.toNat 8,←Nat.shiftLeft_or_distrib,or256,Nat.shiftLeft_eq]
  simp only[List.getElem_cons_zero,List.getElem_cons_succ];rw[e1,e2,or256];simp[big,bev]
structure PS (b:List UInt8) (l:List Rec) (at_:Nat):Prop where
 ln:at_=(encW l).length
 eq:b=encW l++b.drop at_
 pp:parL b=l++parP l.length (b.drop at_)
 e:parE b=0
theorem PS.le{b:List UInt8}{l:List Rec}{a:Nat}(h:PS b l a):a≤b.length:=by
 have h1:=congrArg List.length h.eq;rw[List.length_append,←h.ln]at h1;omega
theorem PS.start{b:List UInt8}(h:b.take 8=W8):PS b [] 8:=
 ⟨rfl,by show b=(W8++[])++b.drop 8;rw[List.append_nil,←h,List.take_append_drop],by unfold parL;rw[if_pos h];rfl,by unfold parE;rw[if_pos h]⟩
theorem PS.step{b:List UInt8}{l:List Rec}{a:Nat}{r:Rec}(h:PS b l a)(h1:oneW l.length (b.drop a)=some r):PS b (l++[r]) (a+(13+r.length)):=by
 have h2:=oneW_some h1;refine⟨by rw[encW_snoc,List.length_append,recW_len,←h.ln],?_,?_,h.e⟩
 ·rw[encW_snoc,List.append_assoc,←List.drop_drop,←h2];exact h.eq
 ·rw[h.pp,parP_step h1,List.drop_drop,List.append_assoc];simp
theorem PS.stop{b:List UInt8}{l:List Rec}{a:Nat}(h:PS b l a)(h1:oneW l.length (b.drop a)=none):l=parL b∧a=parS b:=by
 have h2:l=parL b:=by rw[h.pp,parP_stop h1,List.append_nil]
 refine⟨h2,?_⟩;have h8:b.take 8=W8:=by have:=h.e;unfold parE at this;split at this;assumption;cases this
 unfold parS;rw[if_pos h8,←h2];exact h.ln
theorem oneW_short{n:Nat}{b:List UInt8}(h:b.length≤12):oneW n b=none:=by unfold oneW;rw[if_pos (.inl h)]
theorem oneW_big{n:Nat}{b:List UInt8}(h:1048576<big b∨b.length≤12+big b):oneW n b=none:=by unfold oneW;rw[if_pos (by omega)]
theorem oneW_mark{n:Nat}{b:List UInt8}(h:b.getD (12+big b) 0≠67):oneW n b=none:=by
 unfold oneW;split
 ·rfl
 ·rw[if_neg (fun h2=>h h2.1)]
theorem oneW_chk{n:Nat}{b:List UInt8}(h:(b.drop 4).take 8≠chkW n ((b.drop 12).take (big b))):oneW n b=none:=by
 unfold oneW;split
 ·rfl
 ·rw[if_neg (fun h2=>h h2.2)]
theorem oneW_yes{n:Nat}{b:List UInt8}(h0:¬b.length≤12)(h1:¬1048576<big b)(h2:¬b.length≤12+big b)(h3:b.getD (12+big b) 0=67)(h4:(b.drop 4).take 8=chkW n ((b.drop 12).take (big b))):oneW n b=some ((b.drop 12).take (big b)):=by
 unfold oneW;rw[if_neg (by omega),if_pos ⟨h3,h4⟩]
theorem take_drop'(b:List UInt8)(i n:Nat):(b.take (i+n)).drop i=(b.drop i).take n:=by rw[List.drop_take];congr 1;omega
theorem u8_ne{x:UInt8}{n:Nat}(h:(x.toNat:Int)≠(n:Int))(hn:n<256):x≠UInt8.ofNat n:=fun e=>h (by rw[e,UInt8.toNat_ofNat'];omega)
theorem u8_eq{x:UInt8}{n:Nat}(h:(x.toNat:Int)=(n:Int))(hn:n<256):x=UInt8.ofNat n:=UInt8.toNat.inj (by rw[UInt8.toNat_ofNat'];omega)
theorem getD_at{b:List UInt8}{i:Nat}(h:i<b.length):b.getD i 0=b[i]:=by rw[List.getD_eq_getElem?_getD,List.getElem?_eq_getElem h];rfl
theorem DF.or1{G:Nat→Prop}{kB k:Nat}(h:DF G k)(hB:Dj k kB):DF (fun b=>G b∨b+1=kB) k:=by
 rintro b (e|e) h2
 ·exact h b e h2
 ·exact hB b h2 e
theorem BF.or1{G:Nat→Prop}{n kB:Nat}(h:BF G n)(h1:kB≤n):BF (fun b=>G b∨b+1=kB) n:=by
 rintro b (e|e)
 ·exact h b e
 ·omega
theorem or63{a b:Nat}(h1:a<2^62)(h2:b<2^62):a|||b<2^62:=Nat.or_lt_two_pow h1 h2
theorem encW_many(l:List Rec):l.length≤(encW l).length:=by
 rw[encW_len]
 have:∀l:List Rec,l.length≤(l.map (fun r=>13+r.length)).sum:=fun l=>by
  induction l with
  |nil=>simp
  |cons r l ih=>simp only[List.length_cons,List.map_cons,List.sum_cons];omega
 have:=this l;omega
theorem snocP{α:Type}{F G:Nat→Prop}{H:Heap}{fb:α→SV×Rec}{l:List (SV×Rec)}{x:SV×Rec}(h:∀y∈l,Rd F H fB 1 y.1.v y.2)(hF:∀b,F b→G b)(hx:Rd G H fB 1 x.1.v x.2):∀y∈l++[x],Rd G H fB 1 y.1.v y.2:=fun y hy=>by
 rcases List.mem_append.1 hy with hy|hy
 ·exact(h y hy).imp (fun b _ e=>hF b e)
 ·rw[List.mem_singleton.1 hy];exact hx
theorem hasP_ct(s t:SV)(a p:List UInt8)(w0:World)(H0:Heap)
 (ha:RdT H0 fB 1 s.v a) (hb:RdT H0 fB 1 t.v p):
 Ct Tryz.prog w0 70 #[s.v,t.v] H0 (fun r H2=>r= .bool (decide (a.take p.length=p))∧Nw H0 H2):=by
 refine Ct.enter (args:=[s.v,t.v]) Tryz.func70 rfl rfl rfl ?_;intro Q0 hret;have hm0:Nw H0 H0:=Mo.refl _ _;replace ha:=ha.bnd;replace hb:=hb.bnd;refine CW.sr (fun ad=>?_);refine LR.an ?_;refine ad _ _ (CW.sr (fun ab=>?_));refine LR.m1 ?_;refine LR.v1 (Y.len ha rfl u'34 rfl) ?_;refine LR.m1 ?_;refine LR.v1 (Y.len hb rfl u'34 rfl) ?_;refine LR.v1 (Y.geq rfl rfl rfl) ?_;refine LR.m1 ?_;refine LR.splitp (d:=10) rfl (fun ae=>?_) (fun ae=>?_)
 ·
  refine LR.wm ?_;refine LR.wm ?_;refine LR.w1 (Y.len hb rfl u'34 rfl) ?_;refine LR.e (g:=fun v=>v) (Y.slice ha (0) (p.length) rfl u'34 s'5 rfl (.inl ⟨rfl,rfl⟩) (.inr ⟨_,_,_,rfl,rfl,by first|rfl|omega⟩) (by omega) (by omega)) (Wd.g rfl rfl rfl) rfl rfl (fun ac rd14=>?_);rw[List.drop_zero]at rd14;obtain⟨af,rfl⟩:∃s:SV,ac=s.v:=⟨toSV ac,rd14.sv.symm⟩;refine LR.wm ?_;refine LR.call rfl c'71 rfl (Wd.g rfl rfl rfl) rfl rfl (equal_ct af t (a.take p.length) p w0 _ rd14.any hb.any) (fun ah ai ag=>?_);obtain⟨rfl,aa⟩:=ag;replace hm0:=hm0.tr aa;refine LR.pt ?_;refine LR.an ?_;refine ab _ _ ?_;refine CW.ret (hret .ret (.inr rfl) _ _ _ (res1 rfl rfl) ?_);exact⟨rfl,hm0⟩
 ·
  refine LR.g1 ?_;refine LR.g1 ?_;refine LR.g1 ?_;refine LR.g1 ?_;refine LR.g1 ?_;refine LR.g1 ?_;refine LR.pf ?_;refine LR.an ?_;refine ab _ _ ?_;refine CW.ret (hret .ret (.inr rfl) _ _ _ (res1 rfl rfl) ?_);exact⟨by rw[decide_eq_false (fun h=>by have h2:=congrArg List.length h;rw[List.length_take]at h2;omega)],hm0⟩
set_option maxHeartbeats 2000000 in
theorem parse_ct(s:SV)(b:List UInt8)(w0:World)(H0:Heap)
 (hb:RdT H0 fB 1 s.v b) (hbl:b.length≤1000000000):
 Ct Tryz.prog w0 27 #[s.v] H0 (fun r H2=>∃t:SV,∃l:List (SV×Rec),r= .tuple #[t.v,.int .i64 (parS b:Int),.int .i64 (parE b:Int)]∧(recs l=parL b)∧(Rd (fun b=>H0.size≤b) H2 fP 1 t.v l)∧(∀x∈l,Rd (fun b=>H0.size≤b) H2 fB 1 x.1.v x.2)∧Nw H0 H2):=by
 refine Ct.enter (args:=[s.v]) Tryz.func27 rfl rfl rfl ?_;intro Q0 hret;have hm0:Nw H0 H0:=Mo.refl _ _;replace hb:=hb.bnd;have ay:=hb.bf;refine CW.sr (fun bu=>?_);refine LR.a1 ?_;refine LR.a1 ?_;refine LR.an ?_;refine bu _ _ (CW.scope (fun _ _ ax=>CW.s2 (fun bv bw=>CW.sr (fun bx=>?_))));refine LR.m1 ?_;refine LR.z1 (Z.litw _ (W8) rfl inf34 rfl rfl rfl (by decide) (by decide) fB_len fB_one (rfl)) fun b5 bz bA=>?_;obtain⟨ap,ar,bB,aL⟩:=bA;have bj:bz.size=H0.size+1:=by rw[aL];simp
 have bC:=(DF.new (ay.mono hm0.size):DF _ (H0.size+1));have bD:Nx 0 H0.size (H0.size+1):=Nx.new hm0.size;replace hb:=hb.nw ar;replace hm0:=hm0.tr ar;have b6:=ar.size;refine LR.z1 (Z.bconst ap (by decide) rfl Tryz.underlying34 Tryz.underlying5 rfl) fun bk b7 bE=>?_;obtain⟨rfl,ap,af⟩:=bE;replace af:=af.md;replace hb:=hb.upL af (DFL.o bC);replace hm0:=hm0.tq af (MIL.o (MI.q bD));have b8:=af.size;obtain⟨bF,rfl⟩:∃s:SV,bk=s.v:=⟨toSV bk,ap.sv.symm⟩;refine LR.call rfl c'70 rfl (Wd.u rfl) rfl rfl (hasP_ct s bF b W8 w0 _ hb.any ap.rd.any) (fun b9 aM bG=>?_);obtain⟨rfl,au⟩:=bG;replace hb:=hb.nw au;replace hm0:=hm0.tr au;have b_:=au.size;refine LR.v1 (Y.notp rfl rfl) (LR.nil (bx _ _ ?_));refine CW.condp rfl (fun aN=>?_) (fun aN=>?_)
 ·
  refine CW.sr (fun bH=>?_);refine LR.a1 ?_;refine LR.a1 ?_;refine LR.an ?_;refine bH _ _ ?_;refine CW.ret (bw .ret nofun _ _ (ax .ret nofun nofun _ _ (hret .ret (.inr rfl) _ _ _ (res3 rfl rfl rfl rfl) ?_)));have h8:¬b.take 8=W8:=aN;exact⟨⟨none,0,0⟩,[],by unfold parS parE;rw[if_neg h8,if_neg h8];rfl,by unfold parL;rw[if_neg h8];rfl,Rd.nil _ _ _ _,(fun x h=>by cases h),hm0⟩
 ·
  have h8:b.take 8=W8:=Decidable.byContradiction (fun h=>aN h);refine CW.skip (bv _ _ (CW.sr (fun bI=>?_)));refine LR.an ?_;refine bI _ _ (CW.sr (fun bJ=>?_));refine LR.an ?_;refine bJ _ _ (CW.s1 (fun bK=>?_));refine CW.label ?_;refine bK _ _ (CW.s1 (fun az=>CW.block (fun _ _ ag _=>?_)))
  refine CW.loop (fun(s_:(Nat)×(Value)×(Nat)×(List (SV×Rec))×(Nat→Prop))=>match s_ with|(a,vo,ko,l,G)=>[(0,s.v),(5,vo),(6,.int .i64 (a:Int))])
   (fun(a,vo,ko,l,G) (H:Heap)=>(PS b (recs l) a)∧(Ow ko 34 H fP 1 vo l)∧(∀x∈l,Rd G H fB 1 x.1.v x.2)∧(BF G H.size)∧(DF G ko)∧(∀c,G c→H0.size≤c)∧(Nx 0 aM.size ko)∧Nw aM H)
   (fun(a,vo,ko,l,G)=>b.length-a) (8,.slice none 0 0,0,[],fun _=>False) ⟨rfl,rfl,rfl,trivial⟩ ?_ ?_
  ·
   exact⟨PS.start h8,Ow.nil fP_len fP_one,(fun x h=>by cases h),(fun b e=>e.elim),(fun b e=>e.elim),(fun c e=>e.elim),Nx.refl _ _,Mo.refl _ _⟩
  rintro⟨a,vo,ko,l,G⟩ bl bL ca aO ah;obtain⟨hps,ow,hxa,ai,f1,hG,aj,aa⟩:=bL;have aA:Nx 0 H0.size ko:=Nx.tr (Nx.refl 0 _) aj hm0.size;replace hb:=hb.nw aa;replace hm0:=hm0.tr aa;have cb:=aa.size;have av:=ow.le;have bm:=aj;have hal:=hps.le;have hrl:(b.drop a).length=b.length-a:=List.length_drop;have hln:(recs l).length=l.length:=by simp[recs]
  have hll:=hps.ln;have hle8:l.length≤(encW (recs l)).length:=by rw[←hln];exact encW_many _
  refine CW.block (fun _ aP _ ak=>CW.sr (fun aQ=>?_));refine LR.m1 ?_;refine LR.m1 ?_;refine LR.e1 (g:=fun v=>v) (Y.slice hb (a) (_) rfl u'34 s'5 rfl (.inr ⟨_,_,_,rfl,rfl,by first|rfl|omega⟩) (.inl ⟨rfl,rfl⟩) (by omega) (by omega)) fun cc rd17=>?_;rw[List.take_length]at rd17;refine LR.an ?_;refine aQ _ _ (CW.s2 (fun aR aS=>CW.sr (fun aT=>?_)));refine LR.m1 ?_;refine LR.v1 (Y.len rd17 rfl u'34 rfl) ?_;refine LR.v1 (Y.leq rfl rfl rfl) (LR.nil (aT _ _ ?_));refine CW.condp rfl (fun bM=>?_) (fun bM=>?_)
  ·
   have hno:oneW (recs l).length (b.drop a)=none:=oneW_short (by omega);refine CW.exit (aS (.exit 0) nofun _ _ (ak (.exit 0) nofun (by simp) _ _ (ah (.exit 0) nofun _ _ (ag _ _ ?_))));refine az _ _ (CW.sr (fun aU=>?_));refine LR.m1 ?_;refine LR.m1 ?_;refine LR.a1 ?_;refine LR.a1 ?_;refine LR.an ?_;refine aU _ _ ?_;refine CW.ret (ax .ret nofun nofun _ _ (hret .ret (.inr rfl) _ _ _ (res3 rfl rfl rfl rfl) ?_));obtain⟨q1,q2⟩:=hps.stop hno;obtain⟨so,rfl⟩:∃s:SV,vo=s.v:=⟨toSV vo,ow.sv.symm⟩;exact⟨so,l,by rw[hps.e,←q2];rfl,q1,(ow.rd.imp (fun c _ e=>by have h9:=(aA);unfold Nx at h9;omega)),(fun x h=>(hxa x h).imp (fun c _ e=>hG c e)),hm0⟩
  ·
   have hR:12<(b.drop a).length:=by omega
   have hbo:=big_or (b:=b.drop a) (by omega);have hb4:big (b.drop a)<4294967296:=bev4 _ (by rw[List.length_take];omega);refine CW.skip (aR _ _ (CW.s1 (fun aV=>?_)));refine CW.region_draw rfl (by kernel_rfl) ?_;refine LR.m1 ?_;refine LR.e1 (g:=fun ad=> .pointer (some ad)) (Y.iF rd17 (0) rfl u'34 s'5 rfl rfl) fun bN aW=>?_;refine LR.v1 (Y.load1 aW.pt rfl a'5 rfl) ?_;refine LR.v1 (Y.conv8i rfl u'5 u'3 rfl) ?_;refine LR.v1 (Y.shln (24) rfl rfl rfl (by first|rfl|omega) (by omega) (by have:=((b.drop a)[0]).toNat_lt;omega)) ?_;refine LR.m1 ?_;refine LR.e1 (g:=fun ad=> .pointer (some ad)) (Y.iF rd17 (1) rfl u'34 s'5 rfl rfl) fun bO aX=>?_;refine LR.v1 (Y.load1 aX.pt rfl a'5 rfl) ?_;refine LR.v1 (Y.conv8i rfl u'5 u'3 rfl) ?_;refine LR.v1 (Y.shln (16) rfl rfl rfl (by first|rfl|omega) (by omega) (by have:=((b.drop a)[1]).toNat_lt;omega)) ?_;refine LR.v1 (Y.orn rfl rfl rfl (by have h0:=(b.drop a)[0].toNat_lt;omega) (by have h0:=(b.drop a)[1].toNat_lt;omega)) ?_;refine LR.m1 ?_;refine LR.e1 (g:=fun ad=> .pointer (some ad)) (Y.iF rd17 (2) rfl u'34 s'5 rfl rfl) fun bP aY=>?_;refine LR.v1 (Y.load1 aY.pt rfl a'5 rfl) ?_;refine LR.v1 (Y.conv8i rfl u'5 u'3 rfl) ?_;refine LR.v1 (Y.shln (8) rfl rfl rfl (by first|rfl|omega) (by omega) (by have:=((b.drop a)[2]).toNat_lt;omega)) ?_;refine LR.v1 (Y.orn rfl rfl rfl (by have h0:=(b.drop a)[0].toNat_lt;have h1:=(b.drop a)[1].toNat_lt;exact Nat.le_trans (Nat.le_of_lt (or63 (by omega) (by omega))) (by decide)) (by have h0:=(b.drop a)[2].toNat_lt;omega)) ?_;refine LR.m1 ?_;refine LR.e1 (g:=fun ad=> .pointer (some ad)) (Y.iF rd17 (3) rfl u'34 s'5 rfl rfl) fun bQ aZ=>?_;refine LR.v1 (Y.load1 aZ.pt rfl a'5 rfl) ?_;refine LR.v1 (Y.conv8i rfl u'5 u'3 rfl) ?_;refine LR.v1 (Y.cast (v2:= .int .i64 (big (b.drop a):Int)) (Y.orn rfl rfl rfl (by have h0:=(b.drop a)[0].toNat_lt;have h1:=(b.drop a)[1].toNat_lt;have h2:=(b.drop a)[2].toNat_lt;exact Nat.le_trans (Nat.le_of_lt (or63 (or63 (by omega) (by omega)) (by omega))) (by decide)) (by have h0:=(b.drop a)[3].toNat_lt;omega)) (by rw[hbo])) ?_;refine LR.an ?_;refine aV _ _ (CW.s2 (fun a0 aB=>CW.sr (fun aC=>?_)));refine LR.m1 ?_;refine LR.v1 (Y.gtr rfl rfl rfl) ?_;refine LR.m1 ?_;refine LR.splitp (d:=45) rfl (fun bR=>?_) (fun bR=>?_)
   ·
    have hno:oneW (recs l).length (b.drop a)=none:=oneW_big (.inl (by omega));refine LR.g1 ?_;refine LR.g1 ?_;refine LR.g1 ?_;refine LR.g1 ?_;refine LR.g1 ?_;refine LR.pt ?_;refine LR.nil (aC _ _ ?_);refine CW.cond_t rfl ?_;refine CW.exit (aB (.exit 0) nofun _ _ (ak (.exit 0) nofun (by simp) _ _ (ah (.exit 0) nofun _ _ (ag _ _ ?_))));refine az _ _ (CW.sr (fun a2=>?_));refine LR.m1 ?_;refine LR.m1 ?_;refine LR.a1 ?_;refine LR.a1 ?_;refine LR.an ?_;refine a2 _ _ ?_;refine CW.ret (ax .ret nofun nofun _ _ (hret .ret (.inr rfl) _ _ _ (res3 rfl rfl rfl rfl) ?_));obtain⟨q1,q2⟩:=hps.stop hno;obtain⟨so,rfl⟩:∃s:SV,vo=s.v:=⟨toSV vo,ow.sv.symm⟩;exact⟨so,l,by rw[hps.e,←q2];rfl,q1,(ow.rd.imp (fun c _ e=>by have h9:=(aA);unfold Nx at h9;omega)),(fun x h=>(hxa x h).imp (fun c _ e=>hG c e)),hm0⟩
   ·
    refine LR.wm ?_;refine LR.w1 (Y.len rd17 rfl u'34 rfl) ?_;refine LR.w1 (Y.subi rfl rfl rfl (by omega)) ?_;refine LR.wm ?_;refine LR.w1 (Y.leq rfl rfl rfl) ?_;refine LR.pf ?_;refine LR.nil (aC _ _ ?_);refine CW.condp rfl (fun bS=>?_) (fun bS=>?_)
    ·
     have hno:oneW (recs l).length (b.drop a)=none:=oneW_big (.inr (by omega));refine CW.exit (aB (.exit 0) nofun _ _ (ak (.exit 0) nofun (by simp) _ _ (ah (.exit 0) nofun _ _ (ag _ _ ?_))));refine az _ _ (CW.sr (fun a3=>?_));refine LR.m1 ?_;refine LR.m1 ?_;refine LR.a1 ?_;refine LR.a1 ?_;refine LR.an ?_;refine a3 _ _ ?_;refine CW.ret (ax .ret nofun nofun _ _ (hret .ret (.inr rfl) _ _ _ (res3 rfl rfl rfl rfl) ?_));obtain⟨q1,q2⟩:=hps.stop hno;obtain⟨so,rfl⟩:∃s:SV,vo=s.v:=⟨toSV vo,ow.sv.symm⟩;exact⟨so,l,by rw[hps.e,←q2];rfl,q1,(ow.rd.imp (fun c _ e=>by have h9:=(aA);unfold Nx at h9;omega)),(fun x h=>(hxa x h).imp (fun c _ e=>hG c e)),hm0⟩
    ·
     have hrcl:(((b.drop a).drop 12).take (big (b.drop a))).length=big (b.drop a):=by rw[List.length_take,List.length_drop];omega
     refine CW.skip (a0 _ _ (CW.sr (fun a4=>?_)));refine LR.m1 ?_;refine LR.m1 ?_;refine LR.v1 (Y.addi rfl rfl rfl (by omega)) ?_;refine LR.e1 (g:=fun v=>v) (Y.slice rd17 (12) (12+big (b.drop a)) rfl u'34 s'5 rfl (.inr ⟨_,_,_,rfl,rfl,by first|rfl|omega⟩) (.inr ⟨_,_,_,rfl,rfl,by first|rfl|omega⟩) (by omega) (by omega)) fun bn rd55=>?_;rw[take_drop']at rd55;obtain⟨bT,rfl⟩:∃s:SV,bn=s.v:=⟨toSV bn,rd55.sv.symm⟩;refine LR.an ?_;refine a4 _ _ (CW.s2 (fun a5 aD=>CW.s1 (fun aE=>?_)));refine CW.region_any (fun Hq=>Nw bl Hq) [] rfl ?_;have hqs:=Nw.refl bl;refine LH.m1 0 rfl hqs ?_;refine LH.m1 1 rfl hqs ?_;refine LH.t1 2 rfl (fun Hq hq=>Y.addi rfl rfl rfl (by omega)) hqs ?_;refine LH.e (g:=fun ad=> .pointer (some ad)) 3 (by kernel_rfl) rfl (by kernel_rfl) (by kernel_rfl) (by kernel_rfl) (Y.iF rd17 (12+big (b.drop a)) rfl u'34 s'5 rfl rfl) (Wd.u rfl) rfl rfl hqs (fun bU a6=>?_);refine LH.t1 4 rfl (fun Hq hq=>Y.load1 (a6.pt.nw hq) rfl a'5 rfl) hqs ?_;refine LH.t1 5 rfl (fun Hq hq=>Y.neq rfl rfl rfl) hqs ?_;refine LH.m1 6 rfl hqs ?_;refine LH.splitp (d:=62) rfl (fun a7=>?_) (fun a7=>?_)
     ·
      have hno:oneW (recs l).length (b.drop a)=none:=oneW_mark (by rw[getD_at (by omega)];exact u8_ne a7 (by decide));refine LH.g1 7 rfl rfl rfl rfl hqs ?_;refine LH.g1 8 rfl rfl rfl rfl hqs ?_;refine LH.g1 9 rfl rfl rfl rfl hqs ?_;refine LH.g1 10 rfl rfl rfl rfl hqs ?_;refine LH.g1 11 rfl rfl rfl rfl hqs ?_;refine LH.g1 12 rfl rfl rfl rfl hqs ?_;refine LH.g1 13 rfl rfl rfl rfl hqs ?_;refine LH.g1 14 rfl rfl rfl rfl hqs ?_;refine LH.t1 15 rfl (fun Hq hq=>Y.pick_t rfl rfl rfl) hqs ?_;refine LH.done (by kernel_rfl) ?_;have hqe:=hqs;refine aE _ _ ?_;refine CW.cond_t rfl ?_;refine CW.exit (aD (.exit 0) nofun _ _ (ak (.exit 0) nofun (by simp) _ _ (ah (.exit 0) nofun _ _ (ag _ _ ?_))));refine az _ _ (CW.sr (fun a8=>?_));refine LR.m1 ?_;refine LR.m1 ?_;refine LR.a1 ?_;refine LR.a1 ?_;refine LR.an ?_;refine a8 _ _ ?_;refine CW.ret (ax .ret nofun nofun _ _ (hret .ret (.inr rfl) _ _ _ (res3 rfl rfl rfl rfl) ?_));obtain⟨q1,q2⟩:=hps.stop hno;obtain⟨so,rfl⟩:∃s:SV,vo=s.v:=⟨toSV vo,ow.sv.symm⟩;exact⟨so,l,by rw[hps.e,←q2];rfl,q1,(ow.rd.imp (fun c _ e=>by have h9:=(aA);unfold Nx at h9;omega)),(fun x h=>(hxa x h).imp (fun c _ e=>hG c e)),hm0⟩
     ·
      have hmk:(b.drop a).getD (12+big (b.drop a)) 0=67:=by rw[getD_at (by omega)];exact u8_eq (Decidable.byContradiction a7) (by decide)
      refine LH.u1 7 rfl (fun Hq hq=>Y.move rfl rfl) (Wd.g rfl rfl rfl) hqs ?_;refine LH.e (g:=fun v=>v) 8 (by kernel_rfl) rfl (by kernel_rfl) (by kernel_rfl) (by kernel_rfl) (Y.slice rd17 (4) (12) rfl u'34 s'5 rfl (.inr ⟨_,_,_,rfl,rfl,by first|rfl|omega⟩) (.inr ⟨_,_,_,rfl,rfl,by first|rfl|omega⟩) (by omega) (by omega)) (Wd.g rfl rfl rfl) rfl rfl hqs (fun bo rd64=>?_);rw[show(12:Nat)=4+8 from rfl,take_drop']at rd64;obtain⟨bV,rfl⟩:∃s:SV,bo=s.v:=⟨toSV bo,rd64.sv.symm⟩;refine LH.u1 9 rfl (fun Hq hq=>Y.move rfl rfl) (Wd.g rfl rfl rfl) hqs ?_;refine LH.u1 10 rfl (fun Hq hq=>Y.cast (v2:= .int .i64 (l.length:Int)) (Y.len (ow.rd.nw hq) rfl u'22 rfl) (rfl)) (Wd.g rfl rfl rfl) hqs ?_;refine LH.u1 11 rfl (fun Hq hq=>Y.move rfl rfl) (Wd.g rfl rfl rfl) hqs ?_;refine LH.o1 12 ?_;refine LO.call rfl rfl c'72 rfl (Wd.g rfl rfl rfl) rfl rfl (check_ct l.length bT (((b.drop a).drop 12).take (big (b.drop a))) w0 _ rd55.any (by omega)) (fun cd bp bW=>?_);obtain⟨bX,rfl,aw,ab⟩:=bW;replace ow:=ow.nw ab;replace hxa:=fun x hxa_=>(hxa x hxa_).nw ab;replace rd55:=rd55.nw ab;replace rd64:=rd64.nw ab;replace hm0:=hm0.tr ab;replace aa:=aa.tr ab;have ce:=ab.size;replace aw:=aw.bnd;have aF:=hqs.tr ab;refine⟨.inr aF,LH.narrow (SH2:=fun Hq=>Nw bp Hq) (fun Hq hq=>aF.tr hq) ?_⟩;have aG:=Nw.refl bp;refine LH.o1 13 ?_;refine LO.call rfl rfl c'71 rfl (Wd.g rfl rfl rfl) rfl rfl (equal_ct bV bX _ _ w0 _ rd64.any aw.any) (fun cf bq bY=>?_);obtain⟨rfl,ac⟩:=bY;replace ow:=ow.nw ac;replace hxa:=fun x hxa_=>(hxa x hxa_).nw ac;replace rd55:=rd55.nw ac;replace hm0:=hm0.tr ac;replace aa:=aa.tr ac;have cg:=ac.size;have aH:=aG.tr ac;refine⟨.inr aH,LH.narrow (SH2:=fun Hq=>Nw bq Hq) (fun Hq hq=>aH.tr hq) ?_⟩;have al:=Nw.refl bq;refine LH.u1 14 rfl (fun Hq hq=>Y.notp rfl rfl) (Wd.g rfl rfl rfl) al ?_;refine LH.t1 15 rfl (fun Hq hq=>Y.pick_f rfl rfl rfl) al ?_;refine LH.done (by kernel_rfl) ?_;have hqe:=al;refine aE _ _ ?_;refine CW.condp rfl (fun a9=>?_) (fun a9=>?_)
      ·
       have hno:oneW (recs l).length (b.drop a)=none:=by rw[hln];exact oneW_chk a9
       refine CW.exit (aD (.exit 0) nofun _ _ (ak (.exit 0) nofun (by simp) _ _ (ah (.exit 0) nofun _ _ (ag _ _ ?_))));refine az _ _ (CW.sr (fun a_=>?_));refine LR.m1 ?_;refine LR.m1 ?_;refine LR.a1 ?_;refine LR.a1 ?_;refine LR.an ?_;refine a_ _ _ ?_;refine CW.ret (ax .ret nofun nofun _ _ (hret .ret (.inr rfl) _ _ _ (res3 rfl rfl rfl rfl) ?_));obtain⟨q1,q2⟩:=hps.stop hno;obtain⟨so,rfl⟩:∃s:SV,vo=s.v:=⟨toSV vo,ow.sv.symm⟩;exact⟨so,l,by rw[hps.e,←q2];rfl,q1,(ow.rd.imp (fun c _ e=>by have h9:=(aA);unfold Nx at h9;omega)),(fun x h=>(hxa x h).imp (fun c _ e=>hG c e)),hm0⟩
      ·
       have hyes:oneW (recs l).length (b.drop a)=some (((b.drop a).drop 12).take (big (b.drop a))):=by rw[hln];exact oneW_yes (by omega) (by omega) (by omega) hmk (Decidable.byContradiction (fun h=>a9 h))
       refine CW.skip (a5 _ _ (CW.sr (fun ba=>?_)));refine LR.m1 ?_;refine LR.m1 ?_;refine LR.call rfl c'64 rfl (Wd.u rfl) rfl rfl (bclone_ct _ (((b.drop a).drop 12).take (big (b.drop a))) w0 _ rd55.any (by omega)) (fun ch bZ b0=>?_);obtain⟨bb,aJ,rfl,nd,aI,aq⟩:=b0;have br:Dj ko aJ:=Dj.app (Dj.z) ow.le aI;have bc:Nx 0 H0.size aJ:=Nx.tr (Nx.refl 0 _) aI hm0.size;replace ow:=ow.nw aq;replace hxa:=fun x hxa_=>(hxa x hxa_).nw aq;replace aa:=aa.tr aq;have ci:=aq.size;have bd:=nd.le;refine LR.z1 (Z.litw _ ([(bb,((b.drop a).drop 12).take (big (b.drop a)))]) rfl inf22 rfl rfl rfl (by decide) (by decide) fP_len fP_one (rfl)) fun cj bs b1=>?_;obtain⟨nw75,am,b2,be⟩:=b1;have bt:bs.size=bZ.size+1:=by rw[be];simp
       replace ow:=ow.nw am;replace hxa:=fun x hxa_=>(hxa x hxa_).nw am;replace nd:=nd.nw am;replace aa:=aa.tr am;have ck:=am.size;refine LR.z1 (Z.apnd ow nw75.rd rfl inf22 rfl rfl (by simp only[List.length_singleton];omega) (by simp only[List.length_singleton];omega)) fun b3 cl b4=>?_;obtain⟨aK,ow,ao,ae⟩:=b4;replace ao:Nx ko bs.size aK:=ao;replace ae:=ae.md;have bg:=DF.app (f1) (ai.mono (by omega)) ao;have bh:Dj aJ aK:=Dj.app (br.symm) nd.le ao;have bi:Nx 0 aM.size aK:=Nx.tr (bm) ao aa.size;replace hxa:=fun x hxa_=>(hxa x hxa_).upL ae (DFL.o f1);replace nd:=nd.upL ae (DL.o br.symm);replace aa:=aa.tq ae (MIL.o (MI.q bm));have cm:=ae.size;have av:=ow.le;refine LR.an ?_;refine ba _ _ (CW.region ?_);refine LR.m1 ?_;refine LR.m1 ?_;refine LR.v1 (Y.addi rfl rfl rfl (by omega)) ?_;refine LR.v1 (Y.addi rfl rfl rfl (by omega)) ?_;refine LR.v1 (Y.cast (v2:= .int .i64 ((a+(13+(((b.drop a).drop 12).take (big (b.drop a))).length):Nat):Int)) (Y.addi rfl rfl rfl (by omega)) (ivv (by omega))) ?_;refine LR.an ?_;refine aP _ _ ?_;refine QN.sub (aO (a+(13+(((b.drop a).drop 12).take (big (b.drop a))).length),b3,aK,l++[(bb,((b.drop a).drop 12).take (big (b.drop a)))],fun c=>G c∨c+1=aJ) _ ?_ ?_) ⟨rfl,rfl,(iv (by omega)),trivial⟩
       ·exact⟨by unfold recs;rw[List.map_append];exact hps.step hyes,ow,snocP (α:=Unit) (fb:=fun _=>(bb,[])) hxa (fun c e=> .inl e) (nd.rd.imp (fun c _ e=> .inr e)),BF.or1 (ai.mono (by omega)) nd.le,DF.or1 (bg) (bh.symm),fun c e=>by rcases e with e|e;exact hG c e;exact(by have h9:=(bc);unfold Nx at h9;omega),bi,aa⟩
       ·show b.length-(a+(13+_))<b.length-a;omega
theorem count_ct(lb:Nat)(v p:Value)(n:Int)(br:Bool)(w0:World)(H0:Heap)
 (hv:Var 76 H0 lb [v,p,.int .i64 n,.bool br]):
 Ct Tryz.prog w0 11 #[.pointer (some ⟨lb,0,none⟩)] H0 (fun r H2=>r= .int .i64 n∧Nw H0 H2):=by
 refine Ct.enter (args:=[.pointer (some ⟨lb,0,none⟩)]) Tryz.func11 rfl rfl rfl ?_;intro Q0 hret;have hm0:Nw H0 H0:=Mo.refl _ _;refine CW.sr (fun aa=>?_);refine LR.an ?_;refine aa _ _ (CW.sr (fun ab=>?_));refine LR.m1 ?_;refine LR.n1 ?_;refine LR.v1 (Y.FA hv.pt rfl u'76 rfl s'3) ?_;refine LR.v1 (Y.load1 (hv.pt.drop 2) rfl a'3 rfl) ?_;refine LR.an ?_;refine ab _ _ ?_;refine CW.ret (hret .ret (.inr rfl) _ _ _ (res1 rfl rfl) ?_);exact⟨rfl,hm0⟩
end WalC

namespace E
section
variable {P : Program} {w0 : World} {n : Nat} {l : FL} {H : Heap} {o : Oper}
theorem Z.ext{f:FuncId}{fn:Func}{e:Array Value→Sem Value}{args:List Operand}{ats:Array TypeId}{vs:List Value}{R:Value→Heap→Prop}(ho:o.op= .call {callee:= .value (.func f),args:=args.toArray,argTypes:=ats})(hf:P.funcs[f]?=some fn)
 (hname:(fn.name== "runtime.NumGoroutine")=false) (hb:fn.body.isNone=true) (hn:Extern.findNext fn=none) (he:Extern.find fn=some e) (hv:opvs l args=some vs) (hr:∀w,At w0 H w→∃v H' w',(e vs.toArray).run P w= .ok v w'∧At w0 H' w'∧R v H'):Z P w0 n l H o R:=by
 intro a w hfr ha;have h1:a.eval (.func f)= .func (.func f) #[] #[]:=rfl;have h2:=hfr.evals hv;have h3:=run_callFunc_extern (P:=P) hf hname hb hn he vs.toArray w;obtain⟨v,H',w',q1,q2,q3⟩:=hr w ha;rw[q1]at h3;simp only[Result.andThen]at h3;exact⟨v,H',w',by simp[execOp,ho,resolve,Deferred.ofValue,h1,invoke,h2,h3],q2,q3⟩
theorem Var.cell{e:TypeId}{b:Nat}{cs:List Value}(h:Var e H b cs){w:World}(ha:At w0 H w){i:Nat}{c:Value}(hc:cs[i]?=some c):w.cell? ⟨b,i,none⟩=some c∧w.frozen? ⟨b,i,none⟩=false∧∃fz,w.heap[b]?=some (.cells cs.toArray e fz):=by
 obtain⟨fz,h1,h2⟩:=id h.row;have hi:=(List.getElem?_eq_some_iff.1 hc).1;have h1':w.heap[b]?=some (.cells cs.toArray e fz):=by rw[ha.heap];exact h1
 refine⟨by simp[World.cell?,h1',hc],?_,fz,h1'⟩;obtain⟨lo,hi'⟩:=fz;have:=h2.2 i (by simpa using hi);simp only at this;simp[World.frozen?,h1'];omega
theorem Z.add64{f:FuncId}{fn:Func}{args:List Operand}{ats:Array TypeId}{e:TypeId}{b i:Nat}{cs:List Value}{x y:Int}(h:Var e H b cs)(hc:cs[i]?=some (.int .i64 x))(ho:o.op= .call {callee:= .value (.func f),args:=args.toArray,argTypes:=ats})(hf:P.funcs[f]?=some fn)
 (hname:(fn.name== "runtime.NumGoroutine")=false) (hb:fn.body.isNone=true) (hn:Extern.findNext fn=none) (he:Extern.find fn=some (Extern.Atomic.update (Op.intArith .add) .i64 true)) (hv:opvs l args=some [.pointer (some ⟨b,i,none⟩),.int .i64 y]) (hxy: -9223372036854775808≤x+y∧x+y≤9223372036854775807):
 Z P w0 n l H o (fun r H'=>r= .int .i64 (x+y)∧Var e H' b (cs.set i (.int .i64 (x+y)))∧Mo (fun c=>c=b) H H'):=by
 refine Z.ext ho hf hname hb hn he hv (fun w ha=>?_);obtain⟨h1,h2,fz,h3⟩:=h.cell ha hc;have hw:IntKind.i64.wrap (x+y)=x+y:=by rw[IntKind.wrap_i64];omega
 have hi:=(List.getElem?_eq_some_iff.1 hc).1;refine⟨.int .i64 (x+y),_,w.setRow b (cs.toArray.setIfInBounds i (.int .i64 (x+y))),?_,ha.row _ _,rfl,?_,setRow_mo ha _ _⟩
 ·have hs:(store ⟨b,i,none⟩ (.int .i64 (x+y)) .atomic).run P w= .ok () (w.setRow b (cs.toArray.setIfInBounds i (.int .i64 (x+y)))):=by
   rw[Go.run_store P w _ _ _ rfl,h1];simp only[h2,Bool.false_eq_true,if_false];rw[setCell_eq_setRow w b i cs.toArray e fz _ h3]
  have e1:Extern.Atomic.update (Op.intArith .add) .i64 true #[.pointer (some ⟨b,i,none⟩),.int .i64 y]=(asAddr (.pointer (some ⟨b,i,none⟩))>>=fun a=>Extern.Atomic.read (.int .i64) a>>=fun old=>asInt old>>=fun p=>asInt (.int .i64 y)>>=fun q=>Op.intArith .add .i64 p q>>=fun new=>store a new .atomic>>=fun _=>pure (if true then new else old)):=rfl;show(Extern.Atomic.update (Op.intArith .add) .i64 true #[.pointer (some ⟨b,i,none⟩),.int .i64 y]).run P w=_;rw[e1];simp[Extern.Atomic.read,asAddr,h1,asInt,asIntOf,Op.intArith,hw,hs]
 ·have:=setRow_row ha h.row (c:=cs.toArray.setIfInBounds i (.int .i64 (x+y))) (by simp)
  exact⟨by simpa using this⟩
theorem Y.load64{f:FuncId}{fn:Func}{args:List Operand}{ats:Array TypeId}{e:TypeId}{b i:Nat}{cs:List Value}{x:Int}(h:Var e H b cs)(hc:cs[i]?=some (.int .i64 x))(ho:o.op= .call {callee:= .value (.func f),args:=args.toArray,argTypes:=ats})(hf:P.funcs[f]?=some fn)
 (hname:(fn.name== "runtime.NumGoroutine")=false) (hb:fn.body.isNone=true) (hn:Extern.findNext fn=none) (he:Extern.find fn=some (Extern.Atomic.loadT (.int .i64))) (hv:opvs l args=some [.pointer (some ⟨b,i,none⟩)]):Y P w0 n l H o (.int .i64 x):=by
 refine Y.ext ho hf hname hb hn he hv (fun w ha=>?_);obtain⟨h1,_⟩:=h.cell ha hc;have e1:Extern.Atomic.loadT (.int .i64) #[.pointer (some ⟨b,i,none⟩)]=(asAddr (.pointer (some ⟨b,i,none⟩))>>=fun a=>Extern.Atomic.read (.int .i64) a):=rfl;show(Extern.Atomic.loadT (.int .i64) #[.pointer (some ⟨b,i,none⟩)]).run P w=_;rw[e1];simp[Extern.Atomic.read,asAddr,h1]
end
end E

namespace SimC
open E Go.RowKit SimA SimB
inductive Role|out|fs|dirs|dir (p:Pth)|now (p:Pth)|sty (p:Pth)|chg (p:Pth)|fil (i:Nat)|wrs (i:Nat)|frz
abbrev ptr(b:Nat):Value:= .pointer (some ⟨b,0,none⟩)
abbrev fvl(fb:List Nat)(i:Nat):Value:=ptr (fb.getD i 0)
abbrev fpt(fb:List Nat)(o:Option Nat):Option Addr:=o.map (fun i=>⟨fb.getD i 0,0,none⟩)
abbrev fC(fb:List Nat)(c:Chg):List Value:=[Str c.g,Str c.n,.pointer (fpt fb c.f)]
theorem fC_len(fb:List Nat)(c:Chg):(fC fb c).length=3:=rfl
theorem fC_one(fb:List Nat)(c:Chg):∀u∈fC fb c,u.oneCell'=true:=by
 intro u hu;simp only[List.mem_cons,List.not_mem_nil,or_false]at hu;rcases hu with rfl|rfl|rfl<;>rfl
theorem own_congr{α:Type}{G:Nat→Prop}{e:TypeId}{H:Heap}{f g:α→List Value}{sz:Nat}{v:Value}{l:List α}(h:Own G e H f sz v l)(hc:∀x,(g x).length=sz)(h1:∀x,∀u∈g x,u.oneCell'=true)(hfg:∀x∈l,f x=g x):Own G e H g sz v l:=by
 refine⟨hc,h1,?_⟩;rcases h.ex with h|⟨b,cap,cur,e1,e2,e3,e4,e5,e6,e7⟩
 ·exact .inl h
 ·refine .inr ⟨b,cap,cur,e1,e2,e3,e4,e5,e6,?_⟩
  rw[e7,List.flatMap_def,List.flatMap_def,List.map_congr_left hfg]
theorem ow_congr{α:Type}{k:Nat}{e:TypeId}{H:Heap}{f g:α→List Value}{sz:Nat}{v:Value}{l:List α}(h:Ow k e H f sz v l)(hc:∀x,(g x).length=sz)(h1:∀x,∀u∈g x,u.oneCell'=true)(hfg:∀x∈l,f x=g x):Ow k e H g sz v l:=⟨own_congr h.own hc h1 hfg,h.le⟩
theorem mp_congr{κ β:Type}{H:Heap}{fk:κ→Value}{f g:β→Value}{b:Nat}{m:List (κ×β)}(h:Mp H fk f b m)(hfg:∀x∈m,f x.2=g x.2):Mp H fk g b m:=by
 obtain⟨r,es,clock,h1,h2,h3,h4,h5⟩:=h.mo.ex;exact⟨⟨r,es,clock,h1,h2,h3,h4,by rw[h5];exact List.map_congr_left (fun x hx=>by rw[hfg x hx])⟩⟩
section
variable {ρ ρ' : Nat → Role} {fb : List Nat} {H H' : Heap} {D D' : Dk} {p : Pth} {db nb sb k i b : Nat} {sv nv wv : SV} {nm sm : Nms} {x : Fdt} {l : List Wx} {S : Nat → Prop}
structure DirO (ρ:Nat→Role) (fb:List Nat) (H:Heap) (D:Dk) (p:Pth) (db nb sb k:Nat) (sv:SV) (nm sm:Nms):Prop where
 rd:ρ db= .dir p
 vd:Var 99 H db [.map (some nb),.map (some sb),sv.v]
 rn:ρ nb= .now p
 hn:Mp H Str (fvl fb) nb nm
 rs:ρ sb= .sty p
 hs:Mp H Str (fvl fb) sb sm
 en:∀q,mget nm q=if dirP q=p then mget D.now q else none
 es:∀q,mget sm q=if dirP q=p then mget D.stays q else none
 hc:Ow k 103 H (fC fb) 3 sv.v (D.chgs p)
 rc:∀c,c+1=k→ρ c= .chg p
structure FilO (ρ:Nat→Role) (H:Heap) (i b:Nat) (x:Fdt) (nv sv wv:SV) (k:Nat) (l:List Wx):Prop where
 rf:ρ b= .fil i
 vf:Var 112 H b [nv.v,sv.v,wv.v]
 hn:Rd (fun c=>ρ c= .frz) H fB 1 nv.v x.now
 hs:Rd (fun c=>ρ c= .frz) H fB 1 sv.v x.stays
 hw:Ow k 149 H fW 2 wv.v l
 lw:l.map (·.1)=x.w
 hd:∀y∈l,Rd (fun c=>ρ c= .frz) H fB 1 y.2.v y.1.d
 rk:∀c,c+1=k→ρ c= .wrs i
def Ext(ρ ρ':Nat→Role):Prop:=∀c,ρ c≠ .out→ρ' c=ρ c
theorem Ext.refl(ρ:Nat→Role):Ext ρ ρ:=fun _ _=>rfl
theorem Ext.of(h:Ext ρ ρ'){c:Nat}{r:Role}(e:ρ c=r)(hr:r≠ .out):ρ' c=r:=by rw[h c (by rw[e];exact hr)];exact e
theorem rd_frz{α:Type}{f:α→List Value}{sz:Nat}{v:Value}{l:List α}(h:Rd (fun c=>ρ c= .frz) H f sz v l)(hx:Ext ρ ρ')(s:Mo S H H')(hS:∀c,S c→ρ c≠ .frz):Rd (fun c=>ρ' c= .frz) H' f sz v l:=
 (h.up s (fun b _ e hs=>hS b hs e)).imp (fun b _ e=>hx.of e (by simp))
theorem DirO.tr(h:DirO ρ fb H D p db nb sb k sv nm sm)(hx:Ext ρ ρ')(s:Mo S H H')(hS:∀c,S c→ρ c≠ .dir p∧ρ c≠ .now p∧ρ c≠ .sty p∧ρ c≠ .chg p)
 (hn:∀q,dirP q=p→mget D'.now q=mget D.now q) (hs:∀q,dirP q=p→mget D'.stays q=mget D.stays q) (hc:D'.chgs p=D.chgs p):DirO ρ' fb H' D' p db nb sb k sv nm sm where
 rd:=hx.of h.rd (by simp)
 vd:=h.vd.up s (fun e=>(hS _ e).1 h.rd)
 rn:=hx.of h.rn (by simp)
 hn:=h.hn.up s (fun e=>(hS _ e).2.1 h.rn)
 rs:=hx.of h.rs (by simp)
 hs:=h.hs.up s (fun e=>(hS _ e).2.2.1 h.rs)
 en:=fun q=>by rw[h.en];split
               ·rename_i e;rw[hn q e]
               ·rfl
 es:=fun q=>by rw[h.es];split
               ·rename_i e;rw[hs q e]
               ·rfl
 hc:=by rw[hc];exact h.hc.up s (fun b _ e hb=>(hS b hb).2.2.2 (h.rc b e))
 rc:=fun c e=>hx.of (h.rc c e) (by simp)
theorem FilO.tr(h:FilO ρ H i b x nv sv wv k l)(hx:Ext ρ ρ')(s:Mo S H H')(hS:∀c,S c→ρ c≠ .fil i∧ρ c≠ .wrs i∧ρ c≠ .frz):FilO ρ' H' i b x nv sv wv k l where
 rf:=hx.of h.rf (by simp)
 vf:=h.vf.up s (fun e=>(hS _ e).1 h.rf)
 hn:=rd_frz h.hn hx s (fun c e=>(hS c e).2.2)
 hs:=rd_frz h.hs hx s (fun c e=>(hS c e).2.2)
 hw:=h.hw.up s (fun b _ e hb=>(hS b hb).2.1 (h.rk b e))
 lw:=h.lw
 hd:=fun y hy=>rd_frz (h.hd y hy) hx s (fun c e=>(hS c e).2.2)
 rk:=fun c e=>hx.of (h.rk c e) (by simp)
structure Gh where
 ρ:Nat→Role
 fb:List Nat
 mb:Nat
 dm:List (Pth×Nat)
 lv:Nat
structure PDk (K:List Nat) (g:Gh) (H:Heap) (b:Nat) (D:Dk):Prop where
 hK:∀c,c+1∈K↔g.ρ c≠ .out
 lt:∀c,g.ρ c≠ .out→c<H.size
 rb:g.ρ b= .fs
 vb:Var 73 H b [.int .i64 D.cap,.int .i64 D.most,.map (some g.mb),.int .i64 D.ops,.int .i64 g.lv,.bool D.dead]
 lvD:D.dead=false→g.lv=D.left
 lvB:g.lv≤9223372036854775807
 capB:D.cap≤9223372036854775807
 mostB:D.most≤9223372036854775807
 rm:g.ρ g.mb= .dirs
 hm:Mp H Str ptr g.mb g.dm
 dirs:∀p db,mget g.dm p=some db→∃nb sb k sv nm sm,DirO g.ρ g.fb H D p db nb sb k sv nm sm
 abs:∀p,mget g.dm p=none→(∀q,dirP q=p→mget D.now q=none∧mget D.stays q=none)∧D.chgs p=[]
 len:g.fb.length=D.fs.length
 fil:∀i,i<D.fs.length→∃nv sv wv k l,FilO g.ρ H i (g.fb.getD i 0) (fget D.fs i) nv sv wv k l
 ids:(∀p i,mget D.now p=some i→i<D.fs.length)∧(∀p i,mget D.stays p=some i→i<D.fs.length)∧(∀c∈D.log,∀i,c.f=some i→i<D.fs.length)
 dml:g.dm.length≤D.ops
variable {K K' : List Nat} {g : Gh} {ks : List Nat}
theorem PDk.bk(h:PDk K g H b D):BK K H.size:=fun k hk=>by
 rcases Nat.eq_zero_or_pos k with e|this
 ·omega
 ·have h2:=h.lt (k-1) ((h.hK (k-1)).1 (by rw[Nat.sub_add_cancel this];exact hk))
  omega
theorem PDk.up(h:PDk K g H b D)(s:Mo S H H')(hS:∀c,S c→g.ρ c= .out):PDk K g H' b D where
 hK:=h.hK
 lt:=fun c e=>Nat.lt_of_lt_of_le (h.lt c e) s.size
 rb:=h.rb
 vb:=h.vb.up s (fun e=>by have:=hS _ e;rw[h.rb]at this;cases this)
 lvD:=h.lvD
 lvB:=h.lvB
 capB:=h.capB
 mostB:=h.mostB
 rm:=h.rm
 hm:=h.hm.up s (fun e=>by have:=hS _ e;rw[h.rm]at this;cases this)
 dirs:=fun p db e=>by
  obtain⟨nb,sb,k,sv,nm,sm,hd⟩:=h.dirs p db e;exact⟨nb,sb,k,sv,nm,sm,hd.tr (Ext.refl _) s (fun c hc=>by rw[hS c hc];simp) (fun _ _=>rfl) (fun _ _=>rfl) rfl⟩
 abs:=h.abs
 len:=h.len
 fil:=fun i hi=>by
  obtain⟨nv,sv,wv,k,l,hf⟩:=h.fil i hi;exact⟨nv,sv,wv,k,l,hf.tr (Ext.refl _) s (fun c hc=>by rw[hS c hc];simp)⟩
 ids:=h.ids
 dml:=h.dml
theorem PDk.nw(h:PDk K g H b D)(s:Nw H H'):PDk K g H' b D:=h.up s (fun c e=>e.elim)
theorem PDk.role(h:PDk K g H b D){c:Nat}(hc:c+1∉K):g.ρ c= .out:=Classical.byContradiction (fun e=>hc ((h.hK c).2 e))
theorem PDk.upL(h:PDk K g H b D)(s:Mo (Ms ks) H H')(d:DKL K ks):PDk K g H' b D:=h.up s (fun c e=>h.role (fun hk=>d (c+1) hk (c+1) e c rfl rfl))
theorem PDk.mem(h:PDk K g H b D){c:Nat}{r:Role}(e:g.ρ c=r)(hr:r≠ .out):c+1∈K:=(h.hK c).2 (by rw[e];exact hr)
theorem PDk.km{r:Role}(h:PDk K g H b D)(hk:∀c,c+1=k→g.ρ c=r)(hr:r≠ .out):KM K k:=fun c e=>h.mem (hk c e) hr
theorem PDk.km1{c:Nat}{r:Role}(h:PDk K g H b D)(e:g.ρ c=r)(hr:r≠ .out):KM K (c+1):=KM.of (h.mem e hr)
theorem PDk.ms(h:PDk K g H b D)(s:Mo S H H')(hS:∀c,S c→g.ρ c≠ .out):Mo (Ms K) H H':=s.weaken (fun c _ e=>(h.hK c).2 (hS c e))
theorem PDk.setFs{g':Gh}(h:PDk K g H b D)(s:Mo (Ms [b+1]) H H')(hg:g'.ρ=g.ρ∧g'.fb=g.fb∧g'.mb=g.mb∧g'.dm=g.dm)
 (hv:Var 73 H' b [.int .i64 D.cap,.int .i64 D.most,.map (some g.mb),.int .i64 D'.ops,.int .i64 g'.lv,.bool D'.dead]) (hl:D'.dead=false→g'.lv=D'.left) (hlb:g'.lv≤9223372036854775807)
 (hD:D'.cap=D.cap∧D'.most=D.most∧D'.fs=D.fs∧D'.now=D.now∧D'.stays=D.stays∧D'.log=D.log) (ho:D.ops≤D'.ops):PDk K g' H' b D':=by
 obtain⟨r,fb,mb,dm,lv⟩:=g';obtain⟨rfl,rfl,rfl,rfl⟩:=hg;obtain⟨cap,most,fs,now,stays,log,ops,left,dead⟩:=D';obtain⟨rfl,rfl,rfl,rfl,rfl,rfl⟩:=hD
 have hS:∀c,Ms [b+1] c→g.ρ c= .fs:=fun c e=>by
  have:c=b:=by simpa[Ms]using e
  rw[this];exact h.rb
 exact{
  hK:=h.hK,lt:=fun c e=>Nat.lt_of_lt_of_le (h.lt c e) s.size,rb:=h.rb,vb:=hv,lvD:=hl,lvB:=hlb,capB:=h.capB,mostB:=h.mostB,rm:=h.rm
  hm:=h.hm.up s (fun e=>by have:=hS _ e;rw[h.rm]at this;cases this)
  dirs:=fun p db e=>by
   obtain⟨nb,sb,k,sv,nm,sm,hd⟩:=h.dirs p db e;exact⟨nb,sb,k,sv,nm,sm,hd.tr (Ext.refl _) s (fun c hc=>by rw[hS c hc];simp) (fun _ _=>rfl) (fun _ _=>rfl) rfl⟩
  abs:=h.abs,len:=h.len
  fil:=fun i hi=>by
   obtain⟨nv,sv,wv,k,l,hf⟩:=h.fil i hi;exact⟨nv,sv,wv,k,l,hf.tr (Ext.refl _) s (fun c hc=>by rw[hS c hc];simp)⟩
  ids:=h.ids,dml:=Nat.le_trans h.dml ho}
theorem PDk.setDir(h:PDk K g H b D)(s:Mo S H H')(hS:∀c,S c→g.ρ c= .dir p∨g.ρ c= .now p∨g.ρ c= .sty p∨g.ρ c= .chg p∨g.ρ c= .out)(hx:Ext g.ρ ρ')(hK:∀c,c+1∈K'↔ρ' c≠ .out)(lt:∀c,ρ' c≠ .out→c<H'.size)
 (hp:mget g.dm p=some db) (hd:∃nb sb k sv nm sm,DirO ρ' g.fb H' D' p db nb sb k sv nm sm)
 (hD:D'.cap=D.cap∧D'.most=D.most∧D'.fs=D.fs∧D'.ops=D.ops∧D'.left=D.left∧D'.dead=D.dead)
 (hn:∀q,dirP q≠p→mget D'.now q=mget D.now q) (hs:∀q,dirP q≠p→mget D'.stays q=mget D.stays q) (hc:∀n,n≠p→D'.chgs n=D.chgs n)
 (ids:(∀p i,mget D'.now p=some i→i<D'.fs.length)∧(∀p i,mget D'.stays p=some i→i<D'.fs.length)∧(∀c∈D'.log,∀i,c.f=some i→i<D'.fs.length)):PDk K' {g with ρ:=ρ'} H' b D':=by
 obtain⟨cap,most,fs,now,stays,log,ops,left,dead⟩:=D';obtain⟨rfl,rfl,rfl,rfl,rfl,rfl⟩:=hD
 exact{
  hK:=hK,lt:=lt,rb:=hx.of h.rb (by simp)
  vb:=h.vb.up s (fun e=>by have:=hS _ e;rw[h.rb]at this;simp at this)
  lvD:=h.lvD,lvB:=h.lvB,capB:=h.capB,mostB:=h.mostB,rm:=hx.of h.rm (by simp)
  hm:=h.hm.up s (fun e=>by have:=hS _ e;rw[h.rm]at this;simp at this)
  dirs:=fun q db2 e=>by
   by_cases hq:q=p
   ·subst hq
    have:db2=db:=Option.some.inj (e.symm.trans hp);subst this;exact hd
   ·obtain⟨nb,sb,k,sv,nm,sm,hd⟩:=h.dirs q db2 e
    refine⟨nb,sb,k,sv,nm,sm,hd.tr hx s (fun c hc=>?_) (fun r hr=>hn r (by rw[hr];exact hq)) (fun r hr=>hs r (by rw[hr];exact hq)) (hc q hq)⟩;rcases hS c hc with e|e|e|e|e<;>(rw[e];simp[Ne.symm hq])
  abs:=fun q e=>by
   have hq:q≠p:=fun e2=>by subst e2;rw[hp]at e;cases e
   obtain⟨h1,h2⟩:=h.abs q e;exact⟨fun r hr=>by rw[hn r (by rw[hr];exact hq),hs r (by rw[hr];exact hq)];exact h1 r hr,by rw[hc q hq];exact h2⟩
  len:=h.len
  fil:=fun i hi=>by
   obtain⟨nv,sv,wv,k,l,hf⟩:=h.fil i hi;refine⟨nv,sv,wv,k,l,hf.tr hx s (fun c hc=>?_)⟩;rcases hS c hc with e|e|e|e|e<;>(rw[e];simp)
  ids:=ids,dml:=h.dml}
theorem PDk.setFil{y:Fdt}(h:PDk K g H b D)(hi:i<D.fs.length)(s:Mo S H H')(hS:∀c,S c→g.ρ c= .fil i∨g.ρ c= .wrs i∨g.ρ c= .out)(hx:Ext g.ρ ρ')(hK:∀c,c+1∈K'↔ρ' c≠ .out)(lt:∀c,ρ' c≠ .out→c<H'.size)
 (hf:∃nv sv wv k l,FilO ρ' H' i (g.fb.getD i 0) y nv sv wv k l):PDk K' {g with ρ:=ρ'} H' b (D.putF i y):=by
 have hfl:(D.putF i y).fs.length=D.fs.length:=by simp[Dk.putF]
 exact{
  hK:=hK,lt:=lt,rb:=hx.of h.rb (by simp)
  vb:=h.vb.up s (fun e=>by have:=hS _ e;rw[h.rb]at this;simp at this)
  lvD:=h.lvD,lvB:=h.lvB,capB:=h.capB,mostB:=h.mostB,rm:=hx.of h.rm (by simp)
  hm:=h.hm.up s (fun e=>by have:=hS _ e;rw[h.rm]at this;simp at this)
  dirs:=fun q db2 e=>by
   obtain⟨nb,sb,k,sv,nm,sm,hd⟩:=h.dirs q db2 e;refine⟨nb,sb,k,sv,nm,sm,hd.tr hx s (fun c hc=>?_) (fun _ _=>rfl) (fun _ _=>rfl) rfl⟩;rcases hS c hc with e|e|e<;>(rw[e];simp)
  abs:=h.abs,len:=by rw[hfl];exact h.len
  fil:=fun j hj=>by
   rw[hfl]at hj;by_cases hji:j=i
   ·subst hji
    have e:fget (D.putF j y).fs j=y:=by simp[fget,Dk.putF,List.getD,hi]
    rw[e];exact hf
   ·have e:fget (D.putF i y).fs j=fget D.fs j:=by simp[fget,Dk.putF,List.getD,List.getElem?_set,Ne.symm hji]
    rw[e];obtain⟨nv,sv,wv,k,l,hf⟩:=h.fil j hj;refine⟨nv,sv,wv,k,l,hf.tr hx s (fun c hc=>?_)⟩;rcases hS c hc with e|e|e<;>(rw[e];simp[Ne.symm hji])
  ids:=by rw[hfl];exact h.ids
  dml:=h.dml}
def upr(ρ:Nat→Role)(x:Nat)(r:Role):Nat→Role:=fun c=>if c=x then r else ρ c
theorem upr_self{x:Nat}{r:Role}:upr ρ x r x=r:=if_pos rfl
theorem upr_ne{x c:Nat}{r:Role}(h:c≠x):upr ρ x r c=ρ c:=if_neg h
theorem Ext.upr{x:Nat}{r:Role}(h:ρ x= .out):Ext ρ (upr ρ x r):=fun c hc=>by
 by_cases e:c=x
 ·subst e;exact absurd h hc
 ·exact upr_ne e
theorem Ext.trans{ρ2:Nat→Role}(h:Ext ρ ρ')(h2:Ext ρ' ρ2):Ext ρ ρ2:=fun c hc=>by
 have e:=h c hc;rw[h2 c (by rw[e];exact hc),e]
theorem hK_upr{x:Nat}{r:Role}(hK:∀c,c+1∈K↔ρ c≠ .out)(hr:r≠ .out):∀c,c+1∈(x+1)::K↔upr ρ x r c≠ .out:=fun c=>by
 unfold upr;rw[List.mem_cons];by_cases e:c=x
 ·rw[if_pos e];simp[e,hr]
 ·rw[if_neg e,←hK]
  constructor
  ·rintro(h|h)
   ·omega
   ·exact h
  ·exact .inr
theorem lt_upr{x:Nat}{r:Role}(lt:∀c,ρ c≠ .out→c<H.size)(hs:H.size≤H'.size)(hx:x<H'.size):∀c,upr ρ x r c≠ .out→c<H'.size:=fun c hc=>by
 unfold upr at hc;split at hc
 ·rename_i e;rw[e];exact hx
 ·exact Nat.lt_of_lt_of_le (lt c hc) hs
def uprk(ρ:Nat→Role)(k:Nat)(r:Role):Nat→Role:=fun c=>if c+1=k then r else ρ c
theorem uprk_self{c:Nat}{r:Role}(h:c+1=k):uprk ρ k r c=r:=if_pos h
theorem uprk_ne{c:Nat}{r:Role}(h:c+1≠k):uprk ρ k r c=ρ c:=if_neg h
theorem Ext.uprk{r:Role}(h:∀c,c+1=k→ρ c= .out∨ρ c=r):Ext ρ (uprk ρ k r):=fun c hc=>by
 unfold SimC.uprk;split
 ·rename_i e;rcases h c e with e2|e2
  ·exact absurd e2 hc
  ·exact e2.symm
 ·rfl
theorem hK_uprk{r:Role}(hK:∀c,c+1∈K↔ρ c≠ .out)(hr:r≠ .out):∀c,c+1∈k::K↔uprk ρ k r c≠ .out:=fun c=>by
 unfold uprk;rw[List.mem_cons];by_cases e:c+1=k
 ·rw[if_pos e];simp[e,hr]
 ·rw[if_neg e,←hK];simp[e]
theorem lt_uprk{r:Role}(lt:∀c,ρ c≠ .out→c<H.size)(hs:H.size≤H'.size)(hx:k≤H'.size):∀c,uprk ρ k r c≠ .out→c<H'.size:=fun c hc=>by
 unfold uprk at hc;split at hc
 ·omega
 ·exact Nat.lt_of_lt_of_le (lt c hc) hs
theorem PDk.newk(h:PDk K g H b D)(hk:DL k K):∀c,c+1=k→g.ρ c= .out:=fun c e=>h.role (fun hm=>hk (c+1) hm c e rfl)
theorem PDk.nxk{k2:Nat}(h:PDk K g H b D)(hk:Nx k H.size k2){r:Role}(hr:∀c,c+1=k→g.ρ c=r):∀c,c+1=k2→g.ρ c= .out∨g.ρ c=r:=fun c e=>by
 rcases hk with e2|e2|e2
 ·omega
 ·exact .inr (hr c (by omega))
 ·exact .inl (Classical.byContradiction (fun hq=>by have:=h.lt c hq;omega))
theorem PDk.newFil{x:Nat}(h:PDk K g H b D)(hv:Var 112 H x [.slice none 0 0,.slice none 0 0,.slice none 0 0])(hx:DL (x+1) K):
 PDk ((x+1)::K) {g with ρ:=upr g.ρ x (.fil D.fs.length),fb:=g.fb++[x]} H b {D with fs:=D.fs++[⟨[],[],[]⟩]}:=by
 have ho:g.ρ x= .out:=h.role (fun hk=>hx (x+1) hk x rfl rfl);have he:Ext g.ρ (upr g.ρ x (.fil D.fs.length)):=Ext.upr ho;have hg:∀i,i<D.fs.length→(g.fb++[x]).getD i 0=g.fb.getD i 0:=fun i hi=>by simp[List.getD,List.getElem?_append_left (show i<g.fb.length by rw[h.len];exact hi)]
 have hS:∀c,(fun _=>False) c→g.ρ c= .out:=fun _ e=>e.elim
 exact{
  hK:=hK_upr h.hK (by simp),lt:=lt_upr h.lt (Nat.le_refl _) hv.lt,rb:=he.of h.rb (by simp),vb:=h.vb
  lvD:=h.lvD,lvB:=h.lvB,capB:=h.capB,mostB:=h.mostB,rm:=he.of h.rm (by simp),hm:=h.hm
  dirs:=fun q db2 e=>by
   obtain⟨nb,sb,k,sv,nm,sm,hd⟩:=h.dirs q db2 e;have hd2:=hd.tr (D':=D) he (Mo.refl (fun _=>False) H) (fun c hc=>hc.elim) (fun _ _=>rfl) (fun _ _=>rfl) rfl;refine⟨nb,sb,k,sv,nm,sm,{hd2 with hn:=mp_congr hd2.hn (fun y hy=>?_),hs:=mp_congr hd2.hs (fun y hy=>?_),hc:=ow_congr hd2.hc (fC_len _) (fC_one _) (fun c hc=>?_)}⟩
   ·have:=h.ids.1 y.1 y.2 (by
     have e2:=mget_of_mem hd.hn.mo.nodup (show(y.1,y.2)∈nm from hy);rw[hd.en]at e2;split at e2
     ·exact e2
     ·cases e2)
    rw[fvl,fvl,hg _ this]
   ·have:=h.ids.2.1 y.1 y.2 (by
     have e2:=mget_of_mem hd.hs.mo.nodup (show(y.1,y.2)∈sm from hy);rw[hd.es]at e2;split at e2
     ·exact e2
     ·cases e2)
    rw[fvl,fvl,hg _ this]
   ·have:=h.ids.2.2 c (List.mem_filter.1 hc).1
    unfold fC fpt
    cases hcf:c.f with
    |none=>rfl
    |some i=>simp only[Option.map_some];rw[hg i (this i hcf)]
  abs:=h.abs
  len:=by simp[h.len]
  fil:=fun j hj=>by
   by_cases hj2:j<D.fs.length
   ·obtain⟨nv,sv,wv,k,l,hf⟩:=h.fil j hj2
    have e:fget (D.fs++[⟨[],[],[]⟩]) j=fget D.fs j:=by simp[fget,List.getD,List.getElem?_append_left hj2]
    rw[hg j hj2];refine⟨nv,sv,wv,k,l,?_⟩;show FilO _ H j _ (fget (D.fs++[⟨[],[],[]⟩]) j) _ _ _ _ _;rw[e];exact hf.tr he (Mo.refl (fun _=>False) H) (fun c hc=>hc.elim)
   ·have hj3:j=D.fs.length:=by simp at hj;omega
    subst hj3;have e:fget (D.fs++[⟨[],[],[]⟩]) D.fs.length=⟨[],[],[]⟩:=by simp[fget,List.getD]
    have e2:(g.fb++[x]).getD D.fs.length 0=x:=by rw[←h.len];simp[List.getD]
    refine⟨⟨none,0,0⟩,⟨none,0,0⟩,⟨none,0,0⟩,0,[],?_⟩;show FilO _ H _ ((g.fb++[x]).getD D.fs.length 0) (fget (D.fs++[⟨[],[],[]⟩]) D.fs.length) _ _ _ _ _;rw[e,e2];exact{rf:=upr_self,vf:=hv,hn:=Rd.nil _ _ _ _,hs:=Rd.nil _ _ _ _,hw:=Ow.nil fW_len fW_one,lw:=rfl,hd:=fun y hy=>(by cases hy),rk:=fun c e=>(by omega)}
  ids:=by
   have hl:({D with fs:=D.fs++[⟨[],[],[]⟩]}:Dk).fs.length=D.fs.length+1:=by simp
   rw[hl];exact⟨fun p i e=>Nat.lt_succ_of_lt (h.ids.1 p i e),fun p i e=>Nat.lt_succ_of_lt (h.ids.2.1 p i e),fun c hc i e=>Nat.lt_succ_of_lt (h.ids.2.2 c hc i e)⟩
  dml:=h.dml}
theorem PDk.newDir{db nb sb:Nat}(h:PDk K g H b D)(hp:mget g.dm p=none)(hvd:Var 99 H db [.map (some nb),.map (some sb),.slice none 0 0])(hn:Mp H Str (fvl g.fb) nb ([]:Nms))(hs:Mp H Str (fvl g.fb) sb ([]:Nms))
 (hxd:DL (db+1) K) (hxn:DL (nb+1) K) (hxs:DL (sb+1) K) (hdn:db≠nb) (hds:db≠sb) (hns:nb≠sb) (s:Mo (Ms [g.mb+1]) H H') (hm:Mp H' Str ptr g.mb (mput g.dm p db)) (hl:g.dm.length+1≤D.ops):
 PDk ((db+1)::(sb+1)::(nb+1)::K) {g with ρ:=upr (upr (upr g.ρ nb (.now p)) sb (.sty p)) db (.dir p),dm:=mput g.dm p db} H' b D:=by
 have on:g.ρ nb= .out:=h.role (fun hk=>hxn (nb+1) hk nb rfl rfl);have os:g.ρ sb= .out:=h.role (fun hk=>hxs (sb+1) hk sb rfl rfl);have od:g.ρ db= .out:=h.role (fun hk=>hxd (db+1) hk db rfl rfl)
 have he:Ext g.ρ (upr (upr (upr g.ρ nb (.now p)) sb (.sty p)) db (.dir p)):=by
  refine(Ext.upr on).trans ((Ext.upr ?_).trans (Ext.upr ?_))
  ·rw[upr_ne (Ne.symm hns)];exact os
  ·rw[upr_ne hds,upr_ne hdn];exact od
 have hS:∀c,Ms [g.mb+1] c→g.ρ c= .dirs:=fun c e=>by
  have:c=g.mb:=by simpa[Ms]using e
  rw[this];exact h.rm
 have hlt:∀c,g.ρ c= .out→c≠g.mb:=fun c e e2=>by rw[e2,h.rm]at e;cases e
 obtain⟨ab1,ab2⟩:=h.abs p hp
 exact{
  hK:=hK_upr (hK_upr (hK_upr h.hK (by simp)) (by simp)) (by simp)
  lt:=lt_upr (lt_upr (lt_upr h.lt (Nat.le_refl _) hn.lt) (Nat.le_refl _) hs.lt) s.size (Nat.lt_of_lt_of_le hvd.lt s.size),rb:=he.of h.rb (by simp)
  vb:=h.vb.up s (fun e=>by have:=hS _ e;rw[h.rb]at this;simp at this)
  lvD:=h.lvD,lvB:=h.lvB,capB:=h.capB,mostB:=h.mostB,rm:=he.of h.rm (by simp),hm:=hm
  dirs:=fun q db2 e=>by
   rw[mget_put]at e;by_cases hq:q=p
   ·rw[if_pos hq]at e
    have e:=Option.some.inj e;subst e;subst hq;refine⟨nb,sb,0,⟨none,0,0⟩,[],[],?_⟩;have hup:∀c,g.ρ c= .out→¬Ms [g.mb+1] c:=fun c e e2=>by have:=hS c e2;rw[e]at this;cases this
    exact{rd:=upr_self,vd:=hvd.up s (hup _ od),rn:=by show upr (upr (upr g.ρ nb _) sb _) db _ nb=_;rw[upr_ne (Ne.symm hdn),upr_ne hns,upr_self],hn:=hn.up s (hup _ on),rs:=by show upr (upr (upr g.ρ nb _) sb _) db _ sb=_;rw[upr_ne (Ne.symm hds),upr_self],hs:=hs.up s (hup _ os)
          en:=fun r=>by
           rw[mget];split
           ·rename_i hr;rw[(ab1 r hr).1]
           ·rfl
          es:=fun r=>by
           rw[mget];split
           ·rename_i hr;rw[(ab1 r hr).2]
           ·rfl
          hc:=by rw[ab2];exact Ow.nil (fC_len _) (fC_one _),rc:=fun c e=>(by omega)}
   ·rw[if_neg hq]at e
    obtain⟨nb,sb,k,sv,nm,sm,hd⟩:=h.dirs q db2 e;exact⟨nb,sb,k,sv,nm,sm,hd.tr he s (fun c hc=>by rw[hS c hc];simp) (fun _ _=>rfl) (fun _ _=>rfl) rfl⟩
  abs:=fun q e=>by
   rw[mget_put]at e;by_cases hq:q=p
   ·rw[if_pos hq]at e;cases e
   ·rw[if_neg hq]at e;exact h.abs q e
  len:=h.len
  fil:=fun i hi=>by
   obtain⟨nv,sv,wv,k,l,hf⟩:=h.fil i hi;exact⟨nv,sv,wv,k,l,hf.tr he s (fun c hc=>by rw[hS c hc];simp)⟩
  ids:=h.ids
  dml:=by
   have:(mput g.dm p db).length=g.dm.length+1:=by simp[mput,hp]
   show(mput g.dm p db).length≤_;omega}
theorem PDk.put{c:Chg}{m':Nms}(h:PDk K g H b D)(hp:mget g.dm p=some db)(hd:DirO g.ρ g.fb H D p db nb sb k sv nm sm)(s:Mo (Ms [nb+1]) H H')(hm:Mp H' Str (fvl g.fb) nb m')(hm':∀q,mget m' q=c.at q (mget nm q))
 (hcn:∀i,c.f=some i→dirP c.n=p∧i<D.fs.length) (hcg:c.g≠[]→dirP c.g=p):PDk K g H' b {D with now:=c.ap D.now}∧Mo (Ms K) H H':=by
 have hS:∀x,Ms [nb+1] x→g.ρ x= .now p:=fun x e=>by
  have:x=nb:=by simpa[Ms]using e
  rw[this];exact hd.rn
 have hat:∀q o,dirP q≠p→c.at q o=o:=fun q o hq=>by
  unfold Chg.at
  cases hcf:c.f with
  |none=>
   simp only
   rw[if_neg (fun e=>hq (by rw[e.2];exact hcg e.1))]
  |some i=>
   simp only;rw[if_neg (fun e=>hq (by rw[e];exact(hcn i hcf).1)),if_neg (fun e=>hq (by rw[e.2];exact hcg e.1))]
 refine⟨?_,h.ms s (fun x e=>by rw[hS x e];simp)⟩;have hup:∀x,g.ρ x≠ .now p→¬Ms [nb+1] x:=fun x hx e=>hx (hS x e);refine h.setDir (ρ':=g.ρ) s (fun x e=> .inr (.inl (hS x e))) (Ext.refl _) h.hK (fun x e=>Nat.lt_of_lt_of_le (h.lt x e) s.size) hp ⟨nb,sb,k,sv,m',sm,?_⟩ ⟨rfl,rfl,rfl,rfl,rfl,rfl⟩ (fun q hq=>?_) (fun q hq=>rfl) (fun n hn=>rfl) ⟨fun q i e=>?_,h.ids.2.1,h.ids.2.2⟩
 ·exact{rd:=hd.rd,vd:=hd.vd.up s (hup _ (by rw[hd.rd];simp)),rn:=hd.rn,hn:=hm,rs:=hd.rs,hs:=hd.hs.up s (hup _ (by rw[hd.rs];simp))
        en:=fun q=>by
         show _=if dirP q=p then mget (c.ap D.now) q else none;rw[hm',hd.en,mget_ap];split
         ·rfl
         ·rename_i hq;exact hat q none hq
        es:=hd.es,hc:=hd.hc.up s (fun x _ e=>hup x (by rw[hd.rc x e];simp)),rc:=hd.rc}
 ·show mget (c.ap D.now) q=mget D.now q
  rw[mget_ap];exact hat q _ hq
 ·have e:mget (c.ap D.now) q=some i:=e
  rw[mget_ap]at e;unfold Chg.at at e
  cases hcf:c.f with
  |none=>
   rw[hcf]at e;simp only at e;split at e
   ·cases e
   ·exact h.ids.1 q i e
  |some j=>
   rw[hcf]at e;simp only at e;split at e
   ·cases e;exact(hcn _ hcf).2
   ·split at e
    ·cases e
    ·exact h.ids.1 q i e
theorem PDk.note{c:Chg}{k2:Nat}{sv2:SV}(h:PDk K g H b D)(hp:mget g.dm p=some db)(hd:DirO g.ρ g.fb H D p db nb sb k sv nm sm)(s:Mo (Ms [db+1,k]) H H')(hv:Var 99 H' db [.map (some nb),.map (some sb),sv2.v])(hc:Ow k2 103 H' (fC g.fb) 3 sv2.v (D.chgs p++[c]))(hk:Nx k H.size k2)
 (hcd:c.dir=p) (hcf:∀i,c.f=some i→i<D.fs.length):PDk (k2::K) {g with ρ:=uprk g.ρ k2 (.chg p)} H' b {D with log:=D.log++[c]}:=by
 have hS:∀x,Ms [db+1,k] x→g.ρ x= .dir p∨g.ρ x= .chg p:=fun x e=>by
  have:x+1=db+1∨x+1=k:=by simpa[Ms]using e
  rcases this with e|e
  ·exact .inl (by rw[show x=db by omega];exact hd.rd)
  ·exact .inr (hd.rc x e)
 have hx:Ext g.ρ (uprk g.ρ k2 (.chg p)):=Ext.uprk (h.nxk hk hd.rc);have hup:∀x,g.ρ x≠ .dir p→g.ρ x≠ .chg p→¬Ms [db+1,k] x:=fun x h1 h2 e=>(hS x e).elim h1 h2;have hch:({D with log:=D.log++[c]}:Dk).chgs p=D.chgs p++[c]:=by simp[Dk.chgs,hcd]
 refine h.setDir s (fun x e=>(hS x e).elim .inl (fun e=> .inr (.inr (.inr (.inl e))))) hx (hK_uprk h.hK (by simp)) (lt_uprk h.lt s.size hc.le) hp ⟨nb,sb,k2,sv2,nm,sm,?_⟩ ⟨rfl,rfl,rfl,rfl,rfl,rfl⟩ (fun q hq=>rfl) (fun q hq=>rfl) (fun n hn=>?_) ⟨h.ids.1,h.ids.2.1,fun x hxm i e=>?_⟩
 ·exact{rd:=hx.of hd.rd (by simp),vd:=hv,rn:=hx.of hd.rn (by simp),hn:=hd.hn.up s (hup _ (by rw[hd.rn];simp) (by rw[hd.rn];simp)),rs:=hx.of hd.rs (by simp),hs:=hd.hs.up s (hup _ (by rw[hd.rs];simp) (by rw[hd.rs];simp))
        en:=hd.en,es:=hd.es,hc:=by rw[hch];exact hc,rc:=fun x e=>uprk_self e}
 ·simp[Dk.chgs,hcd,Ne.symm hn]
 ·rcases List.mem_append.1 hxm with hm|hm
  ·exact h.ids.2.2 x hm i e
  ·rw[List.mem_singleton.1 hm]at e;exact hcf i e
theorem PDk.fnow{nw:List UInt8}{kn:Nat}{nv2:SV}{bi:Nat}(h:PDk K g H b D)(hi:i<D.fs.length)(hf:FilO g.ρ H i (g.fb.getD i 0) (fget D.fs i) nv sv wv k l)(e:g.fb.getD i 0=bi)(s:Mo (Ms [bi+1]) H H')(hv:Var 112 H' bi [nv2.v,sv.v,wv.v])(hn:Ow kn 5 H' fB 1 nv2.v nw)(hk:DL kn K):
 PDk (kn::K) {g with ρ:=uprk g.ρ kn .frz} H' b (D.putF i ⟨nw,(fget D.fs i).stays,(fget D.fs i).w⟩):=by
 subst e
 have hS:∀x,Ms [g.fb.getD i 0+1] x→g.ρ x= .fil i:=fun x e=>by
  have:x=g.fb.getD i 0:=by simpa[Ms]using e
  rw[this];exact hf.rf
 have hx:Ext g.ρ (uprk g.ρ kn .frz):=Ext.uprk (fun c e=> .inl (h.newk hk c e));have hfz:∀c,Ms [g.fb.getD i 0+1] c→g.ρ c≠ .frz:=fun c e=>by rw[hS c e];simp
 refine h.setFil hi s (fun x e=> .inl (hS x e)) hx (hK_uprk h.hK (by simp)) (lt_uprk h.lt s.size hn.le) ⟨nv2,sv,wv,k,l,?_⟩
 exact{rf:=hx.of hf.rf (by simp),vf:=hv,hn:=hn.rd.imp (fun c _ e=>uprk_self e),hs:=rd_frz hf.hs hx s hfz
       hw:=hf.hw.up s (fun c _ e hc=>by have:=hS c hc;rw[hf.rk c e]at this;cases this),lw:=hf.lw,hd:=fun y hy=>rd_frz (hf.hd y hy) hx s hfz,rk:=fun c e=>hx.of (hf.rk c e) (by simp)}
theorem PDk.fwr{w:Wr}{sd wv2:SV}{kd k2 bi:Nat}(h:PDk K g H b D)(hi:i<D.fs.length)(hf:FilO g.ρ H i (g.fb.getD i 0) (fget D.fs i) nv sv wv k l)(e:g.fb.getD i 0=bi)(s:Mo (Ms [bi+1,k]) H H')(hv:Var 112 H' bi [nv.v,sv.v,wv2.v])(hw:Ow k2 149 H' fW 2 wv2.v (l++[(w,sd)]))(hk2:Nx k H.size k2)
 (hd:Ow kd 5 H' fB 1 sd.v w.d) (hk:DL kd (k2::K)):
 PDk (kd::k2::K) {g with ρ:=uprk (uprk g.ρ k2 (.wrs i)) kd .frz} H' b (D.putF i ⟨(fget D.fs i).now,(fget D.fs i).stays,(fget D.fs i).w++[w]⟩):=by
 subst e
 have hS:∀x,Ms [g.fb.getD i 0+1,k] x→g.ρ x= .fil i∨g.ρ x= .wrs i:=fun x e=>by
  have:x+1=g.fb.getD i 0+1∨x+1=k:=by simpa[Ms]using e
  rcases this with e|e
  ·exact .inl (by rw[show x=g.fb.getD i 0 by omega];exact hf.rf)
  ·exact .inr (hf.rk x e)
 have hx1:Ext g.ρ (uprk g.ρ k2 (.wrs i)):=Ext.uprk (h.nxk hk2 hf.rk)
 have hkd:∀c,c+1=kd→c+1≠k2∧g.ρ c= .out:=fun c e=>by
  have h1:c+1≠k2:=fun e2=>hk k2 List.mem_cons_self c e e2;exact⟨h1,h.newk (fun k hk2=>hk k (List.mem_cons_of_mem _ hk2)) c e⟩
 have hx2:Ext (uprk g.ρ k2 (.wrs i)) (uprk (uprk g.ρ k2 (.wrs i)) kd .frz):=Ext.uprk (fun c e=> .inl (by rw[uprk_ne (hkd c e).1];exact(hkd c e).2));have hx:=hx1.trans hx2;have hfz:∀c,Ms [g.fb.getD i 0+1,k] c→g.ρ c≠ .frz:=fun c e=>by rcases hS c e with e|e<;>(rw[e];simp)
 refine h.setFil hi s (fun x e=>(hS x e).elim .inl (fun e=> .inr (.inl e))) hx (hK_uprk (hK_uprk h.hK (by simp)) (by simp)) (lt_uprk (lt_uprk h.lt s.size hw.le) (Nat.le_refl _) hd.le) ⟨nv,sv,wv2,k2,l++[(w,sd)],?_⟩
 exact{rf:=hx.of hf.rf (by simp),vf:=hv,hn:=rd_frz hf.hn hx s hfz,hs:=rd_frz hf.hs hx s hfz,hw:=hw,lw:=by rw[List.map_append,hf.lw];rfl
       hd:=fun y hy=>by
        rcases List.mem_append.1 hy with hy|hy
        ·exact rd_frz (hf.hd y hy) hx s hfz
        ·rw[List.mem_singleton.1 hy];exact hd.rd.imp (fun c _ e=>uprk_self e)
       rk:=fun c e=>by rw[uprk_ne (fun e2=>(hkd c e2).1 e)];exact uprk_self e}
theorem PDk.fsync{bi:Nat}(h:PDk K g H b D)(hi:i<D.fs.length)(hf:FilO g.ρ H i (g.fb.getD i 0) (fget D.fs i) nv sv wv k l)(e:g.fb.getD i 0=bi)(s:Mo (Ms [bi+1]) H H')(hv:Var 112 H' bi [nv.v,nv.v,.slice none 0 0]):PDk K g H' b (D.syncF i):=by
 subst e
 have hS:∀x,Ms [g.fb.getD i 0+1] x→g.ρ x= .fil i:=fun x e=>by
  have:x=g.fb.getD i 0:=by simpa[Ms]using e
  rw[this];exact hf.rf
 have hfz:∀c,Ms [g.fb.getD i 0+1] c→g.ρ c≠ .frz:=fun c e=>by rw[hS c e];simp
 refine h.setFil (ρ':=g.ρ) hi s (fun x e=> .inl (hS x e)) (Ext.refl _) h.hK (fun c e=>Nat.lt_of_lt_of_le (h.lt c e) s.size) ⟨nv,nv,⟨none,0,0⟩,0,[],?_⟩;exact{rf:=hf.rf,vf:=hv,hn:=rd_frz hf.hn (Ext.refl _) s hfz,hs:=rd_frz hf.hn (Ext.refl _) s hfz,hw:=Ow.nil fW_len fW_one,lw:=rfl,hd:=fun y hy=>(by cases hy),rk:=fun c e=>(by omega)}
theorem PDk.flose{bl:List UInt8}{kn bi:Nat}{nv2:SV}(h:PDk K g H b D)(hi:i<D.fs.length)(hf:FilO g.ρ H i (g.fb.getD i 0) (fget D.fs i) nv sv wv k l)(e:g.fb.getD i 0=bi)(s:Mo (Ms [bi+1]) H H')(hv:Var 112 H' bi [nv2.v,nv2.v,.slice none 0 0])(hn:Qr kn H' fB 1 nv2.v bl)(hk:∀c,c+1=kn→g.ρ c= .frz∨g.ρ c= .out):
 PDk (kn::K) {g with ρ:=uprk g.ρ kn .frz} H' b (D.putF i ⟨bl,bl,[]⟩):=by
 subst e
 have hS:∀x,Ms [g.fb.getD i 0+1] x→g.ρ x= .fil i:=fun x e=>by
  have:x=g.fb.getD i 0:=by simpa[Ms]using e
  rw[this];exact hf.rf
 have hx:Ext g.ρ (uprk g.ρ kn .frz):=Ext.uprk (fun c e=>(hk c e).symm);have hr:Rd (fun c=>uprk g.ρ kn .frz c= .frz) H' fB 1 nv2.v bl:=hn.rd.imp (fun c _ e=>uprk_self e);refine h.setFil hi s (fun x e=> .inl (hS x e)) hx (hK_uprk h.hK (by simp)) (lt_uprk h.lt s.size hn.le) ⟨nv2,nv2,⟨none,0,0⟩,0,[],?_⟩;exact{rf:=hx.of hf.rf (by simp),vf:=hv,hn:=hr,hs:=hr,hw:=Ow.nil fW_len fW_one,lw:=rfl,hd:=fun y hy=>(by cases hy),rk:=fun c e=>(by omega)}
theorem FilO.atb{b0 bi:Nat}(h:FilO ρ H i b0 x nv sv wv k l)(e:b0=bi):Var 112 H bi [nv.v,sv.v,wv.v]:=e▸h.vf
theorem PDk.kmf{b0 bi:Nat}(h:PDk K g H b D)(hf:FilO g.ρ H i b0 x nv sv wv k l)(e:b0=bi):KM K (bi+1):=e▸h.km1 hf.rf (by simp)
theorem FilO.ne{b0 bi:Nat}(h:FilO ρ H i b0 x nv sv wv k l)(e:b0=bi):Dj (bi+1) k:=fun c h1 h2=>by
 have h3:=h.rk c h2;rw[show c=b0 by omega,h.rf]at h3;cases h3
theorem rd_q{α:Type}{F:Nat→Prop}{f:α→List Value}{sz:Nat}{v:Value}{l:List α}(h:Rd F H f sz v l):∃k,Qr k H f sz v l∧∀c,c+1=k→F c:=by
 obtain⟨a,cap,h1,h2,h3,h4⟩:=h.ex;by_cases hl:l=[]
 ·exact⟨0,⟨⟨a,cap,h1,h2,h3,fun h=>absurd hl h⟩,Nat.zero_le _⟩,fun c e=>(by omega)⟩
 ·obtain⟨ad,e1,e2,e3,e4,e5⟩:=h4 hl
  exact⟨ad.block+1,⟨⟨a,cap,h1,h2,h3,fun _=>⟨ad,e1,e2,rfl,e4,e5⟩⟩,e4⟩,fun c e=>by rw[show c=ad.block by omega];exact e3⟩
theorem PDk.dsync{s2:Nat}{sm2:Nms}(h:PDk K g H b D)(hA:Asc D.now)(hp:mget g.dm p=some db)(hd:DirO g.ρ g.fb H D p db nb sb k sv nm sm)(s:Mo (Ms [db+1]) H H')(hv:Var 99 H' db [.map (some nb),.map (some s2),.slice none 0 0])(hm:Mp H' Str (fvl g.fb) s2 sm2)(hm2:∀q,mget sm2 q=mget nm q)(hk:DL (s2+1) K):
 PDk ((s2+1)::K) {g with ρ:=uprk g.ρ (s2+1) (.sty p)} H' b (D.stayD p):=by
 have hS:∀x,Ms [db+1] x→g.ρ x= .dir p:=fun x e=>by
  have:x=db:=by simpa[Ms]using e
  rw[this];exact hd.rd
 have hx:Ext g.ρ (uprk g.ρ (s2+1) (.sty p)):=Ext.uprk (fun c e=> .inl (h.newk hk c e));have hup:∀x,g.ρ x≠ .dir p→¬Ms [db+1] x:=fun x hx e=>hx (hS x e);have hst:∀q,mget (D.stayD p).stays q=if dirP q=p then mget D.now q else mget D.stays q:=fun q=>mget_merge hA p q;refine h.setDir s (fun x e=> .inl (hS x e)) hx (hK_uprk h.hK (by simp)) (lt_uprk h.lt s.size hm.lt) hp ⟨nb,s2,0,⟨none,0,0⟩,nm,sm2,?_⟩ ⟨rfl,rfl,rfl,rfl,rfl,rfl⟩ (fun q hq=>rfl) (fun q hq=>by rw[hst,if_neg hq]) (fun n hn=>?_) ⟨h.ids.1,fun q i e=>?_,fun c hc i e=>h.ids.2.2 c (List.mem_filter.1 hc).1 i e⟩
 ·exact{rd:=hx.of hd.rd (by simp),vd:=hv,rn:=hx.of hd.rn (by simp),hn:=hd.hn.up s (hup _ (by rw[hd.rn];simp)),rs:=uprk_self rfl,hs:=hm,en:=hd.en
        es:=fun q=>by
         rw[hm2,hd.en,hst];split<;>rfl
        hc:=by
         have:(D.stayD p).chgs p=[]:=by unfold Dk.stayD Dk.chgs;rw[List.filter_filter,List.filter_eq_nil_iff];intro c _;simp
         rw[this];exact Ow.nil (fC_len _) (fC_one _)
        rc:=fun c e=>(by omega)}
 ·unfold Dk.stayD Dk.chgs
  rw[List.filter_filter];refine List.filter_congr (fun c _=>?_);by_cases e:c.dir=n
  ·simp[e,hn]
  ·simp[e]
 ·rw[hst]at e
  split at e
  ·exact h.ids.1 q i e
  ·exact h.ids.2.1 q i e
end
end SimC
end Go.Proofs.YtdliddjkacbggaaGreatDoor
