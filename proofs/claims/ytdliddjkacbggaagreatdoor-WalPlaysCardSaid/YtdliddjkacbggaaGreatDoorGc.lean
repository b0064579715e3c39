/-
  Contracts of functions of the program, and plain laws: put together of several texts.
-/
import Derived.Test.YtdliddjkacbggaaGreatDoorGb
import Derived.Test.YtdliddjkacbggaaGreatDoorGa
import Derived.Sort.Walk0
import Derived.RangeFuncLeaves
import Derived.RangeFuncRecord
import Derived.RangeFuncSeq
import Derived.Shelf.Vars
set_option linter.unusedVariables false
set_option linter.unusedSimpArgs false
set_option linter.unusedSectionVars false
set_option linter.defProp false
set_option maxHeartbeats 8000000
set_option maxRecDepth 20000
namespace Go.Proofs.YtdliddjkacbggaaGreatDoor

namespace SimD
open E Go.RowKit SimA SimB SimC
def Chg.apM(c:Chg)(m:Nms):Nms:=
 let m1:=if c.g=[]then m else mdel m c.g
 match c.f with
 |none=>m1
 |some i=>mput m1 c.n i
theorem mget_apM(c:Chg)(l:Nms)(q:Pth):mget (Chg.apM c l) q=c.at q (mget l q):=by
 unfold Chg.apM Chg.at
 cases c.f with
 |none=>
  simp only;by_cases hg:c.g=[]
  ·simp[hg]
  ·rw[if_neg hg,mget_del];simp[hg]
 |some i=>
  simp only;rw[mget_put];by_cases hg:c.g=[]
  ·simp[hg]
  ·rw[if_neg hg,mget_del];simp[hg]
theorem put_ct(fb:List Nat)(nb:Nat)(m:Nms)(c:Chg)(w0:World)(H0:Heap)
 (hm:Mp H0 Str (fvl fb) nb m):
 Ct Tryz.prog w0 39 #[.map (some nb),.agg (fC fb c).toArray] H0 (fun r H2=>(Mp H2 Str (fvl fb) nb (Chg.apM c m))∧Mo (Ms [(nb+1)]) H0 H2):=by
 refine Ct.enter (args:=[.map (some nb),.agg (fC fb c).toArray]) Tryz.func39 rfl rfl rfl ?_;intro Q0 hret;have hm0:Mo (Ms [(nb+1)]) H0 H0:=Mo.refl _ _;have aa:=Nx.refl (nb+1) H0.size;have ai:=hm.lt;refine CW.sr (fun ao=>?_);refine LR.z1 (Z.boxv rfl rfl) ?_;rintro v3 H3 ⟨rfl,vc,aj,az,ap⟩;have aq:H3.size=H0.size+1:=by rw[ap];simp
 have ar:Dj (nb+1) (H0.size+1):=Dj.new hm.lt;replace hm:=hm.nw aj;replace hm0:=hm0.trN aj;have aA:=aj.size;replace vc:Var 103 H3 H0.size (fC fb c):=vc;refine LR.nil (ao _ _ ?_)
 refine CW.cut (fun(m1:(Nms))=>[(0,.map (some nb)),(3,.pointer (some ⟨H0.size,0,none⟩))])
  (fun(m1:(Nms)) (H:Heap)=>(Mp H Str (fvl fb) nb m1)∧(m1=if c.g=[]then m else mdel m c.g)∧Mo (Ms [(nb+1)]) H3 H) (fun _ an _=>?_) ?_
 ·
  have af:Mo (Ms [(nb+1)]) H3 H3:=Mo.refl _ _;have ac:=Nx.refl (nb+1) H3.size;refine CW.sr (fun au=>?_);refine LR.v1 (Y.FA vc.pt rfl u'103 rfl s'9) ?_;refine LR.v1 (Y.load1 vc.pt rfl a'9 rfl) ?_;refine LR.v1 (Y.sneq rfl rfl rfl) (LR.nil (au _ _ ?_));refine CW.condp rfl (fun c6=>?_) (fun c6=>?_)
  ·
   refine CW.region ?_;refine LR.m1 ?_;refine LR.v1 (Y.FA vc.pt rfl u'103 rfl s'9) ?_;refine LR.v1 (Y.load1 vc.pt rfl a'9 rfl) ?_;refine LR.zn (Z.delS hm keyStr rfl u'94 Tryz.underlying9 rfl rfl) (Wd.u rfl) rfl (fun av aw ak=>?_);obtain⟨rfl,hm,ad⟩:=ak;replace ad:=ad.md1;replace af:=af.trL ad (MIL.o (MI.r ac));have aB:=ad.size;refine LR.nil ?_;refine QN.sub (an (mdel m c.g) _ ?_) ⟨rfl,rfl,trivial⟩;exact⟨hm,by rw[if_neg (by simpa using c6)],af⟩
  ·
   refine CW.skip ?_;refine QN.sub (an m _ ?_) ⟨rfl,rfl,trivial⟩;exact⟨hm,by rw[if_pos (by simpa using c6)],af⟩
 ·
  intro m1 al ag;obtain⟨hm,hm1,ab⟩:=ag;replace vc:=vc.upL ab (DL.o ar.symm);replace hm0:=hm0.trL ab (MIL.o (MI.r aa));refine CW.sr (fun ax=>?_);refine LR.v1 (Y.FA vc.pt rfl u'103 rfl s'101) ?_;refine LR.v1 (Y.load1 (vc.pt.drop 2) rfl a'101 rfl) ?_;refine LR.v1 (Y.pne rfl (by kernel_rfl) (by kernel_rfl) rfl rfl) (LR.nil (ax _ _ ?_));refine CW.cond rfl (fun ah=>?_) (fun ah=>?_)
  ·
   obtain⟨i,hci⟩:∃i,c.f=some i:=by
    cases hcf:c.f with
    |none=>rw[hcf]at ah;cases ah
    |some i=>exact⟨i,rfl⟩
   refine CW.region ?_;refine LR.m1 ?_;refine LR.v1 (Y.FA vc.pt rfl u'103 rfl s'9) ?_;refine LR.v1 (Y.load1 (vc.pt.drop 1) rfl a'9 rfl) ?_;refine LR.v1 (Y.FA vc.pt rfl u'103 rfl s'101) ?_;refine LR.v1 (Y.cast (v2:=fvl fb i) (Y.load1 (vc.pt.drop 2) rfl a'101 rfl) (by rw[hci];rfl)) ?_;refine LR.s1 (S.putMp (i) hm keyStr rfl u'94 Tryz.underlying9 rfl rfl rfl) fun ay am=>?_;obtain⟨hm,ae⟩:=am;replace ae:=ae.md1;replace hm0:=hm0.trL ae (MIL.o (MI.r aa));refine LR.nil ?_;refine hret .normal (.inl rfl) _ _ _ (res0 rfl) ?_;exact⟨by rw[Chg.apM,←hm1,hci];exact hm,hm0⟩
  ·
   refine CW.skip ?_;refine hret .normal (.inl rfl) _ _ _ (res0 rfl) ?_
   exact⟨by
    have h9:c.f=none:=by
     cases hcf:c.f with
     |none=>rfl
     |some i=>rw[hcf]at ah;cases ah
    rw[Chg.apM,←hm1,h9];exact hm,hm0⟩
theorem add_ct(e:TypeId)(b:Nat)(cs:List Value)(x y:Int)(w0:World)(H0:Heap)
 (hv:Var e H0 b cs) (hc:cs[3]?=some (.int .i64 x)) (hxy: -9223372036854775808≤x+y∧x+y≤9223372036854775807):
 Ct Tryz.prog w0 112 #[.pointer (some ⟨b,3,none⟩),.int .i64 y] H0 (fun r H2=>r= .int .i64 (x+y)∧(Var e H2 b (cs.set 3 (.int .i64 (x+y))))∧Mo (Ms [(b+1)]) H0 H2):=by
 refine Ct.enter (args:=[.pointer (some ⟨b,3,none⟩),.int .i64 y]) Tryz.func112 rfl rfl rfl ?_;intro Q0 hret;have hm0:Mo (Ms [(b+1)]) H0 H0:=Mo.refl _ _;have aa:=Nx.refl (b+1) H0.size;refine CW.sr (fun ac=>?_);refine LR.an ?_;refine ac _ _ (CW.sr (fun ad=>?_));refine LR.m1 ?_;refine LR.n1 ?_;refine LR.v1 (Y.FA (hv.pt.drop 3) rfl u'71 rfl s'2) ?_;refine LR.m1 ?_;refine LR.z1 (Z.add64 hv hc rfl Tryz.func131 (by kernel_rfl) (by kernel_rfl) (by kernel_rfl) (by kernel_rfl) rfl hxy) ?_;rintro v9 H9 ⟨rfl,hv,ab⟩;replace ab:=ab.md1;replace hm0:=hm0.trL ab (MIL.o (MI.r aa));refine LR.an ?_;refine ad _ _ ?_;refine CW.ret (hret .ret (.inr rfl) _ _ _ (res1 rfl rfl) ?_);exact⟨rfl,hv,hm0⟩
theorem load_ct(e:TypeId)(b:Nat)(cs:List Value)(x:Int)(w0:World)(H0:Heap)
 (hv:Var e H0 b cs) (hc:cs[3]?=some (.int .i64 x)):
 Ct Tryz.prog w0 66 #[.pointer (some ⟨b,3,none⟩)] H0 (fun r H2=>r= .int .i64 x∧Nw H0 H2):=by
 refine Ct.enter (args:=[.pointer (some ⟨b,3,none⟩)]) Tryz.func66 rfl rfl rfl ?_;intro Q0 hret;have hm0:Nw H0 H0:=Mo.refl _ _;refine CW.sr (fun aa=>?_);refine LR.an ?_;refine aa _ _ (CW.sr (fun ab=>?_));refine LR.m1 ?_;refine LR.n1 ?_;refine LR.v1 (Y.FA (hv.pt.drop 3) rfl u'71 rfl s'2) ?_;refine LR.v1 (Y.load64 hv hc rfl Tryz.func101 (by kernel_rfl) (by kernel_rfl) (by kernel_rfl) (by kernel_rfl) rfl) ?_;refine LR.an ?_;refine ab _ _ ?_;refine CW.ret (hret .ret (.inr rfl) _ _ _ (res1 rfl rfl) ?_);exact⟨rfl,hm0⟩
section
variable {w0 : World} {n : Nat} {l : FL} {H : Heap} {o : Oper} {K : List Nat} {g : Gh} {b lv : Nat} {D : Dk} {x y : Operand} {t : TypeId}
theorem pd_left(h:PDk K g H b D)(lv:Nat)(ho:o.op= .store t x y)(hx:opv l x=some (.pointer (some ⟨b,4,none⟩)))(hy:opv l y=some (.int .i64 (lv:Int)))(hs:∀w,(sizeOf t).run Tryz.prog w= .ok 1 w)(hl:lv≤9223372036854775807):
 S Tryz.prog w0 n l H o (fun H'=>PDk K {g with lv:=lv} H' b {D with left:=lv}∧Mo (Ms K) H H'):=
 (S.var1 h.vb 4 _ ho hx hy rfl hs (by simp) rfl).mono fun H' ⟨h1,h2⟩=>⟨h.setFs h2.md1 ⟨rfl,rfl,rfl,rfl⟩ h1 (fun _=>rfl) hl ⟨rfl,rfl,rfl,rfl,rfl,rfl⟩ (Nat.le_refl _),h.ms h2 (fun c e=>by rw[e,h.rb];simp)⟩
theorem pd_dead(h:PDk K g H b D)(dd:Bool)(hdd:dd=false→D.dead=false)(ho:o.op= .store t x y)(hx:opv l x=some (.pointer (some ⟨b,5,none⟩)))(hy:opv l y=some (.bool dd))(hs:∀w,(sizeOf t).run Tryz.prog w= .ok 1 w):
 S Tryz.prog w0 n l H o (fun H'=>PDk K g H' b {D with dead:=dd}∧Mo (Ms K) H H'):=
 (S.var1 h.vb 5 _ ho hx hy rfl hs (by simp) rfl).mono fun H' ⟨h1,h2⟩=>⟨h.setFs h2.md1 ⟨rfl,rfl,rfl,rfl⟩ h1 (fun e=>h.lvD (hdd e)) h.lvB ⟨rfl,rfl,rfl,rfl,rfl,rfl⟩ (Nat.le_refl _),h.ms h2 (fun c e=>by rw[e,h.rb];simp)⟩
theorem pd_leftany(h:PDk K g H b D)(hd:D.dead=true)(x:Nat):PDk K g H b {D with left:=x}:=
 {h with
  lvD:=fun e=>(by rw[show({D with left:=x}:Dk).dead=D.dead from rfl,hd]at e;cases e)
  dirs:=fun p db e=>(by
   obtain⟨nb,sb,k,sv,nm,sm,q⟩:=h.dirs p db e;exact⟨nb,sb,k,sv,nm,sm,{q with en:=q.en,es:=q.es,hc:=q.hc}⟩)}
theorem begin_F{dd:Bool}{x:Nat}(hl:D.dead=false→lv=D.left)(h:PDk K g H b {D with left:=x,dead:=dd})(hdd:dd=true)(hcase:D.dead=true∨(D.dead=false∧lv=1∧x=0)):PDk K g H b D.begin.2∧ .bool false=Value.bool D.begin.1:=by
 subst hdd;rcases hcase with hd|⟨hd,h1,h2⟩
 ·have e:D.begin=(false,D):=by unfold Dk.begin;rw[if_pos hd]
  rw[e];refine⟨?_,rfl⟩;have:=pd_leftany h rfl D.left;obtain⟨cap,most,fs,now,stays,log,ops,left,dead⟩:=D;simp only at hd;subst hd;exact this
 ·have:=hl hd
  have e:D.begin=(false,{D with left:=0,dead:=true}):=by unfold Dk.begin;rw[if_neg (by simp[hd]),if_pos (by omega)]
  rw[e];subst h2;exact⟨h,rfl⟩
theorem begin_T{dd:Bool}{x:Nat}(h:PDk K g H b {D with left:=x,dead:=dd,ops:=D.ops+1})(hdd:dd=false)(hd:D.dead=false)(h1:D.left≠1)(hx:x=D.left-1):PDk K g H b D.begin.2∧ .bool true=Value.bool D.begin.1:=by
 subst hdd;subst hx;have e:D.begin=(true,{D with left:=D.left-1,ops:=D.ops+1}):=by unfold Dk.begin;rw[if_neg (by simp[hd]),if_neg h1]
 rw[e];obtain⟨cap,most,fs,now,stays,log,ops,left,dead⟩:=D;simp only at hd;subst hd;exact⟨h,rfl⟩
end
theorem addD_ct{K:List Nat}{g:Gh}{b:Nat}{D:Dk}(w0:World)(H0:Heap)(h:PDk K g H0 b D)(ho:D.ops≤1099511627776):Ct Tryz.prog w0 112 #[.pointer (some ⟨b,3,none⟩),.int .i64 1] H0 (fun r H2=>r= .int .i64 ((D.ops:Int)+1)∧PDk K g H2 b {D with ops:=D.ops+1}∧Mo (Ms K) H0 H2):=
 (add_ct _ b _ (D.ops:Int) 1 w0 H0 h.vb rfl (by omega)).mono fun r H2 ⟨h1,h2,h3⟩=>⟨h1,h.setFs h3 ⟨rfl,rfl,rfl,rfl⟩ h2 h.lvD h.lvB ⟨rfl,rfl,rfl,rfl,rfl,rfl⟩ (Nat.le_succ _),h.ms h3 (fun c e=>by
  have:c=b:=by simpa[Ms]using e
  rw[this,h.rb];simp)⟩
theorem begin_ct(K:List Nat)(g:Gh)(b:Nat)(D:Dk)(w0:World)(H0:Heap)
 (hf:PDk K g H0 b D) (ho:D.ops≤1099511627776):
 Ct Tryz.prog w0 73 #[ptr b] H0 (fun r H2=>∃g2:Gh,r= .bool D.begin.1∧(PDk K g2 H2 b D.begin.2)∧(g2.ρ=g.ρ∧g2.fb=g.fb∧g2.mb=g.mb∧g2.dm=g.dm)∧Mo (Ms K) H0 H2):=by
 refine Ct.enter (args:=[ptr b]) Tryz.func73 rfl rfl rfl ?_;intro Q0 hret;have hm0:Mo (Ms K) H0 H0:=Mo.refl _ _;have aa:=NxK.refl K H0.size;have af:=hf.bk;have hlb:=hf.lvB;have hld:=hf.lvD;refine CW.sr (fun aD=>?_);refine LR.an ?_;refine aD _ _ (CW.s1 (fun al=>CW.sr (fun aE=>?_)));refine LR.m1 ?_;refine LR.n1 ?_;refine LR.v1 (Y.FA hf.vb.pt rfl u'73 rfl s'3) ?_;refine LR.v1 (Y.load1 (hf.vb.pt.drop 4) rfl a'3 rfl) ?_;refine LR.v1 (Y.gtr rfl rfl rfl) (LR.nil (aE _ _ ?_));refine CW.condp rfl (fun c7=>?_) (fun c7=>?_)
 ·
  refine CW.sr (fun aF=>?_);refine LR.m1 ?_;refine LR.n1 ?_;refine LR.v1 (Y.FA hf.vb.pt rfl u'73 rfl s'3) ?_;refine LR.v1 (Y.load1 (hf.vb.pt.drop 4) rfl a'3 rfl) ?_;refine LR.v1 (Y.cast (v2:= .int .i64 ((g.lv-1:Nat):Int)) (Y.subi rfl rfl rfl (by omega)) (ivv (by omega))) ?_;refine LR.n1 ?_;refine LR.v1 (Y.FA hf.vb.pt rfl u'73 rfl s'3) ?_;refine LR.s1 (pd_left hf (g.lv-1) rfl rfl rfl s'3 (by omega)) fun aG am=>?_;obtain⟨hf,ah⟩:=am;replace hm0:=hm0.trL ah (MIL.ofK (aa) (by intro k hk;simp[hk]));have aN:=ah.size;have af:=hf.bk;refine LR.nil (aF _ _ (CW.region ?_));refine LR.m1 ?_;refine LR.m1 ?_;refine LR.n1 ?_;refine LR.v1 (Y.FA hf.vb.pt rfl u'73 rfl s'4) ?_;refine LR.v1 (Y.load1 (hf.vb.pt.drop 5) rfl a'4 rfl) ?_;refine LR.m1 ?_;refine LR.split (d:=20) rfl (fun ae=>?_) (fun ae=>?_)
  ·
   refine LR.g1 ?_;refine LR.g1 ?_;refine LR.g1 ?_;refine LR.g1 ?_;refine LR.g1 ?_;refine LR.pt ?_;refine LR.n1 ?_;refine LR.v1 (Y.FA hf.vb.pt rfl u'73 rfl s'4) ?_;refine LR.s1 (pd_dead hf _ (by intro h;first|exact ae|cases h) rfl rfl rfl s'4) fun ai ag=>?_;obtain⟨hf,ac⟩:=ag;replace hm0:=hm0.trL ac (MIL.ofK (aa) (by intro k hk;simp[hk]));have aO:=ac.size;have af:=hf.bk;refine LR.nil (al _ _ (CW.s2 (fun aH aI=>CW.sr (fun aJ=>?_))));refine LR.m1 ?_;refine LR.n1 ?_;refine LR.v1 (Y.FA hf.vb.pt rfl u'73 rfl s'4) ?_;refine LR.v1 (Y.load1 (hf.vb.pt.drop 5) rfl a'4 rfl) (LR.nil (aJ _ _ ?_));refine CW.cond rfl (fun ab=>?_) (fun ab=>?_)
   ·
    first
    |(simp at ab;done)
    |skip
     refine CW.sr (fun aK=>?_);refine LR.an ?_;refine aK _ _ ?_;refine CW.ret (aI .ret nofun _ _ (hret .ret (.inr rfl) _ _ _ (res1 rfl rfl) ?_));have hq:=begin_F hld hf (by first|rfl|exact ab) (by first|exact .inl ae|exact .inr ⟨ae,by simp at ab;omega,by simp at ab;omega⟩);exact⟨_,hq.2,hq.1,⟨rfl,rfl,rfl,rfl⟩,hm0⟩
   ·
    first
    |(simp at ab;done)
    |skip
     refine CW.skip (aH _ _ (CW.sr (fun aL=>?_)));refine LR.m1 ?_;refine LR.n1 ?_;refine LR.v1 (Y.FA hf.vb.pt rfl u'73 rfl s'71) ?_;refine LR.call rfl c'112 rfl (Wd.u rfl) rfl rfl (addD_ct w0 _ hf ho) (fun aC aj ak=>?_);obtain⟨rfl,hf,ad⟩:=ak;replace hm0:=hm0.trL ad (MIL.ofK (aa) (by intro k hk;simp[hk]));have aP:=ad.size;refine LR.nil (aL _ _ (CW.sr (fun aM=>?_)));refine LR.an ?_;refine aM _ _ ?_;refine CW.ret (hret .ret (.inr rfl) _ _ _ (res1 rfl rfl) ?_)
     obtain⟨g2,hq⟩:∃g2:Gh,(PDk K g2 aj b D.begin.2∧ .bool true=Value.bool D.begin.1)∧(g2.ρ=g.ρ∧g2.fb=g.fb∧g2.mb=g.mb∧g2.dm=g.dm):=by
      first
      |exact⟨_,begin_T (x:=g.lv-1) hf (by simpa using ab) ae (by have:=hld ae;simp at ab;omega) (by have:=hld ae;omega),rfl,rfl,rfl,rfl⟩
      |exact⟨_,begin_T (x:=D.left) (dd:=D.dead) hf (by simpa using ab) (by simpa using ab) (by have:=hld (by simpa using ab);omega) (by have:=hld (by simpa using ab);omega),rfl,rfl,rfl,rfl⟩
     exact⟨g2,hq.1.2,hq.1.1,hq.2,hm0⟩
  ·
   refine LR.wm ?_;refine LR.w1 (Y.nilCheck rfl rfl) ?_;refine LR.w1 (Y.FA hf.vb.pt rfl u'73 rfl s'3) ?_;refine LR.w1 (Y.load1 (hf.vb.pt.drop 4) rfl a'3 rfl) ?_;refine LR.w1 (Y.eql rfl rfl rfl) ?_;refine LR.pf ?_;refine LR.n1 ?_;refine LR.v1 (Y.FA hf.vb.pt rfl u'73 rfl s'4) ?_;refine LR.s1 (pd_dead hf _ (by intro h;first|exact ae|cases h) rfl rfl rfl s'4) fun ai ag=>?_;obtain⟨hf,ac⟩:=ag;replace hm0:=hm0.trL ac (MIL.ofK (aa) (by intro k hk;simp[hk]));have aQ:=ac.size;have af:=hf.bk;refine LR.nil (al _ _ (CW.s2 (fun ao ap=>CW.sr (fun aq=>?_))));refine LR.m1 ?_;refine LR.n1 ?_;refine LR.v1 (Y.FA hf.vb.pt rfl u'73 rfl s'4) ?_;refine LR.v1 (Y.load1 (hf.vb.pt.drop 5) rfl a'4 rfl) (LR.nil (aq _ _ ?_));refine CW.cond rfl (fun ab=>?_) (fun ab=>?_)
   ·
    first
    |(simp at ab;done)
    |skip
     refine CW.sr (fun ar=>?_);refine LR.an ?_;refine ar _ _ ?_;refine CW.ret (ap .ret nofun _ _ (hret .ret (.inr rfl) _ _ _ (res1 rfl rfl) ?_));have hq:=begin_F hld hf (by first|rfl|exact ab) (by first|exact .inl ae|exact .inr ⟨ae,by simp at ab;omega,by simp at ab;omega⟩);exact⟨_,hq.2,hq.1,⟨rfl,rfl,rfl,rfl⟩,hm0⟩
   ·
    first
    |(simp at ab;done)
    |skip
     refine CW.skip (ao _ _ (CW.sr (fun au=>?_)));refine LR.m1 ?_;refine LR.n1 ?_;refine LR.v1 (Y.FA hf.vb.pt rfl u'73 rfl s'71) ?_;refine LR.call rfl c'112 rfl (Wd.u rfl) rfl rfl (addD_ct w0 _ hf ho) (fun aC aj ak=>?_);obtain⟨rfl,hf,ad⟩:=ak;replace hm0:=hm0.trL ad (MIL.ofK (aa) (by intro k hk;simp[hk]));have aR:=ad.size;refine LR.nil (au _ _ (CW.sr (fun av=>?_)));refine LR.an ?_;refine av _ _ ?_;refine CW.ret (hret .ret (.inr rfl) _ _ _ (res1 rfl rfl) ?_)
     obtain⟨g2,hq⟩:∃g2:Gh,(PDk K g2 aj b D.begin.2∧ .bool true=Value.bool D.begin.1)∧(g2.ρ=g.ρ∧g2.fb=g.fb∧g2.mb=g.mb∧g2.dm=g.dm):=by
      first
      |exact⟨_,begin_T (x:=g.lv-1) hf (by simpa using ab) ae (by have:=hld ae;simp at ab;omega) (by have:=hld ae;omega),rfl,rfl,rfl,rfl⟩
      |exact⟨_,begin_T (x:=D.left) (dd:=D.dead) hf (by simpa using ab) (by simpa using ab) (by have:=hld (by simpa using ab);omega) (by have:=hld (by simpa using ab);omega),rfl,rfl,rfl,rfl⟩
     exact⟨g2,hq.1.2,hq.1.1,hq.2,hm0⟩
 ·
  refine CW.skip (al _ _ (CW.s2 (fun aw ax=>CW.sr (fun ay=>?_))));refine LR.m1 ?_;refine LR.n1 ?_;refine LR.v1 (Y.FA hf.vb.pt rfl u'73 rfl s'4) ?_;refine LR.v1 (Y.load1 (hf.vb.pt.drop 5) rfl a'4 rfl) (LR.nil (ay _ _ ?_));refine CW.cond rfl (fun ab=>?_) (fun ab=>?_)
  ·
   first
   |(simp at ab;done)
   |skip
    refine CW.sr (fun az=>?_);refine LR.an ?_;refine az _ _ ?_;refine CW.ret (ax .ret nofun _ _ (hret .ret (.inr rfl) _ _ _ (res1 rfl rfl) ?_));have hq:=begin_F (x:=D.left) (dd:=D.dead) hld hf (by simpa using ab) (.inl (by simpa using ab));exact⟨_,hq.2,hq.1,⟨rfl,rfl,rfl,rfl⟩,hm0⟩
  ·
   first
   |(simp at ab;done)
   |skip
    refine CW.skip (aw _ _ (CW.sr (fun aA=>?_)));refine LR.m1 ?_;refine LR.n1 ?_;refine LR.v1 (Y.FA hf.vb.pt rfl u'73 rfl s'71) ?_;refine LR.call rfl c'112 rfl (Wd.u rfl) rfl rfl (addD_ct w0 _ hf ho) (fun aC aj ak=>?_);obtain⟨rfl,hf,ad⟩:=ak;replace hm0:=hm0.trL ad (MIL.ofK (aa) (by intro k hk;simp[hk]));have aS:=ad.size;refine LR.nil (aA _ _ (CW.sr (fun aB=>?_)));refine LR.an ?_;refine aB _ _ ?_;refine CW.ret (hret .ret (.inr rfl) _ _ _ (res1 rfl rfl) ?_)
    obtain⟨g2,hq⟩:∃g2:Gh,(PDk K g2 aj b D.begin.2∧ .bool true=Value.bool D.begin.1)∧(g2.ρ=g.ρ∧g2.fb=g.fb∧g2.mb=g.mb∧g2.dm=g.dm):=by
     first
     |exact⟨_,begin_T (x:=g.lv-1) hf (by simpa using ab) ae (by have:=hld ae;simp at ab;omega) (by have:=hld ae;omega),rfl,rfl,rfl,rfl⟩
     |exact⟨_,begin_T (x:=D.left) (dd:=D.dead) hf (by simpa using ab) (by simpa using ab) (by have:=hld (by simpa using ab);omega) (by have:=hld (by simpa using ab);omega),rfl,rfl,rfl,rfl⟩
    exact⟨g2,hq.1.2,hq.1.1,hq.2,hm0⟩
section
open Go.MapKept
variable {P : Program} {w0 : World} {n : Nat} {l : FL} {H : Heap} {o : Oper} {κ β : Type} [DecidableEq κ] {G : Nat → Prop} {fk : κ → Value} {fv : β → Value} {v : Value} {m : List (κ × β)} {d : TypeDesc}
theorem look_p{t kt et:TypeId}{x i:Operand}{k:κ}(ad:β→Addr)(h:MapOf G H fk fv v m)(hfv:∀b,fv b= .pointer (some (ad b)))(hfk:KeyFn d fk)(ho:o.op= .lookup t x i false)(hm:∀w,(underlying t).run P w= .ok (.map kt et) w)(hk:P.underlying kt=some d)(hz:∀w,(zeroValue et).run P w= .ok (.pointer none) w)
 (hx:opv l x=some v) (hi:opv l i=some (fk k)):Y P w0 n l H o (.pointer ((mget m k).map ad)):=by
 intro a w hf ha;have h1:=run_lookup (ok:=false) (k:=k) h hfk ha hm hk hz;simp only[Bool.false_eq_true,if_false]at h1
 have h2:(Instr.lookup t v (fk k) false).run P w= .ok (.pointer ((mget m k).map ad)) w:=by
  rw[h1]
  cases mget m k with
  |none=>rfl
  |some b=>simp[hfv]
 simp[execOp,ho,hf.eval hx,hf.eval hi,h2]
end
abbrev adO(b:Nat):Addr:=⟨b,0,none⟩
theorem find_ct(mx_:Int)(K:List Nat)(g:Gh)(b:Nat)(D:Dk)(p:Pth)(w0:World)(H0:Heap)
 (mx:MX mx_ H0) (bf_mx:BF (fun b=>b=0) H0.size) (hf:PDk K g H0 b D) (hl:p.length≤4294967280):
 Ct Tryz.prog w0 63 #[ptr b,Str p] H0 (fun r H2=>r= .tuple #[.pointer (fpt g.fb (if D.look p=0 then mget D.now p else none)),.int .i64 (D.look p:Int)]∧Nw H0 H2):=by
 refine Ct.enter (args:=[ptr b,Str p]) Tryz.func63 rfl rfl rfl ?_;intro Q0 hret;have hm0:Nw H0 H0:=Mo.refl _ _;have ah:=hf.bk;refine CW.sr (fun ao=>?_);refine LR.a1 ?_;refine LR.an ?_;refine ao _ _ (CW.s2 (fun ap aq=>CW.sr (fun ar=>?_)));refine LR.m1 ?_;refine LR.call rfl c'26 rfl (Wd.u rfl) rfl rfl (name_ct mx_ p w0 _ mx (bf_mx.mono (by omega)) hl) ?_;rintro v9 H9 ⟨rfl,ag⟩;replace mx:=mx.nw ag;replace hf:=hf.nw ag;replace hm0:=hm0.tr ag;have aB:=ag.size;refine LR.v1 (Y.not rfl rfl) (LR.nil (ar _ _ ?_));refine CW.cond rfl (fun ae=>?_) (fun ae=>?_)
 ·
  refine CW.sr (fun au=>?_);refine LR.a1 ?_;refine LR.an ?_;refine au _ _ ?_;refine CW.ret (aq .ret nofun _ _ (hret .ret (.inr rfl) _ _ _ (res2 rfl rfl rfl) ?_))
  have hk:D.look p=7:=by
   unfold Dk.look;rw[if_neg (by simpa using ae)]
  exact⟨by rw[hk];rfl,hm0⟩
 ·
  refine CW.skip (ap _ _ (CW.s2 (fun al av=>CW.s1 (fun aw=>?_))));refine CW.region_any (fun Hq=>Nw H9 Hq) [] rfl ?_;have hqs:=Nw.refl H9;refine LH.m1 0 rfl hqs ?_;refine LH.n1 1 rfl hqs ?_;refine LH.t1 2 rfl (fun Hq hq=>Y.FA (hf.vb.pt.nw hq) rfl u'73 rfl s'66) hqs ?_;refine LH.t1 3 rfl (fun Hq hq=>Y.load1 ((hf.vb.pt.drop 2).nw hq) rfl a'66 rfl) hqs ?_;refine LH.m1 4 rfl hqs ?_;refine LH.o1 5 ?_;refine LO.call rfl rfl c'52 rfl (Wd.u rfl) rfl rfl (dir_ct mx_ p w0 _ mx (bf_mx.mono (by omega)) hl) (fun aC am ax=>?_);obtain⟨rfl,ab⟩:=ax;replace hf:=hf.nw ab;replace hm0:=hm0.tr ab;have af:=hqs.tr ab;refine⟨.inr af,LH.narrow (SH2:=fun Hq=>Nw am Hq) (fun Hq hq=>af.tr hq) ?_⟩;have aa:=Nw.refl am;refine LH.t1 6 rfl (fun Hq hq=>look_p adO (hf.hm.mo.nw hq) (fun _=>rfl) keyStr rfl u'66 Tryz.underlying9 z'92 rfl rfl) aa ?_;refine LH.t1 7 rfl (fun Hq hq=>Y.assign rfl rfl) aa ?_;refine LH.done (by kernel_rfl) ?_;have hqe:=aa;refine aw _ _ (CW.sr (fun ay=>?_));refine LR.m1 ?_;refine LR.v1 (Y.pne rfl (by kernel_rfl) (by kernel_rfl) rfl rfl) (LR.nil (ay _ _ ?_));refine CW.cond rfl (fun ac=>?_) (fun ac=>?_)
  ·
   obtain⟨db,hdb⟩:∃db,mget g.dm (dirP p)=some db:=by
    cases hq:mget g.dm (dirP p)with
    |none=>rw[hq]at ac;cases ac
    |some db=>exact⟨db,rfl⟩
   obtain⟨nb,sb,kc,sv,nm,sm,hd⟩:=hf.dirs _ db hdb;refine CW.sr (fun az=>?_);refine LR.v1 (Y.cast (v2:=ptr db) (Y.move rfl rfl) (by rw[hdb];rfl)) ?_;refine LR.n1 ?_;refine LR.v1 (Y.FA hd.vd.pt rfl u'99 rfl s'96) ?_;refine LR.v1 (Y.FA (hd.vd.pt.drop 0) rfl u'96 rfl s'94) ?_;refine LR.v1 (Y.load1 ((hd.vd.pt.drop 0).drop 0) rfl a'94 rfl) ?_;refine LR.m1 ?_;refine LR.v1 (Y.cast (v2:= .pointer (fpt g.fb (mget D.now p))) (look_p (fun i=>⟨g.fb.getD i 0,0,none⟩) hd.hn.mo (fun _=>rfl) keyStr rfl u'94 Tryz.underlying9 z'101 rfl rfl) (by rw[hd.en p,if_pos rfl])) ?_;refine LR.an ?_;refine az _ _ (CW.sr (fun aA=>?_));refine LR.m1 ?_;refine LR.v1 (Y.pne rfl (by kernel_rfl) (by kernel_rfl) rfl rfl) (LR.nil (aA _ _ ?_));refine CW.cond rfl (fun ad=>?_) (fun ad=>?_)
   ·
    refine CW.sr (fun ai=>?_);refine LR.m1 ?_;refine LR.a1 ?_;refine LR.an ?_;refine ai _ _ ?_;refine CW.ret (av .ret nofun _ _ (hret .ret (.inr rfl) _ _ _ (res2 rfl rfl rfl) ?_))
    have hk:D.look p=0:=by
     unfold Dk.look
     rw[if_pos (by simpa using ae),if_pos (by cases hq:mget D.now p with
      |none=>rw[hq]at ad;cases ad
      |some i=>rfl)]
    exact⟨by rw[hk,if_pos rfl];rfl,hm0⟩
   ·
    refine CW.skip (al _ _ (CW.sr (fun aj=>?_)));refine LR.a1 ?_;refine LR.an ?_;refine aj _ _ ?_;refine CW.ret (hret .ret (.inr rfl) _ _ _ (res2 rfl rfl rfl) ?_)
    have hk:D.look p=2:=by
     unfold Dk.look;rw[if_pos (by simpa using ae),if_neg]
     first
     |(cases hq:mget D.now p with
      |none=>simp
      |some i=>rw[hq]at ad;cases ad)
     |(have hnd:mget g.dm (dirP p)=none:=(by cases hq:mget g.dm (dirP p)with
       |none=>rfl
       |some db=>rw[hq]at ac;cases ac)
       rw[((hf.abs _ hnd).1 p rfl).1];simp)
    exact⟨by rw[hk];rfl,hm0⟩
  ·
   refine CW.skip (al _ _ (CW.sr (fun ak=>?_)));refine LR.a1 ?_;refine LR.an ?_;refine ak _ _ ?_;refine CW.ret (hret .ret (.inr rfl) _ _ _ (res2 rfl rfl rfl) ?_)
   have hk:D.look p=2:=by
    unfold Dk.look;rw[if_pos (by simpa using ae),if_neg]
    first
    |(cases hq:mget D.now p with
     |none=>simp
     |some i=>rw[hq]at ad;cases ad)
    |(have hnd:mget g.dm (dirP p)=none:=(by cases hq:mget g.dm (dirP p)with
      |none=>rfl
      |some db=>rw[hq]at ac;cases ac)
      rw[((hf.abs _ hnd).1 p rfl).1];simp)
   exact⟨by rw[hk];rfl,hm0⟩
end SimD

namespace SimE
open E Go.RowKit SimA SimB SimC SimD
section
variable {H : Heap} {b mb : Nat}
theorem PDk.new(cap most:Nat)(hv:Var 73 H b [.int .i64 cap,.int .i64 most,.map (some mb),.int .i64 0,.int .i64 0,.bool false])(hm:Mp H Str ptr mb ([]:List (Pth×Nat)))(hc:cap≤9223372036854775807)(hk:most≤9223372036854775807)(hne:b≠mb):
 PDk [b+1,mb+1] ⟨upr (upr (fun _=> .out) mb .dirs) b .fs,[],mb,[],0⟩ H b (Dk.empty cap most) where
 hK:=hK_upr (hK_upr (K:=[]) (ρ:=fun _=> .out) (fun c=>by simp) (by simp)) (by simp)
 lt:=lt_upr (lt_upr (H:=H) (fun c h=>absurd rfl h) (Nat.le_refl _) hm.lt) (Nat.le_refl _) hv.lt
 rb:=upr_self
 vb:=hv
 lvD:=fun _=>rfl
 lvB:=by simp
 capB:=hc
 mostB:=hk
 rm:=by show upr (upr (fun _=> .out) mb .dirs) b .fs mb=_;rw[upr_ne (Ne.symm hne),upr_self]
 hm:=hm
 dirs:=fun p db e=>(by cases e)
 abs:=fun p _=>⟨fun q _=>⟨rfl,rfl⟩,rfl⟩
 len:=rfl
 fil:=fun i hi=>(by simp[Dk.empty]at hi)
 ids:=⟨fun p i e=>(by cases e),fun p i e=>(by cases e),fun c hc=>(by cases hc)⟩
 dml:=Nat.le_refl _
end
theorem new_ct(cap most:Nat)(w0:World)(H0:Heap)
 (hc:cap≤9223372036854775807) (hk:most≤9223372036854775807):
 Ct Tryz.prog w0 8 #[.int .i64 (cap:Int),.int .i64 (most:Int)] H0 (fun r H2=>∃K:List Nat,∃g:Gh,∃b:Nat,r= .tuple #[ptr b,.int .i64 0]∧(PDk K g H2 b (Dk.empty cap most))∧(NxK [] H0.size K)∧Nw H0 H2):=by
 refine Ct.enter (args:=[.int .i64 (cap:Int),.int .i64 (most:Int)]) Tryz.func8 rfl rfl rfl ?_;intro Q0 hret;have hm0:Nw H0 H0:=Mo.refl _ _;refine CW.sr (fun aj=>?_);refine LR.a1 ?_;refine LR.an ?_;refine aj _ _ (CW.s1 (fun ak=>CW.sr (fun al=>?_)));refine LR.m1 ?_;refine LR.v1 ((Y.lss rfl rfl rfl).isF (by omega)) ?_;refine LR.m1 ?_;refine LR.wm ?_;refine LR.w1 ((Y.lss rfl rfl rfl).isF (by omega)) ?_;refine LR.pf ?_;refine LR.nil (al _ _ ?_);refine CW.cond_f rfl ?_;refine CW.skip (ak _ _ (CW.sr (fun am=>?_)));refine LR.m1 ?_;refine LR.m1 ?_;refine LR.z1 (Z.makeMp Str ptr rfl) fun ay ac ao=>?_;obtain⟨rfl,hmp,ab,ap,ae⟩:=ao;have ag:ac.size=H0.size+1:=by rw[ae];simp
 have aq:Nx 0 H0.size (H0.size+1):=Nx.new hm0.size;replace hm0:=hm0.tr ab;have az:=ab.size;have ad:=hmp.lt;refine LR.v1 (Y.build (v:= .agg #[.int .i64 cap,.int .i64 most,.map (some H0.size),.int .i64 0,.int .i64 0,.bool false]) rfl rfl (by intro w;kernel_rfl)) ?_;refine LR.z1 (Z.boxv rfl rfl) fun aA ah ar=>?_;obtain⟨rfl,hvb,aa,au,af⟩:=ar;have ai:ah.size=ac.size+1:=by rw[af];simp
 have av:Nx 0 H0.size (ac.size+1):=Nx.new hm0.size;replace hmp:=hmp.nw aa;replace hm0:=hm0.tr aa;have aB:=aa.size;replace hvb:Var 73 ah ac.size ([.int .i64 cap,.int .i64 most,.map (some H0.size),.int .i64 0,.int .i64 0,.bool false]):=hvb;have aw:=NxK.cons (aq) (NxK.refl [] _);have ax:=NxK.cons (av) (aw);have hf:=PDk.new cap most hvb hmp hc hk (by omega);refine LR.a1 ?_;refine LR.an ?_;refine am _ _ ?_;refine CW.ret (hret .ret (.inr rfl) _ _ _ (res2 rfl rfl rfl) ?_);exact⟨_,_,_,rfl,hf,ax,hm0⟩
theorem newN_ct(a m:Int)(w0:World)(H0:Heap)
 (hn:a<0∨m<0):
 Ct Tryz.prog w0 8 #[.int .i64 a,.int .i64 m] H0 (fun r H2=>r= .tuple #[.pointer none,.int .i64 1]∧Nw H0 H2):=by
 refine Ct.enter (args:=[.int .i64 a,.int .i64 m]) Tryz.func8 rfl rfl rfl ?_;intro Q0 hret;have hm0:Nw H0 H0:=Mo.refl _ _;refine CW.sr (fun ac=>?_);refine LR.a1 ?_;refine LR.an ?_;refine ac _ _ (CW.s2 (fun _ aa=>CW.sr (fun ab=>?_)));refine LR.m1 ?_;refine LR.v1 (Y.lss rfl rfl rfl) ?_;refine LR.m1 ?_;refine LR.splitp (d:=8) rfl (fun g8=>?_) (fun g8=>?_)
 ·
  refine LR.g1 ?_;refine LR.g1 ?_;refine LR.v1 (Y.cast (v2:= .bool true) (Y.pick_t rfl rfl rfl) (by first|rfl|(congr 1;simp;omega))) (LR.nil (ab _ _ ?_));refine CW.cond_t rfl ?_;refine CW.sr (fun ad=>?_);refine LR.a1 ?_;refine LR.an ?_;refine ad _ _ ?_;refine CW.ret (aa .ret nofun _ _ (hret .ret (.inr rfl) _ _ _ (res2 rfl rfl rfl) ?_));exact⟨rfl,hm0⟩
 ·
  refine LR.wm ?_;refine LR.w1 (Y.lss rfl rfl rfl) ?_;refine LR.v1 (Y.cast (v2:= .bool true) (Y.pick_f rfl rfl rfl) (by first|rfl|(congr 1;simp;omega))) (LR.nil (ab _ _ ?_));refine CW.cond_t rfl ?_;refine CW.sr (fun ae=>?_);refine LR.a1 ?_;refine LR.an ?_;refine ae _ _ ?_;refine CW.ret (aa .ret nofun _ _ (hret .ret (.inr rfl) _ _ _ (res2 rfl rfl rfl) ?_));exact⟨rfl,hm0⟩
theorem read_ct(mx_:Int)(K:List Nat)(g:Gh)(b:Nat)(D:Dk)(p:Pth)(w0:World)(H0:Heap)
 (mx:MX mx_ H0) (bf_mx:BF (fun b=>b=0) H0.size) (hf:PDk K g H0 b D) (hl:p.length≤4294967280) (hB:∀i,(fget D.fs i).now.length≤1099511627776):
 Ct Tryz.prog w0 23 #[ptr b,Str p] H0 (fun r H2=>∃s:SV,∃k:Nat,r= .tuple #[s.v,.int .i64 (D.readE p:Int)]∧(Ow k 5 H2 fB 1 s.v (D.readL p))∧(Nx 0 H0.size k)∧Nw H0 H2):=by
 refine Ct.enter (args:=[ptr b,Str p]) Tryz.func23 rfl rfl rfl ?_;intro Q0 hret;have hm0:Nw H0 H0:=Mo.refl _ _;have ad:=hf.bk;refine CW.sr (fun ai=>?_);refine LR.a1 ?_;refine LR.an ?_;refine ai _ _ (CW.s2 (fun aj ak=>CW.sr (fun al=>?_)));refine LR.m1 ?_;refine LR.n1 ?_;refine LR.v1 (Y.FA hf.vb.pt rfl u'73 rfl s'4) ?_;refine LR.v1 (Y.load1 (hf.vb.pt.drop 5) rfl a'4 rfl) (LR.nil (al _ _ ?_));refine CW.cond rfl (fun ac=>?_) (fun ac=>?_)
 ·
  refine CW.sr (fun am=>?_);refine LR.a1 ?_;refine LR.an ?_;refine am _ _ ?_;refine CW.ret (ak .ret nofun _ _ (hret .ret (.inr rfl) _ _ _ (res2 rfl rfl rfl) ?_));have hE:D.readE p=11:=by unfold Dk.readE;rw[if_pos ac]
  have hL:D.readL p=[]:=by unfold Dk.readL;rw[if_neg (by rw[hE];omega)]
  exact⟨⟨none,0,0⟩,0,by rw[hE];rfl,by rw[hL];exact Ow.nil fB_len fB_one,Nx.refl _ _,hm0⟩
 ·
  refine CW.skip (aj _ _ (CW.sr (fun ao=>?_)));refine LR.m1 ?_;refine LR.m1 ?_;refine LR.call rfl c'63 rfl (Wd.u rfl) rfl rfl (find_ct mx_ K g b D p w0 _ mx (bf_mx.mono (by omega)) hf hl) (fun aB aC ap=>?_);obtain⟨rfl,aa⟩:=ap;replace hf:=hf.nw aa;replace hm0:=hm0.tr aa;have aD:=aa.size;refine LR.m1 ?_;refine LR.v1 (Y.extract rfl rfl rfl) ?_;refine LR.v1 (Y.extract rfl rfl rfl) ?_;refine LR.a1 ?_;refine LR.an ?_;refine ao _ _ (CW.s2 (fun aq ar=>CW.sr (fun au=>?_)));refine LR.m1 ?_;refine LR.v1 (Y.neq rfl rfl rfl) (LR.nil (au _ _ ?_));refine CW.condp rfl (fun av=>?_) (fun av=>?_)
  ·
   refine CW.sr (fun aw=>?_);refine LR.m1 ?_;refine LR.a1 ?_;refine LR.an ?_;refine aw _ _ ?_;refine CW.ret (ar .ret nofun _ _ (hret .ret (.inr rfl) _ _ _ (res2 rfl rfl rfl) ?_));have hE:D.readE p=D.look p:=by unfold Dk.readE;rw[if_neg (by simpa using ac)]
   have hL:D.readL p=[]:=by unfold Dk.readL;rw[if_neg (by rw[hE];omega)]
   exact⟨⟨none,0,0⟩,0,by rw[hE];rfl,by rw[hL];exact Ow.nil fB_len fB_one,Nx.refl _ _,hm0⟩
  ·
   have ab:D.look p=0:=by omega
   obtain⟨i,hi⟩:∃i,mget D.now p=some i:=by
    cases hq:mget D.now p with
    |some i=>exact⟨i,rfl⟩
    |none=>exfalso;unfold Dk.look at ab;rw[hq]at ab;by_cases hn:nameB p=true<;>simp[hn]at ab
   obtain⟨nv,sv,wv,kw,lw,hfi⟩:=hf.fil i (hf.ids.1 p i hi);refine CW.skip (aq _ _ (CW.sr (fun ax=>?_)));refine LR.v1 (Y.cast (v2:=fvl g.fb i) (Y.move rfl rfl) (by rw[if_pos ab,hi];rfl)) ?_;refine LR.n1 ?_;refine LR.v1 (Y.FA hfi.vf.pt rfl u'112 rfl s'109) ?_;refine LR.v1 (Y.FA (hfi.vf.pt.drop 0) rfl u'109 rfl s'34) ?_;refine LR.v1 (Y.load1 ((hfi.vf.pt.drop 0).drop 0) rfl a'34 rfl) ?_;refine LR.call rfl c'64 rfl (Wd.u rfl) rfl rfl (bclone_ct _ (fget D.fs i).now w0 _ hfi.hn.any (by have:=hB i;omega)) (fun aE aF ay=>?_);obtain⟨az,ah,rfl,ae,af,ag⟩:=ay;have aA:Nx 0 H0.size ah:=Nx.tr (Nx.refl 0 _) af hm0.size;replace hm0:=hm0.tr ag;refine LR.a1 ?_;refine LR.an ?_;refine ax _ _ ?_;refine CW.ret (hret .ret (.inr rfl) _ _ _ (res2 rfl rfl rfl) ?_);have hE:D.readE p=0:=by unfold Dk.readE;rw[if_neg (by simpa using ac)];exact ab
   have hL:D.readL p=(fget D.fs i).now:=by unfold Dk.readL Dk.wasL;rw[if_pos hE,hi]
   exact⟨az,ah,by rw[hE];rfl,by rw[hL];exact ae,aA,hm0⟩
theorem ops_ct(K:List Nat)(g:Gh)(b:Nat)(D:Dk)(w0:World)(H0:Heap)
 (hf:PDk K g H0 b D):
 Ct Tryz.prog w0 25 #[ptr b] H0 (fun r H2=>r= .int .i64 (D.ops:Int)∧Nw H0 H2):=by
 refine Ct.enter (args:=[ptr b]) Tryz.func25 rfl rfl rfl ?_;intro Q0 hret;have hm0:Nw H0 H0:=Mo.refl _ _;refine CW.sr (fun aa=>?_);refine LR.an ?_;refine aa _ _ (CW.sr (fun ab=>?_));refine LR.m1 ?_;refine LR.n1 ?_;refine LR.v1 (Y.FA hf.vb.pt rfl u'73 rfl s'71) ?_;refine LR.call rfl c'66 rfl (Wd.u rfl) rfl rfl (load_ct _ b _ (D.ops:Int) w0 _ hf.vb rfl) ?_;rintro v6 H6 ⟨rfl,ac⟩;replace hm0:=hm0.tr ac;refine LR.an ?_;refine ab _ _ ?_;refine CW.ret (hret .ret (.inr rfl) _ _ _ (res1 rfl rfl) ?_);exact⟨rfl,hm0⟩
theorem stop_ct(K:List Nat)(g:Gh)(b:Nat)(D:Dk)(n:Int)(w0:World)(H0:Heap)
 (hf:PDk K g H0 b D) (hn:n≤9223372036854775807):
 Ct Tryz.prog w0 14 #[ptr b,.int .i64 n] H0 (fun r H2=>∃g2:Gh,r= .tuple #[]∧(PDk K g2 H2 b (D.stop n.toNat))∧(g2.ρ=g.ρ∧g2.fb=g.fb∧g2.mb=g.mb∧g2.dm=g.dm)∧Mo (Ms K) H0 H2):=by
 refine Ct.enter (args:=[ptr b,.int .i64 n]) Tryz.func14 rfl rfl rfl ?_;intro Q0 hret;have hm0:Mo (Ms K) H0 H0:=Mo.refl _ _;have aa:=NxK.refl K H0.size;have ac:=hf.bk;refine CW.region ?_;refine LR.m1 ?_;refine LR.m1 ?_;refine LR.v1 (Y.cast (v2:= .int .i64 (n.toNat:Int)) (Y.maxi rfl rfl rfl) (ivv (by omega))) ?_;refine LR.n1 ?_;refine LR.v1 (Y.FA hf.vb.pt rfl u'73 rfl s'3) ?_;refine LR.s1 (pd_left hf n.toNat rfl rfl rfl s'3 (by omega)) fun ae ad=>?_;obtain⟨hf,ab⟩:=ad;replace hm0:=hm0.trL ab (MIL.ofK (aa) (by intro k hk;simp[hk]));refine LR.nil ?_;refine hret .normal (.inl rfl) _ _ _ (res0 rfl) ?_;exact⟨_,rfl,hf,⟨rfl,rfl,rfl,rfl⟩,hm0⟩
end SimE

namespace SimF
open E Go.RowKit SimA SimB SimC SimD SimE
def rst(ks dn:List Pth)(w:Pth→Nat):Nat:=((ks.filter (fun k=> !decide (k∈dn))).map w).sum
theorem rst_nil(ks:List Pth)(w:Pth→Nat):rst ks [] w=(ks.map w).sum:=by
 unfold rst;rw[List.filter_eq_self.2 (fun k _=>by simp)]
theorem rst_end{ks dn:List Pth}{w:Pth→Nat}(h:∀k∈ks,k∈dn):rst ks dn w=0:=by
 unfold rst;rw[List.filter_eq_nil_iff.2 (fun k hk=>by simp[h k hk])];rfl
theorem rst_step{w:Pth→Nat}{k:Pth}{dn:List Pth}(hd:k∉dn):∀{ks:List Pth},ks.Nodup→k∈ks→rst ks dn w=w k+rst ks (dn++[k]) w
 |[],_,h=>by cases h
 |x::ks,hn,h=>by
  rw[List.nodup_cons]at hn;unfold rst;by_cases hx:x=k
  ·subst hx
   have e:(x::ks).filter (fun q=> !decide (q∈dn++[x]))=ks.filter (fun q=> !decide (q∈dn)):=by
    rw[List.filter_cons_of_neg (by simp)];refine List.filter_congr (fun q hq=>?_);have:q≠x:=fun e=>hn.1 (by rw[←e];exact hq);simp[this]
   rw[e,List.filter_cons_of_pos (by simp[hd]),List.map_cons,List.sum_cons]
  ·have hk:k∈ks:=by
    rcases List.mem_cons.1 h with e|h
    ·exact absurd e.symm hx
    ·exact h
   have ih:=rst_step (w:=w) (dn:=dn) hd hn.2 hk;unfold rst at ih;by_cases hxd:x∈dn
   ·rw[List.filter_cons_of_neg (by simp[hxd]),List.filter_cons_of_neg (by simp[hxd])];exact ih
   ·rw[List.filter_cons_of_pos (by simp[hxd]),List.filter_cons_of_pos (by simp[hxd,hx]),List.map_cons,List.map_cons,List.sum_cons,List.sum_cons,ih];omega
def dirS(D:Dk)(d:Pth):Nat:=usedL D.fs (D.now.filter (fun x=>dirP x.1=d))
theorem sum_if(ks:List Pth)(hn:ks.Nodup)(d:Pth)(a:Nat):d∈ks→(ks.map (fun k=>if d=k then a else 0)).sum=a:=by
 induction ks with
 |nil=>intro h;cases h
 |cons x ks ih=>
  intro h;rw[List.nodup_cons]at hn;rw[List.map_cons,List.sum_cons];by_cases hx:d=x
  ·subst hx
   rw[if_pos rfl]
   have:(ks.map (fun k=>if d=k then a else 0)).sum=0:=by
    have:ks.map (fun k=>if d=k then a else 0)=ks.map (fun _=>0):=List.map_congr_left (fun k hk=>if_neg (fun e=>hn.1 (by rw[e];exact hk)));rw[this];clear this ih hn h
    induction ks with
    |nil=>rfl
    |cons x ks ih=>rw[List.map_cons,List.sum_cons,ih]
   omega
  ·rw[if_neg hx,ih hn.2 (by
    rcases List.mem_cons.1 h with e|h
    ·exact absurd e hx
    ·exact h)];omega
theorem sum_add(ks:List Pth)(f g:Pth→Nat):(ks.map (fun k=>f k+g k)).sum=(ks.map f).sum+(ks.map g).sum:=by
 induction ks with
 |nil=>rfl
 |cons x ks ih=>simp only[List.map_cons,List.sum_cons,ih];omega
theorem dirS_all(fs:List Fdt)(ks:List Pth)(hn:ks.Nodup):∀l:Nms,(∀x∈l,dirP x.1∈ks)→(ks.map (fun d=>usedL fs (l.filter (fun x=>dirP x.1=d)))).sum=usedL fs l
 |[],_=>by
  have:ks.map (fun d=>usedL fs (([]:Nms).filter (fun x=>dirP x.1=d)))=ks.map (fun _=>0):=List.map_congr_left (fun k _=>rfl);rw[this];clear this hn;rename_i hh;clear hh
  induction ks with
  |nil=>rfl
  |cons x ks ih=>rw[List.map_cons,List.sum_cons,ih];rfl
 |x::l,h=>by
  have ih:=dirS_all fs ks hn l (fun y hy=>h y (List.mem_cons_of_mem _ hy))
  have e:ks.map (fun d=>usedL fs ((x::l).filter (fun x=>dirP x.1=d)))=ks.map (fun d=>(if dirP x.1=d then(fget fs x.2).now.length else 0)+usedL fs (l.filter (fun x=>dirP x.1=d))):=by
   refine List.map_congr_left (fun k _=>?_);by_cases hx:dirP x.1=k
   ·rw[List.filter_cons_of_pos (by simpa using hx),if_pos hx];simp[usedL]
   ·rw[List.filter_cons_of_neg (by simpa using hx),if_neg hx];simp
  rw[e,sum_add,sum_if ks hn _ _ (h x List.mem_cons_self),ih];simp[usedL]
theorem names_sum{D:Dk}{nm:Nms}{d:Pth}(hA:Asc D.now)(hn:(nm.map (·.1)).Nodup)(he:∀q,mget nm q=if dirP q=d then mget D.now q else none):((nm.map (·.1)).map (fun q=>(D.wasL q).length)).sum=dirS D d:=by
 have hF:Asc (D.now.filter (fun x=>decide (dirP x.1=d))):=hA.filter _
 have hp:(nm.map (·.1)).Perm ((D.now.filter (fun x=>decide (dirP x.1=d))).map (·.1)):=(List.perm_ext_iff_of_nodup hn hF.nodup).2 (fun q=>by
  rw[←isSome_iff_key,←isSome_iff_key,he,mget_filter (f:=fun p=>decide (dirP p=d))];by_cases h:dirP q=d<;>simp[h])
 rw[(hp.map _).sum_nat];unfold dirS usedL;rw[List.map_map];congr 1;refine List.map_congr_left (fun x hx=>?_);have:=mget_of_mem hA.nodup (show(x.1,x.2)∈D.now from(List.mem_filter.1 hx).1);simp only[Function.comp,Dk.wasL,this]
theorem used_all{K:List Nat}{g:Gh}{H:Heap}{b:Nat}{D:Dk}(hf:PDk K g H b D)(hA:Asc D.now):((g.dm.map (·.1)).map (dirS D)).sum=D.used:=
 dirS_all D.fs _ hf.hm.mo.nodup D.now (fun x hx=>by
  have h1:=mget_of_mem hA.nodup (show(x.1,x.2)∈D.now from hx);rw[←isSome_iff_key]
  cases hq:mget g.dm (dirP x.1)with
  |some _=>rfl
  |none=>rw[((hf.abs _ hq).1 x.1 rfl).1]at h1;cases h1)
theorem nodup_le{α:Type}[DecidableEq α]:∀{a b:List α},a.Nodup→(∀k∈a,k∈b)→a.length≤b.length
 |[],b,_,_=>Nat.zero_le _
 |x::a,b,hn,hs=>by
  rw[List.nodup_cons]at hn;have h:=nodup_le (b:=b.erase x) hn.2 (fun k hk=>(List.mem_erase_of_ne (fun e=>hn.1 (by rw[←e];exact hk))).2 (hs k (List.mem_cons_of_mem _ hk)));have hx:=hs x List.mem_cons_self;rw[List.length_erase_of_mem hx]at h;have:=List.length_pos_of_mem hx;simp only[List.length_cons];omega
set_option maxHeartbeats 2000000 in
theorem used_ct(K:List Nat)(g:Gh)(b:Nat)(D:Dk)(w0:World)(H0:Heap)
 (hf:PDk K g H0 b D) (hA:Asc D.now) (hU:D.used≤4611686018427387904):
 Ct Tryz.prog w0 113 #[ptr b] H0 (fun r H2=>r= .int .i64 (D.used:Int)∧Nw H0 H2):=by
 refine Ct.enter (args:=[ptr b]) Tryz.func113 rfl rfl rfl ?_;intro Q0 hret;have hm0:Nw H0 H0:=Mo.refl _ _;have ao:=hf.bk;refine CW.sr (fun aR=>?_);refine LR.an ?_;refine aR _ _ (CW.sr (fun aS=>?_));refine LR.an ?_;refine aS _ _ (CW.s1 (fun aT=>CW.sr (fun aU=>?_)));refine LR.m1 ?_;refine LR.n1 ?_;refine LR.v1 (Y.FA hf.vb.pt rfl u'73 rfl s'66) ?_;refine LR.v1 (Y.load1 (hf.vb.pt.drop 2) rfl a'66 rfl) ?_;have hmo:=hf.hm;have aj:=hmo.lt;obtain⟨es,ck,hmo⟩:=hmo.raw;refine LR.z1 (Z.rangeA hmo rfl u'66 rfl) fun a_ ak aV=>?_;obtain⟨rfl,it,ah,aW,ap⟩:=aV;have aI:ak.size=H0.size+1:=by rw[ap];simp
 have aJ:DL (H0.size+1) K:=DL.newK hf.bk;have aK:Dj (g.mb+1) (H0.size+1):=Dj.new hmo.lt;have aL:Nx 0 H0.size (H0.size+1):=Nx.new hm0.size;replace hf:=hf.nw ah;replace hmo:=hmo.nw ah;replace hm0:=hm0.tr ah;have ba:=ah.size;have aq:=it.lt;refine LR.nil (aU _ _ (CW.block (fun _ _ aX _=>?_)))
 refine CW.loop (fun(s_:(List Pth)×(Nat))=>match s_ with|(da,n)=>[(3,.int .i64 (n:Int)),(12,.pointer (some ⟨H0.size,0,none⟩))])
  (fun(da,n) (H:Heap)=>(Itr H H0.size g.mb Str es ck da)∧(da.Nodup∧∀k∈da,k∈g.dm.map (·.1))∧(n+rst (g.dm.map (·.1)) da (dirS D)=D.used)∧Mo (Ms [(H0.size+1)]) ak H)
  (fun(da,n)=>g.dm.length-da.length) ([],0) ⟨rfl,rfl,trivial⟩ ?_ ?_
 ·
  exact⟨it,⟨List.nodup_nil,by simp⟩,by rw[rst_nil,used_all hf hA];omega,Mo.refl _ _⟩
 rintro⟨da,n⟩ bb aY K6 aZ a0;obtain⟨it,hda,hsum,aa⟩:=aY;replace hf:=hf.upL aa (DKL.cons aJ DKL.nil);replace hmo:=hmo.upL aa (DL.o aK);replace hm0:=hm0.tq aa (MIL.o (MI.q aL));have bc:=aa.size;have ae:=Nx.refl (H0.size+1) ak.size;have hdl:=nodup_le hda.1 hda.2;rw[List.length_map]at hdl;refine CW.sr (fun a1=>?_);refine LR.z1 (Z.nextA it hmo keyStr.inj rfl rfl) fun bd ai a2=>?_;obtain⟨qb,d,db,dn1,rfl,it,hT13,hF13,af⟩:=a2;replace af:=af.md1;replace hf:=hf.upL af (DKL.cons aJ DKL.nil);replace hmo:=hmo.upL af (DL.o aK);replace hm0:=hm0.tq af (MIL.o (MI.q aL));replace aa:=aa.trL af (MIL.o (MI.r ae));have be:=af.size;refine LR.v1 (Y.ext0 rfl rfl) (LR.nil (a1 _ _ ?_));refine CW.s2 (fun a3 a4=>?_);refine CW.cond rfl (fun ar=>?_) (fun ar=>?_)
 ·
  obtain⟨hxy,hnd,hdq⟩:=hT13 ar;rw[hdq]at it;have hdb:=mget_of_mem hmo.mo.nodup hxy;obtain⟨nb,sb,kc,sv,nm,sm,hd⟩:=hf.dirs _ db hdb;have hxd:=hxy;have hndd:=hnd;have hrs:rst (g.dm.map (·.1)) da (dirS D)=dirS D d+rst (g.dm.map (·.1)) (da++[d]) (dirS D):=rst_step (w:=dirS D) hnd hmo.mo.nodup (List.mem_map.2 ⟨_,hxy,rfl⟩);refine CW.skip (a3 _ _ (CW.block (fun _ a5 _ _=>CW.sr (fun au=>?_))));refine LR.v1 (Y.entryA it hmo keyStr.inj hxy rfl rfl) ?_;refine LR.v1 (Y.extract rfl rfl rfl) ?_;refine LR.an ?_;refine au _ _ (CW.sr (fun av=>?_));refine LR.m1 ?_;refine LR.n1 ?_;refine LR.v1 (Y.FA hd.vd.pt rfl u'99 rfl s'96) ?_;refine LR.v1 (Y.FA (hd.vd.pt.drop 0) rfl u'96 rfl s'94) ?_;refine LR.v1 (Y.load1 ((hd.vd.pt.drop 0).drop 0) rfl a'94 rfl) ?_;have hmn:=hd.hn;have al:=hmn.lt;obtain⟨es2,ck2,hmn⟩:=hmn.raw;refine LR.z1 (Z.rangeA hmn rfl u'94 rfl) fun bf aw a6=>?_;obtain⟨rfl,it2,ag,a7,ax⟩:=a6;have aM:aw.size=ai.size+1:=by rw[ax];simp
  have aN:DL (ai.size+1) K:=DL.newK hf.bk;have aO:Dj (H0.size+1) (ai.size+1):=Dj.new it.lt;have aP:Dj (nb+1) (ai.size+1):=Dj.new hmn.lt;have aQ:Nx 0 ak.size (ai.size+1):=Nx.new aa.size;replace hf:=hf.nw ag;replace it:=it.nw ag;replace hmn:=hmn.nw ag;replace aa:=aa.trN ag;have bg:=ag.size;have am:=it2.lt;refine LR.nil (av _ _ (CW.block (fun _ _ ay _=>?_)))
  refine CW.loop (fun(s_:(List Pth)×(Nat))=>match s_ with|(dn,m)=>[(3,.int .i64 (m:Int)),(12,.pointer (some ⟨H0.size,0,none⟩)),(22,.pointer (some ⟨ai.size,0,none⟩))])
   (fun(dn,m) (H:Heap)=>(Itr H ai.size nb Str es2 ck2 dn)∧(dn.Nodup∧∀k∈dn,k∈nm.map (·.1))∧(m+rst (nm.map (·.1)) dn (fun q=>(D.wasL q).length)+rst (g.dm.map (·.1)) (da++[d]) (dirS D)=D.used)∧Mo (Ms [(ai.size+1)]) aw H)
   (fun(dn,m)=>nm.length-dn.length) ([],n) ⟨rfl,rfl,rfl,trivial⟩ ?_ ?_
  ·
   exact⟨it2,⟨List.nodup_nil,by simp⟩,by rw[rst_nil,names_sum hA hmn.mo.nodup hd.en];omega,Mo.refl _ _⟩
  rintro⟨dn,m⟩ bh a8 bi az aA;obtain⟨it2,hdn,hsum2,ab⟩:=a8;replace hf:=hf.upL ab (DKL.cons aN DKL.nil);replace it:=it.upL ab (DL.o aO);replace hmn:=hmn.upL ab (DL.o aP);replace aa:=aa.trL ab (MIL.o (MI.q aQ));have bj:=ab.size;have ac:=Nx.refl (ai.size+1) aw.size;have hdl:=nodup_le hdn.1 hdn.2;rw[List.length_map]at hdl;refine CW.sr (fun aB=>?_);refine LR.z1 (Z.nextA it2 hmn keyStr.inj rfl rfl) fun bl bm a9=>?_;obtain⟨qc,q,i,dn2,rfl,it2,hT23,hF23,ad⟩:=a9;replace ad:=ad.md1;replace hf:=hf.upL ad (DKL.cons aN DKL.nil);replace it:=it.upL ad (DL.o aO);replace hmn:=hmn.upL ad (DL.o aP);replace aa:=aa.trL ad (MIL.o (MI.q aQ));replace ab:=ab.trL ad (MIL.o (MI.r ac));have bn:=ad.size;refine LR.v1 (Y.ext0 rfl rfl) (LR.nil (aB _ _ ?_));refine CW.s2 (fun aC aD=>?_);refine CW.cond rfl (fun aE=>?_) (fun aE=>?_)
  ·
   obtain⟨hxy,hnd,hdq⟩:=hT23 aE;rw[hdq]at it2;have hqi:=mget_of_mem hmn.mo.nodup hxy;rw[hd.en]at hqi
   have hqi:mget D.now q=some i:=by
    split at hqi
    ·exact hqi
    ·cases hqi
   obtain⟨nv,sv2,wv,kw,lw,hfi⟩:=hf.fil i (hf.ids.1 q i hqi);have hrs2:rst (nm.map (·.1)) dn (fun q=>(D.wasL q).length)=(D.wasL q).length+rst (nm.map (·.1)) (dn++[q]) (fun q=>(D.wasL q).length):=rst_step (w:=fun q=>(D.wasL q).length) hnd hmn.mo.nodup (List.mem_map.2 ⟨_,hxy,rfl⟩);have hwl:D.wasL q=(fget D.fs i).now:=by unfold Dk.wasL;rw[hqi]
   refine CW.skip (aC _ _ (CW.block (fun _ aF _ _=>CW.sr (fun aG=>?_))));refine LR.v1 (Y.entryA it2 hmn keyStr.inj hxy rfl rfl) ?_;refine LR.v1 (Y.extract rfl rfl rfl) ?_;refine LR.an ?_;refine aG _ _ (CW.region ?_);refine LR.m1 ?_;refine LR.m1 ?_;refine LR.n1 ?_;refine LR.v1 (Y.FA hfi.vf.pt rfl u'112 rfl s'109) ?_;refine LR.v1 (Y.FA (hfi.vf.pt.drop 0) rfl u'109 rfl s'34) ?_;refine LR.v1 (Y.load1 ((hfi.vf.pt.drop 0).drop 0) rfl a'34 rfl) ?_;refine LR.v1 (Y.len hfi.hn rfl u'34 rfl) ?_;refine LR.v1 (Y.cast (v2:= .int .i64 ((m+(D.wasL q).length:Nat):Int)) (Y.addi rfl rfl rfl (by rw[hwl]at hrs2;omega)) (ivv (by rw[hwl];omega))) ?_;refine LR.an ?_;refine aF _ _ ?_
   have hdn2:(dn++[q]).Nodup∧∀k∈dn++[q],k∈nm.map (·.1):=by
    refine⟨?_,fun k hk=>?_⟩
    ·rw[List.nodup_append]
     exact⟨hdn.1,by simp,fun a ha b hb e=>by simp only[List.mem_singleton]at hb;subst hb;subst e;exact hnd ha⟩
    ·rcases List.mem_append.1 hk with h|h
     ·exact hdn.2 k h
     ·rw[List.mem_singleton.1 h];exact List.mem_map.2 ⟨_,hxy,rfl⟩
   have hdl2:=nodup_le hdn2.1 hdn2.2;rw[List.length_append,List.length_singleton,List.length_map]at hdl2;refine QN.sub (az (dn++[q],m+(D.wasL q).length) _ ?_ ?_) ⟨(iv (by omega)),rfl,rfl,trivial⟩
   ·exact⟨it2,hdn2,by rw[hrs2,←Nat.add_assoc]at hsum2;exact hsum2,ab⟩
   ·simp only[List.length_append,List.length_singleton];omega
  ·
   obtain⟨hall,_⟩:=hF23 aE;have hre:rst (nm.map (·.1)) dn (fun q=>(D.wasL q).length)=0:=rst_end (fun k hk=>by obtain⟨p,hp,rfl⟩:=List.mem_map.1 hk;exact hall p hp);refine CW.exit (aD (.exit 2) nofun _ _ (aA (.exit 2) nofun _ _ (ay _ _ ?_)));refine a5 _ _ ?_
   have hda2:(da++[d]).Nodup∧∀k∈da++[d],k∈g.dm.map (·.1):=by
    refine⟨?_,fun k hk=>?_⟩
    ·rw[List.nodup_append]
     exact⟨hda.1,by simp,fun a ha b hb e=>by simp only[List.mem_singleton]at hb;subst hb;subst e;exact hndd ha⟩
    ·rcases List.mem_append.1 hk with h|h
     ·exact hda.2 k h
     ·rw[List.mem_singleton.1 h];exact List.mem_map.2 ⟨_,hxd,rfl⟩
   have hdl2:=nodup_le hda2.1 hda2.2;rw[List.length_append,List.length_singleton,List.length_map]at hdl2;refine QN.sub (aZ (da++[d],m) _ ?_ ?_) ⟨(iv (by omega)),rfl,trivial⟩
   ·exact⟨it,hda2,by rw[hre,Nat.add_zero]at hsum2;exact hsum2,aa⟩
   ·simp only[List.length_append,List.length_singleton];omega
 ·
  obtain⟨hall,_⟩:=hF13 ar;have hre:rst (g.dm.map (·.1)) da (dirS D)=0:=rst_end (fun k hk=>by obtain⟨p,hp,rfl⟩:=List.mem_map.1 hk;exact hall p hp);refine CW.exit (a4 (.exit 0) nofun _ _ (a0 (.exit 0) nofun _ _ (aX _ _ ?_)));refine aT _ _ (CW.sr (fun aH=>?_));refine LR.m1 ?_;refine LR.an ?_;refine aH _ _ ?_;refine CW.ret (hret .ret (.inr rfl) _ _ _ (res1 rfl rfl) ?_);exact⟨by rw[show n=D.used by omega],hm0⟩
end SimF

namespace SimG
open E Go.RowKit SimA SimB SimC SimD SimE SimF
set_option maxRecDepth 100000 in
theorem inf97:Inf Tryz.prog 97 103 3 40:=⟨Tryz.underlying97,_,_,rfl,rfl,rfl,rfl,rfl⟩
theorem mkdir_ct(K:List Nat)(g:Gh)(b:Nat)(D:Dk)(p:Pth)(w0:World)(H0:Heap)
 (hf:PDk K g H0 b D) (hdl:g.dm.length+1≤D.ops):
 Ct Tryz.prog w0 86 #[ptr b,Str p] H0 (fun r H2=>∃K2:List Nat,∃g2:Gh,∃db:Nat,r=ptr db∧(PDk K2 g2 H2 b D)∧(NxK K H0.size K2)∧(mget g2.dm p=some db)∧(g2.fb=g.fb)∧Mo (Ms K) H0 H2):=by
 refine Ct.enter (args:=[ptr b,Str p]) Tryz.func86 rfl rfl rfl ?_;intro Q0 hret;have hm0:Mo (Ms K) H0 H0:=Mo.refl _ _;have aa:=NxK.refl K H0.size;have aj:=hf.bk;refine CW.sr (fun aB=>?_);refine LR.an ?_;refine aB _ _ (CW.seq (fun K2 aC _=>CW.region ?_));refine LR.m1 ?_;refine LR.n1 ?_;refine LR.v1 (Y.FA hf.vb.pt rfl u'73 rfl s'66) ?_;refine LR.v1 (Y.load1 (hf.vb.pt.drop 2) rfl a'66 rfl) ?_;refine LR.m1 ?_;refine LR.v1 (look_p adO hf.hm.mo (fun _=>rfl) keyStr rfl u'66 Tryz.underlying9 z'92 rfl rfl) ?_;refine LR.an ?_;refine aC _ _ (CW.s1 (fun aw=>CW.sr (fun aD=>?_)));refine LR.m1 ?_;refine LR.v1 (Y.peq rfl (by kernel_rfl) (by kernel_rfl) rfl rfl) (LR.nil (aD _ _ ?_));refine CW.cond rfl (fun ai=>?_) (fun ai=>?_)
 ·
  have hnd:mget g.dm p=none:=by
   cases hq:mget g.dm p with
   |none=>rfl
   |some db=>rw[hq]at ai;cases ai
  refine CW.sr (fun aE=>?_);refine LR.z1 (Z.makeMp Str (fvl g.fb) rfl) fun aU af aF=>?_;obtain⟨rfl,hn,ag,aG,ak⟩:=aF;have ax:af.size=H0.size+1:=by rw[ak];simp
  have aH:DL (H0.size+1) K:=DL.newK hf.bk;have aI:Nx 0 H0.size (H0.size+1):=Nx.new hm0.size;replace hf:=hf.nw ag;replace hm0:=hm0.trN ag;have aV:=ag.size;have al:=hn.lt;refine LR.z1 (Z.makeMp Str (fvl g.fb) rfl) fun aW ah aJ=>?_;obtain⟨rfl,hs,ac,aK,am⟩:=aJ;have ay:ah.size=af.size+1:=by rw[am];simp
  have aL:DL (af.size+1) K:=DL.newK hf.bk;have aM:Nx 0 H0.size (af.size+1):=Nx.new hm0.size;replace hf:=hf.nw ac;replace hn:=hn.nw ac;replace hm0:=hm0.trN ac;have aX:=ac.size;have ao:=hs.lt;refine LR.v1 (Y.build (v:= .agg #[.map (some H0.size),.map (some af.size)]) rfl rfl (by intro w;kernel_rfl)) ?_;refine LR.v1 (Y.build (v:= .agg #[.map (some H0.size),.map (some af.size),.slice none 0 0]) rfl rfl (by intro w;kernel_rfl)) ?_;refine LR.z1 (Z.boxv rfl rfl) fun aY az aN=>?_;obtain⟨rfl,hvd,ab,aO,ap⟩:=aN;have aA:az.size=ah.size+1:=by rw[ap];simp
  have aP:DL (ah.size+1) K:=DL.newK hf.bk;have aQ:Nx 0 H0.size (ah.size+1):=Nx.new hm0.size;replace hf:=hf.nw ab;replace hn:=hn.nw ab;replace hs:=hs.nw ab;replace hm0:=hm0.trN ab;have aZ:=ab.size;replace hvd:Var 99 az ah.size ([.map (some H0.size),.map (some af.size),.slice none 0 0]):=hvd;refine LR.an ?_;refine aE _ _ (CW.region ?_);refine LR.m1 ?_;refine LR.n1 ?_;refine LR.v1 (Y.FA hf.vb.pt rfl u'73 rfl s'66) ?_;refine LR.v1 (Y.load1 (hf.vb.pt.drop 2) rfl a'66 rfl) ?_;refine LR.m1 ?_;refine LR.m1 ?_;refine LR.s1 (S.putMp ah.size hf.hm keyStr rfl u'66 Tryz.underlying9 rfl rfl rfl) fun aR aq=>?_;obtain⟨hmp,ad⟩:=aq;have ae:=hf.ms ad (fun c e=>by rw[e,hf.rm];simp);replace hm0:=hm0.trL ae (MIL.ofK (aa) (by intro k hk;simp[hk]));have a0:=ae.size;have ar:=NxK.cons (aI) (aa);have au:=NxK.cons (aM) (ar);have av:=NxK.cons (aQ) (au);replace hf:=hf.newDir hnd hvd hn hs (aP) (aH) (aL) (by omega) (by omega) (by omega) ad.md1 hmp hdl;refine LR.nil (aw _ _ (CW.sr (fun aS=>?_)));refine LR.m1 ?_;refine LR.an ?_;refine aS _ _ ?_;refine CW.ret (hret .ret (.inr rfl) _ _ _ (res1 rfl rfl) ?_);exact⟨_,_,_,rfl,hf,av,by show mget (mput g.dm p _) p=_;rw[mget_put,if_pos rfl],rfl,hm0⟩
 ·
  obtain⟨db,hdb⟩:∃db,mget g.dm p=some db:=by
   cases hq:mget g.dm p with
   |none=>rw[hq]at ai;cases ai
   |some db=>exact⟨db,rfl⟩
  refine CW.skip (aw _ _ (CW.sr (fun aT=>?_)));refine LR.m1 ?_;refine LR.an ?_;refine aT _ _ ?_;refine CW.ret (hret .ret (.inr rfl) _ _ _ (res1 rfl rfl) ?_);exact⟨K,g,db,by rw[hdb];rfl,hf,aa,hdb,rfl,hm0⟩
set_option maxHeartbeats 2000000 in
theorem change_ct(K:List Nat)(g:Gh)(b:Nat)(D:Dk)(p:Pth)(c:Chg)(w0:World)(H0:Heap)
 (hf:PDk K g H0 b D) (hdl:g.dm.length+1≤D.ops) (hcd:c.dir=p) (hcn:∀i,c.f=some i→dirP c.n=p∧i<D.fs.length) (hcg:c.g≠[]→dirP c.g=p) (hll:D.log.length≤1099511627776):
 Ct Tryz.prog w0 85 #[ptr b,Str p,.agg (fC g.fb c).toArray] H0 (fun r H2=>∃K2:List Nat,∃g2:Gh,r= .tuple #[]∧(PDk K2 g2 H2 b (D.change c))∧(NxK K H0.size K2)∧(g2.fb=g.fb)∧Mo (Ms K) H0 H2):=by
 refine Ct.enter (args:=[ptr b,Str p,.agg (fC g.fb c).toArray]) Tryz.func85 rfl rfl rfl ?_;intro Q0 hret;have hm0:Mo (Ms K) H0 H0:=Mo.refl _ _;have ab:=NxK.refl K H0.size;have ag:=hf.bk;refine CW.sr (fun aP=>?_);refine LR.z1 (Z.boxv rfl rfl) ?_;rintro v5 H5 ⟨rfl,vc,av,a1,aQ⟩;have aR:H5.size=H0.size+1:=by rw[aQ];simp
 have aK:DL (H0.size+1) K:=DL.newK hf.bk;replace hf:=hf.nw av;replace hm0:=hm0.trN av;have a2:=av.size;replace vc:Var 103 H5 H0.size (fC g.fb c):=vc;refine LR.nil (aP _ _ (CW.seq (fun K2 aS _=>CW.region ?_)));refine LR.m1 ?_;refine LR.m1 ?_;refine LR.call rfl c'86 rfl (Wd.u rfl) rfl rfl (mkdir_ct K g b D p w0 _ hf hdl) (fun v9 H9 r9=>?_);have aT:=vc.lt;obtain⟨K9,g9,db,rfl,hf,am,hdb,aL,aw⟩:=r9;have aM:DL (H0.size+1) K9:=DL.appK (aK) aT am;have au:NxK K H0.size K9:=NxK.tr (ab) am hm0.size;replace vc:=vc.upL aw (aK);replace hm0:=hm0.trL aw (MIL.ofK (ab) (by intro k hk;simp[hk]));have a3:=aw.size;have ag:=hf.bk;rw[←aL]at vc;refine LR.an ?_;refine aS _ _ (CW.s1 (fun aU=>?_));obtain⟨nbA,sbA,kcA,svA,nmA,smA,hdA⟩:=hf.dirs _ db hdb;refine CW.region_tail 6 rfl (by kernel_rfl) (fun T2 hT2=>?_);refine LR.m1 ?_;refine LR.n1 ?_;refine LR.v1 (Y.FA hdA.vd.pt rfl u'99 rfl s'96) ?_;refine LR.v1 (Y.FA (hdA.vd.pt.drop 0) rfl u'96 rfl s'94) ?_;refine LR.v1 (Y.load1 ((hdA.vd.pt.drop 0).drop 0) rfl a'94 rfl) ?_;refine LR.v1 (Y.loadN vc.pt rfl a'103 s'103 (rfl) rfl) ?_;refine LR.nil (hT2 _ ?_);refine LR.call rfl c'39 rfl (Wd.u rfl) rfl rfl ((put_ct g9.fb nbA nmA c w0 _ hdA.hn).mono (fun r H2 h=>hf.put hdb hdA h.2 h.1 (mget_apM c nmA) (fun i hi=>⟨(hcn i hi).1,(hcn i hi).2⟩) hcg)) (fun a4 ad aV=>?_);obtain⟨hf,ak⟩:=aV;replace vc:=vc.upL ak (aM);replace hm0:=hm0.trL ak (MIL.ofK (au) (by intro k hk;simp[hk]));have a5:=ak.size;have ag:=hf.bk;refine LR.nil (aU _ _ ?_);obtain⟨nbB,sbB,kcB,svB,nmB,smB,hdB⟩:=hf.dirs _ db hdb;have hll2:(D.chgs p).length≤D.log.length:=List.length_filter_le _ _;have hop:Mo (Ms [(db+1),kcB]) ad ad:=Mo.refl _ _;have km7:KM K9 (db+1):=(hf.km1 hdB.rd (by simp));have vd:=hdB.vd;have ax:=vd.lt;have aW:MI K H0.size (db+1):=MIL.at (MIL.ofK (au) (by intro k hk;simp[hk])) km7;have ay:=Nx.refl (db+1) ad.size;have km11:KM K9 kcB:=(hf.km hdB.rc (by simp));have hc:=(show Ow kcB 103 _ (fC g9.fb) 3 svB.v (D.chgs p)from hdB.hc);have al:=hc.le;have az:Dj (H0.size+1) kcB:=DL.at (aM) km11;have aA:MI K H0.size kcB:=MIL.at (MIL.ofK (au) (by intro k hk;simp[hk])) km11;have ao:=Nx.refl kcB ad.size;have ai:Dj (db+1) kcB:=fun x h1 h2=>by have h3:=hdB.rc x h2;rw[show x=db by omega,hdB.rd]at h3;cases h3
 refine CW.region_any (fun Hq=>Mo (Ms [kcB]) ad Hq) [8,9,10] rfl ?_;have ac:Mo (Ms [kcB]) ad ad:=Mo.refl _ _;have aB:=Nx.refl kcB ad.size;refine LH.m1 0 rfl ac ?_;refine LH.m1 1 rfl ac ?_;refine LH.n1 2 rfl ac ?_;refine LH.t1 3 rfl (fun Hq hq=>Y.fieldAddr (vd.upL hq (DL.o ai)).pt rfl u'99 rfl rfl s'97 (by decide) rfl) ac ?_;refine LH.t1 4 rfl (fun Hq hq=>Y.load1 ((vd.upL hq (DL.o ai)).pt.drop 2) rfl a'97 rfl) ac ?_;refine LH.t1 5 rfl (fun Hq hq=>Y.loadN (vc.upL hq (DL.o az)).pt rfl a'103 s'103 (rfl) rfl) ac ?_;refine LH.o1 6 ?_;refine LO.z rfl (Z.litw _ ([c]) rfl inf97 rfl rfl rfl (by decide) (by decide) (fC_len _) (fC_one _) (rfl)) (Wd.u rfl) rfl rfl (fun a6 aj aX=>?_);obtain⟨aC,af,aY,aD⟩:=aX;have aN:aj.size=ad.size+1:=by rw[aD];simp
 have aE:Nx 0 ad.size (ad.size+1):=Nx.new ac.size;replace vd:=vd.nw af;replace hc:=hc.nw af;replace hm0:=hm0.trN af;replace hop:=hop.trN af;replace ac:=ac.trN af;have a7:=af.size;refine⟨.inr ac,LH.narrow (SH2:=fun Hq=>Mo (Ms [kcB,(ad.size+1)]) aj Hq) (fun Hq hq=>ac.trL hq (MIL.cons (MI.r aB) (MIL.o (MI.q aE)))) ?_⟩;have ac:Mo (Ms [kcB,(ad.size+1)]) aj aj:=Mo.refl _ _;have ap:=Nx.refl kcB aj.size;have aF:=Nx.refl (ad.size+1) aj.size;refine LH.o1 7 ?_;refine LO.z rfl (Z.apnd hc aC.rd rfl inf97 rfl rfl (by first|omega|(simp;omega)) (by first|omega|(simp;omega))) (Wd.u rfl) rfl rfl (fun aG aZ a0=>?_);obtain⟨kc2,hc,ah,ae⟩:=a0;replace ah:Nx kcB aj.size kc2:=ah;replace ae:=ae.md;have aH:Dj (db+1) kc2:=Dj.app (ai) vd.lt ah;have aq:Nx kcB ad.size kc2:=Nx.tr (ao) ah hop.size;have aI:Nx kcB aj.size kc2:=Nx.tr (ap) ah ac.size;replace vd:=vd.upL ae (DL.o ai);replace hm0:=hm0.trL ae (MIL.cons (aA) MIL.nil);replace hop:=hop.trL ae (MIL.o (MI.r ao));replace ac:=ac.trL ae (MIL.o (MI.r ap));have a8:=ae.size;have al:=hc.le;refine⟨.inr ac,LH.narrow (SH2:=fun Hq=>Mo (Ms [kc2,(ad.size+1)]) aZ Hq) (fun Hq hq=>ac.trL hq (MIL.cons (MI.r aI) (MIL.o (MI.r aF)))) ?_⟩;refine LH.o1 8 ?_;refine LO.v rfl (Y.nilCheck rfl rfl) (Wd.u rfl) rfl rfl (.inl rfl) ?_;refine LH.o1 9 ?_;refine LO.v rfl (Y.FA vd.pt rfl u'99 rfl s'97) (Wd.u rfl) rfl rfl (.inl rfl) ?_;refine LH.o1 10 ?_;refine LO.s rfl (S.var1 vd 2 ([.map (some nbB),.map (some sbB),aG]) rfl rfl rfl (hc.rd.oneCell) s'97 (by simp) (rfl)) (Wd.u rfl) rfl (fun aO ar=>?_);obtain⟨vd,aa⟩:=ar;replace aa:=aa.md1;replace hc:=hc.upL aa (DL.o aH.symm);replace hm0:=hm0.trL aa (MIL.cons (aW) MIL.nil);replace hop:=hop.trL aa (MIL.o (MI.r ay));have a9:=aa.size;refine⟨.inl rfl,?_⟩;refine LH.done (by kernel_rfl) ?_;obtain⟨sv2,rfl⟩:∃s:SV,aG=s.v:=⟨toSV aG,hc.sv.symm⟩;have aJ:NxK K H0.size (kc2::K9):=(NxK.app (au) (km11) (aq) (by omega));replace hf:=hf.note hdb hdB hop vd hc (aq) hcd (fun i hi=>(hcn i hi).2);refine hret .normal (.inl rfl) _ _ _ (res0 rfl) ?_;exact⟨_,_,rfl,hf,aJ,aL,hm0⟩
end SimG

namespace SimH
open E Go.RowKit SimA SimB SimC SimD SimE SimF SimG
set_option maxRecDepth 100000 in
theorem inf110:Inf Tryz.prog 110 149 2 32:=⟨Tryz.underlying110,_,_,rfl,rfl,rfl,rfl,rfl⟩
structure Bd (n:Nat) (D:Dk):Prop where
 an:Asc D.now
 ast:Asc D.stays
 us:D.used≤2305843009213693952
 lg:D.log.length≤n
 op:D.ops≤n
 nw:∀i,(fget D.fs i).now.length≤n
 sy:∀i,(fget D.fs i).stays.length≤n
 w:∀i,(fget D.fs i).w.length≤n
 wd:∀i,∀y∈(fget D.fs i).w,y.d.length≤n
 nl:D.now.length≤n
 sl:D.stays.length≤n
 fl:D.fs.length≤n
 pf:∀i j,(onAll ((fget D.fs i).w.take j) (fget D.fs i).stays).length≤n
 ld:∀c∈D.log,∀i,c.f=some i→dirP c.n=c.dir
theorem begin_same(D:Dk):D.begin.2.cap=D.cap∧D.begin.2.most=D.most∧D.begin.2.fs=D.fs∧D.begin.2.now=D.now∧D.begin.2.stays=D.stays∧D.begin.2.log=D.log∧D.begin.2.ops≤D.ops+1:=by
 unfold Dk.begin;split
 ·exact⟨rfl,rfl,rfl,rfl,rfl,rfl,Nat.le_succ _⟩
 ·split
  ·exact⟨rfl,rfl,rfl,rfl,rfl,rfl,Nat.le_succ _⟩
  ·exact⟨rfl,rfl,rfl,rfl,rfl,rfl,Nat.le_refl _⟩
theorem begin_true{D:Dk}(h:D.begin.1=true):D.begin.2.ops=D.ops+1∧D.begin.2.dead=false:=by
 unfold Dk.begin at h⊢;split at h
 ·cases h
 ·rename_i h1
  split at h
  ·cases h
  ·rename_i h2
   rw[if_neg h1,if_neg h2];exact⟨rfl,by simpa using h1⟩
theorem Bd.mono{n m:Nat}{D:Dk}(h:Bd n D)(hm:n≤m):Bd m D:=⟨h.an,h.ast,h.us,Nat.le_trans h.lg hm,Nat.le_trans h.op hm,fun i=>Nat.le_trans (h.nw i) hm,fun i=>Nat.le_trans (h.sy i) hm,fun i=>Nat.le_trans (h.w i) hm,fun i y hy=>Nat.le_trans (h.wd i y hy) hm,Nat.le_trans h.nl hm,Nat.le_trans h.sl hm,Nat.le_trans h.fl hm,fun i j=>Nat.le_trans (h.pf i j) hm,h.ld⟩
theorem Bd.begin{n:Nat}{D:Dk}(h:Bd n D):Bd (n+1) D.begin.2:=by
 obtain⟨e1,e2,e3,e4,e5,e6,e7⟩:=begin_same D;have h:=h.mono (Nat.le_succ n);exact⟨by rw[e4];exact h.an,by rw[e5];exact h.ast,by unfold Dk.used;rw[e3,e4];exact h.us,by rw[e6];exact h.lg,by have:=Bd.op ‹Bd n D›;omega,by rw[e3];exact h.nw,by rw[e3];exact h.sy,by rw[e3];exact h.w,by rw[e3];exact h.wd,by rw[e4];exact h.nl,by rw[e5];exact h.sl,by rw[e3];exact h.fl,by rw[e3];exact h.pf,by rw[e6];exact h.ld⟩
theorem look_0{D:Dk}{p:Pth}(h:D.look p=0):nameB p=true∧∃i,mget D.now p=some i:=by
 unfold Dk.look at h
 cases hn:nameB p with
 |false=>rw[hn]at h;simp at h
 |true=>
  rw[hn]at h
  cases hq:mget D.now p with
  |none=>rw[hq]at h;simp at h
  |some i=>exact⟨rfl,i,rfl⟩
theorem look_2{D:Dk}{p:Pth}(h:D.look p=2):nameB p=true∧mget D.now p=none:=by
 unfold Dk.look at h
 cases hn:nameB p with
 |false=>rw[hn]at h;simp at h
 |true=>
  rw[hn]at h
  cases hq:mget D.now p with
  |none=>exact⟨rfl,rfl⟩
  |some i=>rw[hq]at h;simp at h
theorem look_7{D:Dk}{p:Pth}(h:D.look p=7):nameB p=false:=by
 unfold Dk.look at h
 cases hn:nameB p with
 |false=>rfl
 |true=>
  rw[hn]at h
  cases hq:mget D.now p with
  |none=>rw[hq]at h;simp at h
  |some i=>rw[hq]at h;simp at h
theorem look_or(D:Dk)(p:Pth):D.look p=0∨D.look p=2∨D.look p=7:=by
 unfold Dk.look;split
 ·split
  ·exact .inl rfl
  ·exact .inr (.inl rfl)
 ·exact .inr (.inr rfl)
theorem on_len(w:Wr)(b:List UInt8):(w.on b w.d.length).length=(if w.b=true then b.length else 0)+w.d.length:=by
 unfold Wr.on;rw[List.length_append,List.length_take,Nat.min_self];split<;>rfl
theorem fget_put{D:Dk}{i:Nat}{x:Fdt}(h:i<D.fs.length):fget (D.putF i x).fs i=x:=by simp[fget,Dk.putF,List.getD,h]
theorem fl_put{D:Dk}{i:Nat}{x:Fdt}:(D.putF i x).fs.length=D.fs.length:=by simp[Dk.putF]
theorem put_put{D:Dk}{i:Nat}{x y:Fdt}:(D.putF i x).putF i y=D.putF i y:=by simp[Dk.putF]
theorem lay_dead{D:Dk}{p:Pth}{w:Wr}(h:D.begin.1=false):D.lay p w=(11,D.begin.2):=by unfold Dk.lay;simp[h]
theorem lay_go{D:Dk}{p:Pth}{w:Wr}(h:D.begin.1=true):D.lay p w=(D.begin.2.layE p w,if D.begin.2.layE p w=0 then D.begin.2.write p w else D.begin.2):=by unfold Dk.lay;simp[h]
theorem layE_7{D:Dk}{p:Pth}{w:Wr}(h:nameB p=false):D.layE p w=7:=by unfold Dk.layE;rw[if_pos h]
theorem layE_5{D:Dk}{p:Pth}{w:Wr}(h:nameB p=true)(h2:D.most<(w.on (D.wasL p) w.d.length).length):D.layE p w=5:=by unfold Dk.layE;rw[if_neg (by simp[h]),if_pos h2]
theorem layE_12{D:Dk}{p:Pth}{w:Wr}(h:nameB p=true)(h2:¬D.most<(w.on (D.wasL p) w.d.length).length)(h3:D.cap+(D.wasL p).length<D.used+(w.on (D.wasL p) w.d.length).length):D.layE p w=12:=by unfold Dk.layE;rw[if_neg (by simp[h]),if_neg h2,if_pos h3]
theorem layE_0{D:Dk}{p:Pth}{w:Wr}(h:nameB p=true)(h2:¬D.most<(w.on (D.wasL p) w.d.length).length)(h3:¬D.cap+(D.wasL p).length<D.used+(w.on (D.wasL p) w.d.length).length):D.layE p w=0:=by unfold Dk.layE;rw[if_neg (by simp[h]),if_neg h2,if_neg h3]
theorem was_some{D:Dk}{p:Pth}{i:Nat}(h:mget D.now p=some i):D.wasL p=(fget D.fs i).now:=by unfold Dk.wasL;rw[h]
theorem was_none{D:Dk}{p:Pth}(h:mget D.now p=none):D.wasL p=[]:=by unfold Dk.wasL;rw[h]
theorem write_some{D:Dk}{p:Pth}{i:Nat}{w:Wr}(h:mget D.now p=some i)(hi:i<D.fs.length):
 (D.putF i ⟨w.on (D.wasL p) w.d.length,(fget D.fs i).stays,(fget D.fs i).w⟩).putF i ⟨(fget (D.putF i ⟨w.on (D.wasL p) w.d.length,(fget D.fs i).stays,(fget D.fs i).w⟩).fs i).now,(fget (D.putF i ⟨w.on (D.wasL p) w.d.length,(fget D.fs i).stays,(fget D.fs i).w⟩).fs i).stays,(fget (D.putF i ⟨w.on (D.wasL p) w.d.length,(fget D.fs i).stays,(fget D.fs i).w⟩).fs i).w++[w]⟩=D.write p w:=by
 rw[fget_put hi,put_put,was_some h];unfold Dk.write Dk.make;rw[h]
def mk1(D:Dk)(p:Pth):Dk:=({D with fs:=D.fs++[⟨[],[],[]⟩]}:Dk).change ⟨[],p,some D.fs.length⟩
theorem mk1_get(D:Dk)(p:Pth):fget (mk1 D p).fs D.fs.length=⟨[],[],[]⟩:=by simp[mk1,Dk.change,fget,List.getD]
theorem mk1_len(D:Dk)(p:Pth):D.fs.length<(mk1 D p).fs.length:=by simp[mk1,Dk.change]
theorem write_none{D:Dk}{p:Pth}{w:Wr}(h:mget D.now p=none):
 ((mk1 D p).putF D.fs.length ⟨w.on (fget (mk1 D p).fs D.fs.length).now w.d.length,(fget (mk1 D p).fs D.fs.length).stays,(fget (mk1 D p).fs D.fs.length).w⟩).putF D.fs.length ⟨(fget ((mk1 D p).putF D.fs.length ⟨w.on (fget (mk1 D p).fs D.fs.length).now w.d.length,(fget (mk1 D p).fs D.fs.length).stays,(fget (mk1 D p).fs D.fs.length).w⟩).fs D.fs.length).now,(fget ((mk1 D p).putF D.fs.length ⟨w.on (fget (mk1 D p).fs D.fs.length).now w.d.length,(fget (mk1 D p).fs D.fs.length).stays,(fget (mk1 D p).fs D.fs.length).w⟩).fs D.fs.length).stays,(fget ((mk1 D p).putF D.fs.length ⟨w.on (fget (mk1 D p).fs D.fs.length).now w.d.length,(fget (mk1 D p).fs D.fs.length).stays,(fget (mk1 D p).fs D.fs.length).w⟩).fs D.fs.length).w++[w]⟩=D.write p w:=by
 rw[fget_put (mk1_len D p),put_put];unfold Dk.write Dk.make;rw[h];rfl
set_option maxHeartbeats 1000000 in
theorem lay_ct(mx_:Int)(K:List Nat)(g:Gh)(b:Nat)(D:Dk)(p:Pth)(x:Wx)(F:Nat→Prop)(w0:World)(H0:Heap)
 (hf:PDk K g H0 b D) (mx:MX mx_ H0) (bf_mx:BF (fun b=>b=0) H0.size) (dmx:DFL (fun b=>b=0) K) (hd:Rd F H0 fB 1 x.2.v x.1.d) (bf_hd:BF F H0.size) (dfd:DFL F K) (hl:p.length≤4294967280) (hB:Bd 274877906944 D) (hdl:x.1.d.length≤274877906944):
 Ct Tryz.prog w0 74 #[ptr b,Str p,wV x] H0 (fun r H2=>∃K2:List Nat,∃g2:Gh,r= .int .i64 ((D.lay p x.1).1:Int)∧(PDk K2 g2 H2 b (D.lay p x.1).2)∧(NxK K H0.size K2)∧Mo (Ms K) H0 H2):=by
 refine Ct.enter (args:=[ptr b,Str p,wV x]) Tryz.func74 rfl rfl rfl ?_;intro Q0 hret;have hm0:Mo (Ms K) H0 H0:=Mo.refl _ _;have ae:=NxK.refl K H0.size;have ar:=hf.bk;have hop0:=hB.op;have hdm0:=hf.dml;obtain⟨D1,hD1⟩:∃D1,D1=D.begin.2:=⟨_,rfl⟩;have hB1:=hB.begin;rw[←hD1]at hB1;refine CW.sr (fun db=>?_);refine LR.z1 (Z.boxv rfl rfl) ?_;rintro v5 H5 ⟨rfl,vw,bc,dX,dc⟩;have dd:H5.size=H0.size+1:=by rw[dc];simp
 have bd:DL (H0.size+1) K:=DL.newK hf.bk;have c_:Nx 0 H0.size (H0.size+1):=Nx.new hm0.size;replace hf:=hf.nw bc;replace mx:=mx.nw bc;replace hd:=hd.nw bc;replace hm0:=hm0.trN bc;have dY:=bc.size;replace vw:Var 149 H5 H0.size (fW x):=vw;refine LR.an ?_;refine db _ _ (CW.seq (fun K2 de df=>CW.sr (fun dg=>?_)));refine LR.m1 ?_;refine LR.call rfl c'73 rfl (Wd.u rfl) rfl rfl (begin_ct K g b D w0 _ hf (by omega)) (fun dZ d0 dh=>?_);obtain⟨g1,rfl,hf,di,aM⟩:=dh;replace mx:=mx.upL aM (dmx);replace hd:=hd.upL aM (dfd);replace vw:=vw.upL aM (bd);replace hm0:=hm0.trL aM (MIL.ofK (ae) (by intro k hk;simp[hk]));have d1:=aM.size;rw[←hD1]at hf;refine LR.v1 (Y.not rfl rfl) (LR.nil (dg _ _ ?_));refine CW.cond rfl (fun bV=>?_) (fun bV=>?_)
 ·
  refine CW.sr (fun dj=>?_);refine LR.an ?_;refine dj _ _ ?_;refine CW.ret (df .ret nofun _ _ (hret .ret (.inr rfl) _ _ _ (res1 rfl rfl) ?_));have hdd:=lay_dead (p:=p) (w:=x.1) (show D.begin.1=false by simpa using bV);exact⟨_,_,by rw[hdd];rfl,by rw[hdd];rw[hD1]at hf;exact hf,ae,hm0⟩
 ·
  have hgo:D.begin.1=true:=by simpa using bV
  have hops:=(begin_true hgo).1;rw[←hD1]at hops;have hlo:=look_or D1 p;have hlay:=lay_go (p:=p) (w:=x.1) hgo;rw[←hD1]at hlay;refine CW.skip (de _ _ (CW.sr (fun dk=>?_)));refine LR.m1 ?_;refine LR.m1 ?_;refine LR.call rfl c'63 rfl (Wd.u rfl) rfl rfl (find_ct mx_ K g1 b D1 p w0 _ mx (bf_mx.mono (by omega)) hf hl) (fun d2 aC dl=>?_);obtain⟨rfl,aJ⟩:=dl;replace hf:=hf.nw aJ;replace mx:=mx.nw aJ;replace hd:=hd.nw aJ;replace vw:=vw.nw aJ;replace hm0:=hm0.trN aJ;have d3:=aJ.size;refine LR.m1 ?_;refine LR.v1 (Y.extract rfl rfl rfl) ?_;refine LR.v1 (Y.extract rfl rfl rfl) ?_;refine LR.a1 ?_;refine LR.an ?_;refine dk _ _ (CW.s2 (fun dn dp=>CW.sr (fun dq=>?_)));refine LR.m1 ?_;refine LR.v1 (Y.eql rfl rfl rfl) (LR.nil (dq _ _ ?_));refine CW.condp rfl (fun dr=>?_) (fun dr=>?_)
  ·
   refine CW.sr (fun ds=>?_);refine LR.m1 ?_;refine LR.an ?_;refine ds _ _ ?_;refine CW.ret (dp .ret nofun _ _ (hret .ret (.inr rfl) _ _ _ (res1 rfl rfl) ?_));have hE:D1.layE p x.1=7:=layE_7 (look_7 (D:=D1) (by omega));exact⟨_,_,by rw[hlay,hE];rw[show D1.look p=7 by omega];rfl,by rw[hlay];simp only[hE];exact hf,ae,hm0⟩
  ·
   refine CW.skip (dn _ _ (CW.sr (fun dt=>?_)));refine LR.an ?_;refine dt _ _ (CW.s1 (fun be=>CW.sr (fun bW=>?_)));refine LR.m1 ?_;refine LR.v1 (Y.peq rfl (by kernel_rfl) (by kernel_rfl) rfl rfl) (LR.nil (bW _ _ ?_));refine CW.cond rfl (fun bf=>?_) (fun bf=>?_)
   ·
    have hlk:D1.look p=2:=by
     rcases hlo with h|h|h
     ·obtain⟨_,i,hi⟩:=look_0 h
      rw[if_pos h,hi]at bf;cases bf
     ·exact h
     ·omega
    obtain⟨hnm,hnow⟩:=look_2 hlk;have hwas:=was_none hnow;have hwas0:(D1.wasL p).length=0:=by rw[hwas];rfl
    refine CW.region ?_;refine LR.v1 (Y.build (v:= .agg #[.slice none 0 0,.slice none 0 0,.slice none 0 0]) rfl rfl (by intro w;kernel_rfl)) ?_;refine LR.z1 (Z.boxv rfl rfl) fun d4 bg du=>?_;obtain⟨rfl,vf,aK,dv,bX⟩:=du;have da:bg.size=aC.size+1:=by rw[bX];simp
    have dw:DL (aC.size+1) K:=DL.newK hf.bk;have dx:=(DF.new (bf_hd.mono hm0.size):DF _ (aC.size+1));have dy:Dj (H0.size+1) (aC.size+1):=Dj.new vw.lt;have dz:Nx 0 H0.size (aC.size+1):=Nx.new hm0.size;replace hf:=hf.nw aK;replace mx:=mx.nw aK;replace hd:=hd.nw aK;replace vw:=vw.nw aK;replace hm0:=hm0.trN aK;have d5:=aK.size;replace vf:Var 112 bg aC.size ([.slice none 0 0,.slice none 0 0,.slice none 0 0]):=vf;refine LR.an ?_;refine be _ _ (CW.sr (fun bY=>?_));refine LR.v1 (Y.FA vw.pt rfl u'149 rfl s'34) ?_;refine LR.v1 (Y.load1 (vw.pt.drop 1) rfl a'34 rfl) ?_;refine LR.v1 (Y.len hd rfl u'34 rfl) ?_;refine LR.an ?_;refine bY _ _ ?_
    refine CW.cut (fun(sz:(Nat))=>[(0,ptr b),(1,Str p),(5,.pointer (some ⟨H0.size,0,none⟩)),(7,ptr aC.size),(8,.int .i64 (D1.look p:Int)),(9,.int .i64 (0)),(10,.int .i64 (sz:Int))])
     (fun(sz:(Nat)) (H:Heap)=>(sz=(x.1.on (D1.wasL p) x.1.d.length).length)∧((D1.wasL p).length≤274877906945)∧Nw bg H) (fun _ bh _=>?_) ?_
    ·
     have aW:Nw bg bg:=Mo.refl _ _;refine CW.sr (fun bZ=>?_);refine LR.v1 (Y.FA vw.pt rfl u'149 rfl s'4) ?_;refine LR.v1 (Y.load1 vw.pt rfl a'4 rfl) (LR.nil (bZ _ _ ?_));refine CW.cond rfl (fun a4=>?_) (fun a4=>?_)
     ·
      refine CW.region ?_;refine LR.m1 ?_;refine LR.m1 ?_;refine LR.v1 (Y.addi rfl rfl rfl (by omega)) ?_;refine LR.an ?_;refine QN.sub (bh ((D1.wasL p).length+x.1.d.length) _ ?_) ⟨rfl,rfl,rfl,rfl,(iv (by omega)),(iv (by omega)),(iv (by omega)),trivial⟩;exact⟨by rw[on_len,if_pos a4],by first|(rw[hwas];omega)|(rw[hwas];simp),aW⟩
     ·
      refine CW.skip ?_;refine QN.sub (bh x.1.d.length _ ?_) ⟨rfl,rfl,rfl,rfl,(iv (by omega)),(iv (by omega)),(iv (by omega)),trivial⟩;exact⟨by rw[on_len,if_neg (by simpa using a4)];omega,by first|(rw[hwas];omega)|(rw[hwas];simp),aW⟩
    ·
     intro sz aq ax;obtain⟨hsz,hwl,ab⟩:=ax;replace hf:=hf.nw ab;replace mx:=mx.nw ab;replace hd:=hd.nw ab;replace vw:=vw.nw ab;replace vf:=vf.nw ab;replace hm0:=hm0.trN ab;have d6:=ab.size;have hus:=hB1.us;have hszl:sz≤274877906945+274877906944:=by rw[hsz,on_len];split<;>omega
     refine CW.s2 (fun b0 bj=>CW.block (fun _ b1 _ bl=>CW.sr (fun b2=>?_)));refine LR.m1 ?_;refine LR.m1 ?_;refine LR.n1 ?_;refine LR.v1 (Y.FA hf.vb.pt rfl u'73 rfl s'3) ?_;refine LR.v1 (Y.load1 (hf.vb.pt.drop 1) rfl a'3 rfl) ?_;refine LR.v1 (Y.gtr rfl rfl rfl) ?_;refine LR.an ?_;refine b2 _ _ ?_;refine CW.condp rfl (fun b3=>?_) (fun b3=>?_)
     ·
      refine CW.sr (fun b4=>?_);refine LR.an ?_;refine b4 _ _ ?_;refine CW.ret (bl .ret nofun (by simp) _ _ (bj .ret nofun _ _ (hret .ret (.inr rfl) _ _ _ (res1 rfl rfl) ?_)));have hE:D1.layE p x.1=5:=layE_5 hnm (by omega);exact⟨_,_,by rw[hlay,hE];rfl,by rw[hlay];simp only[hE];exact hf,ae,hm0⟩
     ·
      refine CW.s1 (fun b5=>?_);refine CW.region_any (fun Hq=>Nw aq Hq) [] rfl ?_;have hqs:=Nw.refl aq;refine LH.m1 0 rfl hqs ?_;refine LH.m1 2 rfl hqs ?_;refine LH.m1 4 rfl hqs ?_;refine LH.m1 6 rfl hqs ?_;refine LH.n1 7 rfl hqs ?_;refine LH.t1 8 rfl (fun Hq hq=>Y.FA (hf.vb.pt.nw hq) rfl u'73 rfl s'3) hqs ?_;refine LH.t1 9 rfl (fun Hq hq=>Y.load1 ((hf.vb.pt.drop 0).nw hq) rfl a'3 rfl) hqs ?_;refine LH.o1 1 ?_;refine LO.call rfl rfl c'113 rfl (Wd.u rfl) rfl rfl (used_ct _ _ b D1 w0 _ hf hB1.an (by omega)) (fun dA bm b6=>?_);obtain⟨rfl,am⟩:=b6;replace hf:=hf.nw am;replace mx:=mx.nw am;replace hd:=hd.nw am;replace vw:=vw.nw am;replace vf:=vf.nw am;replace hm0:=hm0.trN am;have d7:=am.size;have aN:=hqs.tr am;refine⟨.inr aN,LH.narrow (SH2:=fun Hq=>Nw bm Hq) (fun Hq hq=>aN.tr hq) ?_⟩;have ak:=Nw.refl bm;refine LH.t1 3 rfl (fun Hq hq=>Y.subi rfl rfl rfl (by omega)) ak ?_;refine LH.t1 5 rfl (fun Hq hq=>Y.addi rfl rfl rfl (by omega)) ak ?_;refine LH.t1 10 rfl (fun Hq hq=>Y.gtr rfl rfl rfl) ak ?_;refine LH.t1 11 rfl (fun Hq hq=>Y.assign rfl rfl) ak ?_;refine LH.done (by kernel_rfl) ?_;have hqe:=ak;refine b5 _ _ ?_;refine CW.condp rfl (fun b7=>?_) (fun b7=>?_)
      ·
       refine CW.sr (fun b8=>?_);refine LR.an ?_;refine b8 _ _ ?_;refine CW.ret (bl .ret nofun (by simp) _ _ (bj .ret nofun _ _ (hret .ret (.inr rfl) _ _ _ (res1 rfl rfl) ?_)));have hE:D1.layE p x.1=12:=layE_12 hnm (by omega) (by omega);exact⟨_,_,by rw[hlay,hE];rfl,by rw[hlay];simp only[hE];exact hf,ae,hm0⟩
      ·
       refine CW.skip (b1 _ _ (b0 _ _ (CW.s1 (fun b9=>CW.sr (fun b_=>?_)))));refine LR.m1 ?_;refine LR.v1 (Y.eql rfl rfl rfl) (LR.nil (b_ _ _ ?_));refine CW.condp rfl (fun ca=>?_) (fun ca=>?_)
       ·
        have hlen1:=hf.len;refine CW.region ?_;refine LR.m1 ?_;refine LR.m1 ?_;refine LR.call rfl c'52 rfl (Wd.u rfl) rfl rfl (dir_ct mx_ p w0 _ mx (bf_mx.mono (by omega)) hl) (fun d8 d9 dB=>?_);obtain⟨rfl,aL⟩:=dB;replace hf:=hf.nw aL;replace hd:=hd.nw aL;replace vw:=vw.nw aL;replace vf:=vf.nw aL;replace hm0:=hm0.trN aL;have d_:=aL.size;refine LR.m1 ?_;refine LR.m1 ?_;refine LR.v1 (Y.cast (v2:= .agg (fC (g1.fb++[aC.size]) ⟨[],p,some D1.fs.length⟩).toArray) (Y.build (v:= .agg #[Str [],Str p,ptr aC.size]) rfl rfl (by intro w;kernel_rfl)) (by simp[fC,fpt,List.getD,←hf.len])) ?_;have cb:=DFL.cons (dx) (dfd);have bn:DL (H0.size+1) ((aC.size+1)::K):=DL.cons (dy) (bd);have bo:=NxK.cons (dz) (ae);replace hf:=hf.newFil vf (dw);have ar:=hf.bk;refine LR.call rfl c'85 rfl (Wd.u rfl) rfl rfl (change_ct ((aC.size+1)::K) {g1 with ρ:=upr g1.ρ aC.size (.fil D1.fs.length),fb:=g1.fb++[aC.size]} b {D1 with fs:=D1.fs++[⟨[],[],[]⟩]} (dirP p) ⟨[],p,some D1.fs.length⟩ w0 _ hf (by show g1.dm.length+1≤D1.ops;rw[di.2.2.2];omega) (by simp[Chg.dir]) (fun i hi=>by cases hi;exact⟨rfl,by simp⟩) (fun h=>absurd rfl h) (by have:=hB1.lg;show D1.log.length≤_;omega)) (fun ea dC dD=>?_);have cc:=vw.lt;obtain⟨aO,cd,rfl,hf,aX,ce,aU⟩:=dD;have a5:DL (H0.size+1) aO:=DL.appK (bn) cc aX;have bp:NxK K H0.size aO:=NxK.tr (bo) aX hm0.size;replace hd:=hd.upL aU (cb);replace vw:=vw.upL aU (bn);replace hm0:=hm0.trL aU (MIL.ofK (bo) (by intro k hk;simp[hk]));have eb:=aU.size;have ar:=hf.bk;obtain⟨i,hie⟩:∃i,i=D1.fs.length:=⟨_,rfl⟩;have hil:i<(mk1 D1 p).fs.length:=by rw[hie];exact mk1_len D1 p
        have hbi0:cd.fb.getD i 0=aC.size:=by rw[ce,hie];simp[List.getD,←hlen1]
        obtain⟨bi,hbi,hbv⟩:∃bi,cd.fb.getD i 0=bi∧ptr aC.size=ptr bi:=⟨_,hbi0,rfl⟩;have hnow2:(fget (mk1 D1 p).fs i).now=D1.wasL p:=by rw[hie,mk1_get,hwas]
        have hwi:(fget (mk1 D1 p).fs i).w.length≤274877906945:=by rw[hie,mk1_get];simp
        replace hf:PDk aO cd dC b (mk1 D1 p):=hf;refine LR.nil (b9 _ _ (CW.sr (fun cf=>?_)));refine LR.v1 (Y.FA vw.pt rfl u'149 rfl s'34) ?_;refine LR.v1 (Y.load1 (vw.pt.drop 1) rfl a'34 rfl) ?_;refine LR.call rfl c'64 rfl (Wd.u rfl) rfl rfl (bclone_ct _ x.1.d w0 _ hd.any (by omega)) (fun dE dF cg=>?_);obtain⟨a6,ay,rfl,af,aE,az⟩:=cg;have bq:DL ay aO:=DL.app2 (DL.zK) hf.bk aE;have ch:Dj (H0.size+1) ay:=Dj.app (Dj.z) vw.lt aE;have ci:Nx 0 H0.size ay:=Nx.tr (Nx.refl 0 _) aE hm0.size;replace hf:=hf.nw az;replace vw:=vw.nw az;replace hm0:=hm0.trN az;have ec:=az.size;have aP:=af.le;refine LR.v1 (Y.FA vw.pt rfl u'149 rfl s'34) ?_;refine LR.s1 (S.var1 vw 1 ([.bool x.1.b,a6.v]) rfl rfl rfl (rfl) s'34 (by simp) (rfl)) fun aj aQ=>?_;obtain⟨vw,ai⟩:=aQ;replace ai:=ai.md1;replace hf:=hf.upL ai (DKL.cons a5 DKL.nil);replace af:=af.upL ai (DL.o ch.symm);replace hm0:=hm0.trL ai (MIL.o (MI.q c_));have dG:=ai.size;refine LR.nil (cf _ _ (CW.s1 (fun cj=>?_)));obtain⟨nvB,svB,wvB,kwB,lwB,hfiB⟩:=hf.fil i hil;have hop:Mo (Ms [(bi+1)]) aj aj:=Mo.refl _ _;have km25:KM aO (bi+1):=(hf.kmf hfiB hbi);have vf2:=hfiB.atb hbi;have aA:=vf2.lt;have ck:Dj (H0.size+1) (bi+1):=DL.at (a5) km25;have cl:Dj ay (bi+1):=DL.at (bq) km25;have cm:MI K H0.size (bi+1):=MIL.at (MIL.ofK (bp) (by intro k hk;simp[hk])) km25;have cn:=Nx.refl (bi+1) aj.size;refine CW.region_any (fun Hq=>Nw aj Hq) [11,12,13,14] rfl ?_;have ah:Nw aj aj:=Mo.refl _ _;refine LH.t1 0 rfl (fun Hq hq=>Y.cast (v2:=ptr bi) (Y.move rfl rfl) (hbv)) ah ?_;refine LH.t1 1 rfl (fun Hq hq=>Y.loadN (vw.pt.nw hq) rfl a'149 s'149 (rfl) rfl) ah ?_;refine LH.t1 2 rfl (fun Hq hq=>Y.cast (v2:=ptr bi) (Y.move rfl rfl) (hbv)) ah ?_;refine LH.n1 3 rfl ah ?_;refine LH.t1 4 rfl (fun Hq hq=>Y.FA (vf2.pt.nw hq) rfl u'112 rfl s'109) ah ?_;refine LH.t1 5 rfl (fun Hq hq=>Y.FA (vf2.pt.nw hq) rfl u'109 rfl s'34) ah ?_;refine LH.t1 6 rfl (fun Hq hq=>Y.load1 (vf2.pt.nw hq) rfl a'34 rfl) ah ?_;refine LH.t1 7 rfl (fun Hq hq=>Y.FA (vw.pt.nw hq) rfl u'149 rfl s'34) ah ?_;refine LH.t1 8 rfl (fun Hq hq=>Y.load1 ((vw.pt.drop 1).nw hq) rfl a'34 rfl) ah ?_;refine LH.t1 9 rfl (fun Hq hq=>Y.len (af.rd.nw hq) rfl u'34 rfl) ah ?_;refine LH.o1 10 ?_;refine LO.call rfl rfl c'84 rfl (Wd.u rfl) rfl rfl (on_ct (x.1,a6) nvB _ x.1.d.length w0 _ af.rd.any hfiB.hn.any (Nat.le_refl _) (by rw[hnow2];omega)) (fun dH co cp=>?_);obtain⟨cq,au,rfl,aB,av,ao⟩:=cp;have cr:Dj (H0.size+1) au:=Dj.app (Dj.z) vw.lt av;have cs:Dj ay au:=Dj.app (Dj.z) af.le av;have ct:Dj (bi+1) au:=Dj.app (Dj.z) vf2.lt av;have cu:Nx 0 H0.size au:=Nx.tr (Nx.refl 0 _) av hm0.size;have cv:Nx 0 aj.size au:=Nx.tr (Nx.refl 0 _) av hop.size;have cw:Nx 0 aj.size au:=Nx.tr (Nx.refl 0 _) av ah.size;replace vw:=vw.nw ao;replace af:=af.nw ao;replace vf2:=vf2.nw ao;replace hm0:=hm0.trN ao;replace hop:=hop.trN ao;replace ah:=ah.tr ao;have dI:=ao.size;have aR:=aB.le;refine⟨.inr ah,LH.narrow (SH2:=fun Hq=>Mo (Ms [au]) co Hq) (fun Hq hq=>(Mo.trL (ks:=[]) (ah.mdn []) hq (MIL.o (MI.q cw))).nil) ?_⟩;refine LH.o1 11 ?_;refine LO.v rfl (Y.nilCheck rfl rfl) (Wd.u rfl) rfl rfl (.inl rfl) ?_;refine LH.o1 12 ?_;refine LO.v rfl (Y.FA vf2.pt rfl u'112 rfl s'109) (Wd.u rfl) rfl rfl (.inl rfl) ?_;refine LH.o1 13 ?_;refine LO.v rfl (Y.FA vf2.pt rfl u'109 rfl s'34) (Wd.u rfl) rfl rfl (.inl rfl) ?_;refine LH.o1 14 ?_;refine LO.s rfl (S.var1 vf2 0 ([cq.v,svB.v,wvB.v]) rfl rfl rfl (rfl) s'34 (by simp) (rfl)) (Wd.u rfl) rfl (fun aa aF=>?_);obtain⟨vf2,ac⟩:=aF;replace ac:=ac.md1;replace vw:=vw.upL ac (DL.o ck);replace af:=af.upL ac (DL.o cl);replace aB:=aB.upL ac (DL.o ct.symm);replace hm0:=hm0.trL ac (MIL.cons (cm) MIL.nil);replace hop:=hop.trL ac (MIL.o (MI.r cn));have dJ:=ac.size;refine⟨.inl rfl,?_⟩;refine LH.done (by kernel_rfl) ?_;have cx:DL (H0.size+1) (au::aO):=(DL.cons (cr) (a5));have a7:DL ay (au::aO):=(DL.cons (cs) (bq));have a8:NxK K H0.size (au::aO):=(NxK.cons (cu) (bp));replace hf:=hf.fnow hil hfiB hbi hop vf2 aB (DL.nxK hf.bk (cv));have ar:=hf.bk;refine cj _ _ (CW.s1 (fun cy=>?_));have hil2:=hil;rw[←fl_put]at hil2;obtain⟨nvC,svC,wvC,kwC,lwC,hfiC⟩:=hf.fil i hil2;have hlw:lwC.length≤274877906945:=by have h9:=congrArg List.length hfiC.lw;rw[List.length_map,fget_put hil]at h9;rw[h9];exact hwi
        have hop:Mo (Ms [(bi+1),kwC]) aa aa:=Mo.refl _ _;have km46:KM (au::aO) (bi+1):=(hf.kmf hfiC hbi);have vf2:=hfiC.atb hbi;have aA:=vf2.lt;have cz:Dj ay (bi+1):=DL.at (a7) km46;have cA:MI K H0.size (bi+1):=MIL.at (MIL.ofK (a8) (by intro k hk;simp[hk])) km46;have cB:=Nx.refl (bi+1) aa.size;have km53:KM (au::aO) kwC:=(hf.km hfiC.rk (by simp));have hw:=hfiC.hw;have aG:=hw.le;have cC:Dj (H0.size+1) kwC:=DL.at (cx) km53;have br:Dj ay kwC:=DL.at (a7) km53;have cD:MI K H0.size kwC:=MIL.at (MIL.ofK (a8) (by intro k hk;simp[hk])) km53;have bs:=Nx.refl kwC aa.size;have aV:Dj (bi+1) kwC:=hfiC.ne hbi;refine CW.region_any (fun Hq=>Mo (Ms [kwC]) aa Hq) [8,9,10] rfl ?_;have ag:Mo (Ms [kwC]) aa aa:=Mo.refl _ _;have cE:=Nx.refl kwC aa.size;refine LH.t1 0 rfl (fun Hq hq=>Y.cast (v2:=ptr bi) (Y.move rfl rfl) (hbv)) ag ?_;refine LH.t1 1 rfl (fun Hq hq=>Y.cast (v2:=ptr bi) (Y.move rfl rfl) (hbv)) ag ?_;refine LH.n1 2 rfl ag ?_;refine LH.t1 3 rfl (fun Hq hq=>Y.fieldAddr (vf2.upL hq (DL.o aV)).pt rfl u'112 rfl rfl s'110 (by decide) rfl) ag ?_;refine LH.t1 4 rfl (fun Hq hq=>Y.load1 ((vf2.upL hq (DL.o aV)).pt.drop 2) rfl a'110 rfl) ag ?_;refine LH.t1 5 rfl (fun Hq hq=>Y.loadN (vw.upL hq (DL.o cC)).pt rfl a'149 s'149 (rfl) rfl) ag ?_;refine LH.o1 6 ?_;refine LO.z rfl (Z.litw _ ([(x.1,a6)]) rfl inf110 rfl rfl rfl (by decide) (by decide) fW_len fW_one (rfl)) (Wd.u rfl) rfl rfl (fun dK aD cF=>?_);obtain⟨a9,ap,cG,a_⟩:=cF;have bt:aD.size=aa.size+1:=by rw[a_];simp
        have cH:Nx 0 aa.size (aa.size+1):=Nx.new ag.size;replace af:=af.nw ap;replace vf2:=vf2.nw ap;replace hw:=hw.nw ap;replace hm0:=hm0.trN ap;replace hop:=hop.trN ap;replace ag:=ag.trN ap;have dL:=ap.size;refine⟨.inr ag,LH.narrow (SH2:=fun Hq=>Mo (Ms [kwC,(aa.size+1)]) aD Hq) (fun Hq hq=>ag.trL hq (MIL.cons (MI.r cE) (MIL.o (MI.q cH)))) ?_⟩;have ag:Mo (Ms [kwC,(aa.size+1)]) aD aD:=Mo.refl _ _;have bu:=Nx.refl kwC aD.size;have cI:=Nx.refl (aa.size+1) aD.size;refine LH.o1 7 ?_;refine LO.z rfl (Z.apnd hw a9.rd rfl inf110 rfl rfl (by first|omega|(simp;omega)) (by first|omega|(simp;omega))) (Wd.u rfl) rfl rfl (fun ba cJ cK=>?_);obtain⟨kw2,hw,aw,al⟩:=cK;replace aw:Nx kwC aD.size kw2:=aw;replace al:=al.md;have cL:Dj ay kw2:=Dj.app (br) af.le aw;have cM:Dj (bi+1) kw2:=Dj.app (aV) vf2.lt aw;have bv:Nx kwC aa.size kw2:=Nx.tr (bs) aw hop.size;have cN:Nx kwC aD.size kw2:=Nx.tr (bu) aw ag.size;replace af:=af.upL al (DL.o br);replace vf2:=vf2.upL al (DL.o aV);replace hm0:=hm0.trL al (MIL.cons (cD) MIL.nil);replace hop:=hop.trL al (MIL.o (MI.r bs));replace ag:=ag.trL al (MIL.o (MI.r bu));have dM:=al.size;have aG:=hw.le;refine⟨.inr ag,LH.narrow (SH2:=fun Hq=>Mo (Ms [kw2,(aa.size+1)]) cJ Hq) (fun Hq hq=>ag.trL hq (MIL.cons (MI.r cN) (MIL.o (MI.r cI)))) ?_⟩;refine LH.o1 8 ?_;refine LO.v rfl (Y.nilCheck rfl rfl) (Wd.u rfl) rfl rfl (.inl rfl) ?_;refine LH.o1 9 ?_;refine LO.v rfl (Y.FA vf2.pt rfl u'112 rfl s'110) (Wd.u rfl) rfl rfl (.inl rfl) ?_;refine LH.o1 10 ?_;refine LO.s rfl (S.var1 vf2 2 ([nvC.v,svC.v,ba]) rfl rfl rfl (hw.rd.oneCell) s'110 (by simp) (rfl)) (Wd.u rfl) rfl (fun bb aH=>?_);obtain⟨vf2,ad⟩:=aH;replace ad:=ad.md1;replace af:=af.upL ad (DL.o cz);replace hw:=hw.upL ad (DL.o cM.symm);replace hm0:=hm0.trL ad (MIL.cons (cA) MIL.nil);replace hop:=hop.trL ad (MIL.o (MI.r cB));have dN:=ad.size;refine⟨.inl rfl,?_⟩;refine LH.done (by kernel_rfl) ?_;obtain⟨wv2,rfl⟩:∃s:SV,ba=s.v:=⟨toSV ba,hw.sv.symm⟩;have cO:NxK K H0.size (ay::(kw2::(au::aO))):=(NxK.cons (ci) ((NxK.app (a8) (km53) (bv) (by omega))));replace hf:=hf.fwr hil2 hfiC hbi hop vf2 hw (bv) af (DL.cons (cL) (a7));have ar:=hf.bk;refine cy _ _ (CW.sr (fun cP=>?_));refine LR.an ?_;refine cP _ _ ?_;refine CW.ret (hret .ret (.inr rfl) _ _ _ (res1 rfl rfl) ?_);have bw:D1.layE p x.1=0:=layE_0 hnm (by omega) (by omega);exact⟨_,_,by rw[hlay,bw];rfl,by rw[hlay];simp only[bw,if_true];first|(rw[←write_some hnow hil];rw[←hwas]at hf;exact hf)|(rw[←write_none hnow];subst hie;exact hf),cO,hm0⟩
       ·
        exfalso;omega
   ·
    have hlk:D1.look p=0:=by
     rcases hlo with h|h|h
     ·exact h
     ·rw[if_neg (by omega)]at bf;cases bf
     ·omega
    obtain⟨hnm,i,hnow⟩:=look_0 hlk;have hil:=hf.ids.1 p i hnow;have hwas:=was_some hnow;obtain⟨bi,hbi,hbv⟩:∃bi,g1.fb.getD i 0=bi∧ .pointer (fpt g1.fb (if D1.look p=0 then mget D1.now p else none))=ptr bi:=⟨_,rfl,by rw[if_pos hlk,hnow];rfl⟩;have hnow2:=hwas.symm;have hnwi:=hB1.nw i;have hwasl:(D1.wasL p).length≤274877906945:=by rw[hwas];exact hnwi
    have hwi:=hB1.w i;obtain⟨nvA,svA,wvA,kwA,lwA,hfiA⟩:=hf.fil i hil;refine CW.region ?_;refine LR.v1 (Y.cast (v2:=fvl g1.fb i) (Y.move rfl rfl) (by rw[if_pos hlk,hnow];rfl)) ?_;refine LR.n1 ?_;refine LR.v1 (Y.FA hfiA.vf.pt rfl u'112 rfl s'109) ?_;refine LR.v1 (Y.FA (hfiA.vf.pt.drop 0) rfl u'109 rfl s'34) ?_;refine LR.v1 (Y.load1 ((hfiA.vf.pt.drop 0).drop 0) rfl a'34 rfl) ?_;refine LR.v1 (Y.cast (v2:= .int .i64 ((D1.wasL p).length:Int)) (Y.len hfiA.hn rfl u'34 rfl) (by rw[hwas])) ?_;refine LR.an ?_;refine be _ _ (CW.sr (fun cQ=>?_));refine LR.v1 (Y.FA vw.pt rfl u'149 rfl s'34) ?_;refine LR.v1 (Y.load1 (vw.pt.drop 1) rfl a'34 rfl) ?_;refine LR.v1 (Y.len hd rfl u'34 rfl) ?_;refine LR.an ?_;refine cQ _ _ ?_
    refine CW.cut (fun(sz:(Nat))=>[(0,ptr b),(1,Str p),(5,.pointer (some ⟨H0.size,0,none⟩)),(7,.pointer (fpt g1.fb (if D1.look p=0 then mget D1.now p else none))),(8,.int .i64 (D1.look p:Int)),(9,.int .i64 ((D1.wasL p).length:Int)),(10,.int .i64 (sz:Int))])
     (fun(sz:(Nat)) (H:Heap)=>(sz=(x.1.on (D1.wasL p) x.1.d.length).length)∧((D1.wasL p).length≤274877906945)∧Nw aC H) (fun _ bx _=>?_) ?_
    ·
     have aY:Nw aC aC:=Mo.refl _ _;refine CW.sr (fun cR=>?_);refine LR.v1 (Y.FA vw.pt rfl u'149 rfl s'4) ?_;refine LR.v1 (Y.load1 vw.pt rfl a'4 rfl) (LR.nil (cR _ _ ?_));refine CW.cond rfl (fun a4=>?_) (fun a4=>?_)
     ·
      refine CW.region ?_;refine LR.m1 ?_;refine LR.m1 ?_;refine LR.v1 (Y.addi rfl rfl rfl (by omega)) ?_;refine LR.an ?_;refine QN.sub (bx ((D1.wasL p).length+x.1.d.length) _ ?_) ⟨rfl,rfl,rfl,rfl,(iv (by omega)),(iv (by omega)),(iv (by omega)),trivial⟩;exact⟨by rw[on_len,if_pos a4],by first|(rw[hwas];omega)|(rw[hwas];simp),aY⟩
     ·
      refine CW.skip ?_;refine QN.sub (bx x.1.d.length _ ?_) ⟨rfl,rfl,rfl,rfl,(iv (by omega)),(iv (by omega)),(iv (by omega)),trivial⟩;exact⟨by rw[on_len,if_neg (by simpa using a4)];omega,by first|(rw[hwas];omega)|(rw[hwas];simp),aY⟩
    ·
     intro sz aq ax;obtain⟨hsz,hwl,ab⟩:=ax;replace hf:=hf.nw ab;replace hd:=hd.nw ab;replace vw:=vw.nw ab;replace hm0:=hm0.trN ab;have dO:=ab.size;have hus:=hB1.us;have hszl:sz≤274877906945+274877906944:=by rw[hsz,on_len];split<;>omega
     refine CW.s2 (fun cS bz=>CW.block (fun _ cT _ bA=>CW.sr (fun cU=>?_)));refine LR.m1 ?_;refine LR.m1 ?_;refine LR.n1 ?_;refine LR.v1 (Y.FA hf.vb.pt rfl u'73 rfl s'3) ?_;refine LR.v1 (Y.load1 (hf.vb.pt.drop 1) rfl a'3 rfl) ?_;refine LR.v1 (Y.gtr rfl rfl rfl) ?_;refine LR.an ?_;refine cU _ _ ?_;refine CW.condp rfl (fun b3=>?_) (fun b3=>?_)
     ·
      refine CW.sr (fun cV=>?_);refine LR.an ?_;refine cV _ _ ?_;refine CW.ret (bA .ret nofun (by simp) _ _ (bz .ret nofun _ _ (hret .ret (.inr rfl) _ _ _ (res1 rfl rfl) ?_)));have hE:D1.layE p x.1=5:=layE_5 hnm (by omega);exact⟨_,_,by rw[hlay,hE];rfl,by rw[hlay];simp only[hE];exact hf,ae,hm0⟩
     ·
      refine CW.s1 (fun cW=>?_);refine CW.region_any (fun Hq=>Nw aq Hq) [] rfl ?_;have hqs:=Nw.refl aq;refine LH.m1 0 rfl hqs ?_;refine LH.m1 2 rfl hqs ?_;refine LH.m1 4 rfl hqs ?_;refine LH.m1 6 rfl hqs ?_;refine LH.n1 7 rfl hqs ?_;refine LH.t1 8 rfl (fun Hq hq=>Y.FA (hf.vb.pt.nw hq) rfl u'73 rfl s'3) hqs ?_;refine LH.t1 9 rfl (fun Hq hq=>Y.load1 ((hf.vb.pt.drop 0).nw hq) rfl a'3 rfl) hqs ?_;refine LH.o1 1 ?_;refine LO.call rfl rfl c'113 rfl (Wd.u rfl) rfl rfl (used_ct _ _ b D1 w0 _ hf hB1.an (by omega)) (fun dA bm b6=>?_);obtain⟨rfl,am⟩:=b6;replace hf:=hf.nw am;replace hd:=hd.nw am;replace vw:=vw.nw am;replace hm0:=hm0.trN am;have dP:=am.size;have aN:=hqs.tr am;refine⟨.inr aN,LH.narrow (SH2:=fun Hq=>Nw bm Hq) (fun Hq hq=>aN.tr hq) ?_⟩;have ak:=Nw.refl bm;refine LH.t1 3 rfl (fun Hq hq=>Y.subi rfl rfl rfl (by omega)) ak ?_;refine LH.t1 5 rfl (fun Hq hq=>Y.addi rfl rfl rfl (by omega)) ak ?_;refine LH.t1 10 rfl (fun Hq hq=>Y.gtr rfl rfl rfl) ak ?_;refine LH.t1 11 rfl (fun Hq hq=>Y.assign rfl rfl) ak ?_;refine LH.done (by kernel_rfl) ?_;have hqe:=ak;refine cW _ _ ?_;refine CW.condp rfl (fun b7=>?_) (fun b7=>?_)
      ·
       refine CW.sr (fun cX=>?_);refine LR.an ?_;refine cX _ _ ?_;refine CW.ret (bA .ret nofun (by simp) _ _ (bz .ret nofun _ _ (hret .ret (.inr rfl) _ _ _ (res1 rfl rfl) ?_)));have hE:D1.layE p x.1=12:=layE_12 hnm (by omega) (by omega);exact⟨_,_,by rw[hlay,hE];rfl,by rw[hlay];simp only[hE];exact hf,ae,hm0⟩
      ·
       refine CW.skip (cT _ _ (cS _ _ (CW.s1 (fun cY=>CW.sr (fun cZ=>?_)))));refine LR.m1 ?_;refine LR.v1 (Y.eql rfl rfl rfl) (LR.nil (cZ _ _ ?_));refine CW.condp rfl (fun ca=>?_) (fun ca=>?_)
       ·
        exfalso;omega
       ·
        refine CW.skip (cY _ _ (CW.sr (fun c0=>?_)));refine LR.v1 (Y.FA vw.pt rfl u'149 rfl s'34) ?_;refine LR.v1 (Y.load1 (vw.pt.drop 1) rfl a'34 rfl) ?_;refine LR.call rfl c'64 rfl (Wd.u rfl) rfl rfl (bclone_ct _ x.1.d w0 _ hd.any (by omega)) (fun dE dF cg=>?_);obtain⟨a6,ay,rfl,af,aE,az⟩:=cg;have bB:DL ay K:=DL.app2 (DL.zK) hf.bk aE;have c1:Dj (H0.size+1) ay:=Dj.app (Dj.z) vw.lt aE;have c2:Nx 0 H0.size ay:=Nx.tr (Nx.refl 0 _) aE hm0.size;replace hf:=hf.nw az;replace vw:=vw.nw az;replace hm0:=hm0.trN az;have dQ:=az.size;have aP:=af.le;refine LR.v1 (Y.FA vw.pt rfl u'149 rfl s'34) ?_;refine LR.s1 (S.var1 vw 1 ([.bool x.1.b,a6.v]) rfl rfl rfl (rfl) s'34 (by simp) (rfl)) fun aj aQ=>?_;obtain⟨vw,ai⟩:=aQ;replace ai:=ai.md1;replace hf:=hf.upL ai (DKL.cons bd DKL.nil);replace af:=af.upL ai (DL.o c1.symm);replace hm0:=hm0.trL ai (MIL.o (MI.q c_));have dR:=ai.size;refine LR.nil (c0 _ _ (CW.s1 (fun c3=>?_)));obtain⟨nvB,svB,wvB,kwB,lwB,hfiB⟩:=hf.fil i hil;have hop:Mo (Ms [(bi+1)]) aj aj:=Mo.refl _ _;have km93:KM K (bi+1):=(hf.kmf hfiB hbi);have vf2:=hfiB.atb hbi;have aA:=vf2.lt;have c4:Dj (H0.size+1) (bi+1):=DL.at (bd) km93;have c5:Dj ay (bi+1):=DL.at (bB) km93;have c6:MI K H0.size (bi+1):=MIL.at (MIL.ofK (ae) (by intro k hk;simp[hk])) km93;have c7:=Nx.refl (bi+1) aj.size;refine CW.region_any (fun Hq=>Nw aj Hq) [11,12,13,14] rfl ?_;have ah:Nw aj aj:=Mo.refl _ _;refine LH.t1 0 rfl (fun Hq hq=>Y.cast (v2:=ptr bi) (Y.move rfl rfl) (hbv)) ah ?_;refine LH.t1 1 rfl (fun Hq hq=>Y.loadN (vw.pt.nw hq) rfl a'149 s'149 (rfl) rfl) ah ?_;refine LH.t1 2 rfl (fun Hq hq=>Y.cast (v2:=ptr bi) (Y.move rfl rfl) (hbv)) ah ?_;refine LH.n1 3 rfl ah ?_;refine LH.t1 4 rfl (fun Hq hq=>Y.FA (vf2.pt.nw hq) rfl u'112 rfl s'109) ah ?_;refine LH.t1 5 rfl (fun Hq hq=>Y.FA (vf2.pt.nw hq) rfl u'109 rfl s'34) ah ?_;refine LH.t1 6 rfl (fun Hq hq=>Y.load1 (vf2.pt.nw hq) rfl a'34 rfl) ah ?_;refine LH.t1 7 rfl (fun Hq hq=>Y.FA (vw.pt.nw hq) rfl u'149 rfl s'34) ah ?_;refine LH.t1 8 rfl (fun Hq hq=>Y.load1 ((vw.pt.drop 1).nw hq) rfl a'34 rfl) ah ?_;refine LH.t1 9 rfl (fun Hq hq=>Y.len (af.rd.nw hq) rfl u'34 rfl) ah ?_;refine LH.o1 10 ?_;refine LO.call rfl rfl c'84 rfl (Wd.u rfl) rfl rfl (on_ct (x.1,a6) nvB _ x.1.d.length w0 _ af.rd.any hfiB.hn.any (Nat.le_refl _) (by rw[hnow2];omega)) (fun dH co cp=>?_);obtain⟨cq,au,rfl,aB,av,ao⟩:=cp;have bC:Dj (H0.size+1) au:=Dj.app (Dj.z) vw.lt av;have bD:Dj ay au:=Dj.app (Dj.z) af.le av;have bE:Dj (bi+1) au:=Dj.app (Dj.z) vf2.lt av;have bF:Nx 0 H0.size au:=Nx.tr (Nx.refl 0 _) av hm0.size;have bG:Nx 0 aj.size au:=Nx.tr (Nx.refl 0 _) av hop.size;have bH:Nx 0 aj.size au:=Nx.tr (Nx.refl 0 _) av ah.size;replace vw:=vw.nw ao;replace af:=af.nw ao;replace vf2:=vf2.nw ao;replace hm0:=hm0.trN ao;replace hop:=hop.trN ao;replace ah:=ah.tr ao;have dS:=ao.size;have aR:=aB.le;refine⟨.inr ah,LH.narrow (SH2:=fun Hq=>Mo (Ms [au]) co Hq) (fun Hq hq=>(Mo.trL (ks:=[]) (ah.mdn []) hq (MIL.o (MI.q bH))).nil) ?_⟩;refine LH.o1 11 ?_;refine LO.v rfl (Y.nilCheck rfl rfl) (Wd.u rfl) rfl rfl (.inl rfl) ?_;refine LH.o1 12 ?_;refine LO.v rfl (Y.FA vf2.pt rfl u'112 rfl s'109) (Wd.u rfl) rfl rfl (.inl rfl) ?_;refine LH.o1 13 ?_;refine LO.v rfl (Y.FA vf2.pt rfl u'109 rfl s'34) (Wd.u rfl) rfl rfl (.inl rfl) ?_;refine LH.o1 14 ?_;refine LO.s rfl (S.var1 vf2 0 ([cq.v,svB.v,wvB.v]) rfl rfl rfl (rfl) s'34 (by simp) (rfl)) (Wd.u rfl) rfl (fun aa aF=>?_);obtain⟨vf2,ac⟩:=aF;replace ac:=ac.md1;replace vw:=vw.upL ac (DL.o c4);replace af:=af.upL ac (DL.o c5);replace aB:=aB.upL ac (DL.o bE.symm);replace hm0:=hm0.trL ac (MIL.cons (c6) MIL.nil);replace hop:=hop.trL ac (MIL.o (MI.r c7));have dT:=ac.size;refine⟨.inl rfl,?_⟩;refine LH.done (by kernel_rfl) ?_;have bI:DL (H0.size+1) (au::K):=(DL.cons (bC) (bd));have aS:DL ay (au::K):=(DL.cons (bD) (bB));have aT:NxK K H0.size (au::K):=(NxK.cons (bF) (ae));replace hf:=hf.fnow hil hfiB hbi hop vf2 aB (DL.nxK hf.bk (bG));have ar:=hf.bk;refine c3 _ _ (CW.s1 (fun c8=>?_));have hil2:=hil;rw[←fl_put]at hil2;obtain⟨nvC,svC,wvC,kwC,lwC,hfiC⟩:=hf.fil i hil2;have hlw:lwC.length≤274877906945:=by have h9:=congrArg List.length hfiC.lw;rw[List.length_map,fget_put hil]at h9;rw[h9];exact hwi
        have hop:Mo (Ms [(bi+1),kwC]) aa aa:=Mo.refl _ _;have km114:KM (au::K) (bi+1):=(hf.kmf hfiC hbi);have vf2:=hfiC.atb hbi;have aA:=vf2.lt;have bJ:Dj ay (bi+1):=DL.at (aS) km114;have bK:MI K H0.size (bi+1):=MIL.at (MIL.ofK (aT) (by intro k hk;simp[hk])) km114;have bL:=Nx.refl (bi+1) aa.size;have km121:KM (au::K) kwC:=(hf.km hfiC.rk (by simp));have hw:=hfiC.hw;have aG:=hw.le;have bM:Dj (H0.size+1) kwC:=DL.at (bI) km121;have aZ:Dj ay kwC:=DL.at (aS) km121;have bN:MI K H0.size kwC:=MIL.at (MIL.ofK (aT) (by intro k hk;simp[hk])) km121;have a0:=Nx.refl kwC aa.size;have aI:Dj (bi+1) kwC:=hfiC.ne hbi;refine CW.region_any (fun Hq=>Mo (Ms [kwC]) aa Hq) [8,9,10] rfl ?_;have ag:Mo (Ms [kwC]) aa aa:=Mo.refl _ _;have bO:=Nx.refl kwC aa.size;refine LH.t1 0 rfl (fun Hq hq=>Y.cast (v2:=ptr bi) (Y.move rfl rfl) (hbv)) ag ?_;refine LH.t1 1 rfl (fun Hq hq=>Y.cast (v2:=ptr bi) (Y.move rfl rfl) (hbv)) ag ?_;refine LH.n1 2 rfl ag ?_;refine LH.t1 3 rfl (fun Hq hq=>Y.fieldAddr (vf2.upL hq (DL.o aI)).pt rfl u'112 rfl rfl s'110 (by decide) rfl) ag ?_;refine LH.t1 4 rfl (fun Hq hq=>Y.load1 ((vf2.upL hq (DL.o aI)).pt.drop 2) rfl a'110 rfl) ag ?_;refine LH.t1 5 rfl (fun Hq hq=>Y.loadN (vw.upL hq (DL.o bM)).pt rfl a'149 s'149 (rfl) rfl) ag ?_;refine LH.o1 6 ?_;refine LO.z rfl (Z.litw _ ([(x.1,a6)]) rfl inf110 rfl rfl rfl (by decide) (by decide) fW_len fW_one (rfl)) (Wd.u rfl) rfl rfl (fun dK aD cF=>?_);obtain⟨a9,ap,cG,a_⟩:=cF;have bt:aD.size=aa.size+1:=by rw[a_];simp
        have bP:Nx 0 aa.size (aa.size+1):=Nx.new ag.size;replace af:=af.nw ap;replace vf2:=vf2.nw ap;replace hw:=hw.nw ap;replace hm0:=hm0.trN ap;replace hop:=hop.trN ap;replace ag:=ag.trN ap;have dU:=ap.size;refine⟨.inr ag,LH.narrow (SH2:=fun Hq=>Mo (Ms [kwC,(aa.size+1)]) aD Hq) (fun Hq hq=>ag.trL hq (MIL.cons (MI.r bO) (MIL.o (MI.q bP)))) ?_⟩;have ag:Mo (Ms [kwC,(aa.size+1)]) aD aD:=Mo.refl _ _;have a2:=Nx.refl kwC aD.size;have bQ:=Nx.refl (aa.size+1) aD.size;refine LH.o1 7 ?_;refine LO.z rfl (Z.apnd hw a9.rd rfl inf110 rfl rfl (by first|omega|(simp;omega)) (by first|omega|(simp;omega))) (Wd.u rfl) rfl rfl (fun ba cJ cK=>?_);obtain⟨kw2,hw,aw,al⟩:=cK;replace aw:Nx kwC aD.size kw2:=aw;replace al:=al.md;have bR:Dj ay kw2:=Dj.app (aZ) af.le aw;have bS:Dj (bi+1) kw2:=Dj.app (aI) vf2.lt aw;have a3:Nx kwC aa.size kw2:=Nx.tr (a0) aw hop.size;have bT:Nx kwC aD.size kw2:=Nx.tr (a2) aw ag.size;replace af:=af.upL al (DL.o aZ);replace vf2:=vf2.upL al (DL.o aI);replace hm0:=hm0.trL al (MIL.cons (bN) MIL.nil);replace hop:=hop.trL al (MIL.o (MI.r a0));replace ag:=ag.trL al (MIL.o (MI.r a2));have dV:=al.size;have aG:=hw.le;refine⟨.inr ag,LH.narrow (SH2:=fun Hq=>Mo (Ms [kw2,(aa.size+1)]) cJ Hq) (fun Hq hq=>ag.trL hq (MIL.cons (MI.r bT) (MIL.o (MI.r bQ)))) ?_⟩;refine LH.o1 8 ?_;refine LO.v rfl (Y.nilCheck rfl rfl) (Wd.u rfl) rfl rfl (.inl rfl) ?_;refine LH.o1 9 ?_;refine LO.v rfl (Y.FA vf2.pt rfl u'112 rfl s'110) (Wd.u rfl) rfl rfl (.inl rfl) ?_;refine LH.o1 10 ?_;refine LO.s rfl (S.var1 vf2 2 ([nvC.v,svC.v,ba]) rfl rfl rfl (hw.rd.oneCell) s'110 (by simp) (rfl)) (Wd.u rfl) rfl (fun bb aH=>?_);obtain⟨vf2,ad⟩:=aH;replace ad:=ad.md1;replace af:=af.upL ad (DL.o bJ);replace hw:=hw.upL ad (DL.o bS.symm);replace hm0:=hm0.trL ad (MIL.cons (bK) MIL.nil);replace hop:=hop.trL ad (MIL.o (MI.r bL));have dW:=ad.size;refine⟨.inl rfl,?_⟩;refine LH.done (by kernel_rfl) ?_;obtain⟨wv2,rfl⟩:∃s:SV,ba=s.v:=⟨toSV ba,hw.sv.symm⟩;have bU:NxK K H0.size (ay::(kw2::(au::K))):=(NxK.cons (c2) ((NxK.app (aT) (km121) (a3) (by omega))));replace hf:=hf.fwr hil2 hfiC hbi hop vf2 hw (a3) af (DL.cons (bR) (aS));have ar:=hf.bk;refine c8 _ _ (CW.sr (fun c9=>?_));refine LR.an ?_;refine c9 _ _ ?_;refine CW.ret (hret .ret (.inr rfl) _ _ _ (res1 rfl rfl) ?_);have bw:D1.layE p x.1=0:=layE_0 hnm (by omega) (by omega);exact⟨_,_,by rw[hlay,bw];rfl,by rw[hlay];simp only[bw,if_true];first|(rw[←write_some hnow hil];rw[←hwas]at hf;exact hf)|(rw[←write_none hnow];subst hie;exact hf),bU,hm0⟩
end SimH

namespace SimI
open E Go.RowKit SimA SimB SimC SimD SimE SimF SimG SimH
theorem sync_dead{D:Dk}{p:Pth}(h:D.begin.1=false):D.sync p=(11,D.begin.2):=by unfold Dk.sync;simp[h]
theorem sync_go{D:Dk}{p:Pth}(h:D.begin.1=true):D.sync p=(D.begin.2.look p,if D.begin.2.look p=0 then D.begin.2.syncF ((mget D.begin.2.now p).getD 0)else D.begin.2):=by unfold Dk.sync;simp[h]
theorem ren_dead{D:Dk}{p q:Pth}(h:D.begin.1=false):D.rename p q=(11,D.begin.2):=by unfold Dk.rename;simp[h]
theorem ren_go{D:Dk}{p q:Pth}(h:D.begin.1=true):D.rename p q=(D.begin.2.renE p q,if D.begin.2.renE p q=0∧p≠q then D.begin.2.change ⟨p,q,some ((mget D.begin.2.now p).getD 0)⟩else D.begin.2):=by unfold Dk.rename;simp[h]
theorem renE_7{D:Dk}{p q:Pth}(h:nameB p=false∨nameB q=false):D.renE p q=7:=by unfold Dk.renE;rw[if_pos h]
theorem renE_13{D:Dk}{p q:Pth}(h:nameB p=true)(h2:nameB q=true)(h3:dirP p≠dirP q):D.renE p q=13:=by unfold Dk.renE;rw[if_neg (by simp[h,h2]),if_pos h3]
theorem renE_l{D:Dk}{p q:Pth}(h:nameB p=true)(h2:nameB q=true)(h3:dirP p=dirP q):D.renE p q=D.look p:=by unfold Dk.renE;rw[if_neg (by simp[h,h2]),if_neg (by simpa using h3)]
theorem sd_dead{D:Dk}{p:Pth}(h:D.begin.1=false):D.syncDir p=(11,D.begin.2):=by unfold Dk.syncDir;simp[h]
theorem sd_go{D:Dk}{p:Pth}(h:D.begin.1=true):D.syncDir p=(dirE p,if dirE p=0 then D.begin.2.stayD p else D.begin.2):=by unfold Dk.syncDir;simp[h]
theorem name_ne{p:Pth}(h:nameB p=true):p≠[]:=((name_iff p).1 h).1
theorem mclone_ct{κ β:Type}{fk:κ→Value}{fv:β→Value}(mb:Nat)(m:List (κ×β))(w0:World)(H0:Heap)(h:Mp H0 fk fv mb m):Ct Tryz.prog w0 40 #[.map (some mb)] H0 (fun r H2=>∃b2:Nat,r= .map (some b2)∧Mp H2 fk fv b2 m∧Nx 0 H0.size (b2+1)∧Nw H0 H2):=by
 intro w ha;obtain⟨r,es,clock,hv,h2,h3,h4,h5⟩:=h.mo.ex;obtain rfl:=h2;have hb:w.heap[r]?=some (.map es clock):=by rw[ha.heap];exact h3
 refine(AnyW.maps_Clone Tryz.mclone40 r es clock w hb).mono ?_;rintro e w' ⟨rfl,rfl⟩;refine⟨_,H0.push (.map es clock),rfl,ha.alloc _,H0.size,by rw[ha.heap],⟨⟨H0.size,es,clock,rfl,rfl,by simp,h4,h5⟩⟩,.inr (.inr (by omega)),Nw.pu _ _⟩
set_option maxHeartbeats 2000000 in
theorem write_ct(mx_:Int)(K:List Nat)(g:Gh)(b:Nat)(D:Dk)(p:Pth)(sd:SV)(d:List UInt8)(F:Nat→Prop)(w0:World)(H0:Heap)
 (hf:PDk K g H0 b D) (mx:MX mx_ H0) (bf_mx:BF (fun b=>b=0) H0.size) (dmx:DFL (fun b=>b=0) K) (hd:Rd F H0 fB 1 sd.v d) (bf_hd:BF F H0.size) (dfd:DFL F K) (hl:p.length≤4294967280) (hB:Bd 274877906944 D) (hdl:d.length≤274877906944):
 Ct Tryz.prog w0 45 #[ptr b,Str p,sd.v] H0 (fun r H2=>∃K2:List Nat,∃g2:Gh,r= .int .i64 ((D.lay p ⟨false,d⟩).1:Int)∧(PDk K2 g2 H2 b (D.lay p ⟨false,d⟩).2)∧(NxK K H0.size K2)∧Mo (Ms K) H0 H2):=by
 refine Ct.enter (args:=[ptr b,Str p,sd.v]) Tryz.func45 rfl rfl rfl ?_;intro Q0 hret;have hm0:Mo (Ms K) H0 H0:=Mo.refl _ _;have aa:=NxK.refl K H0.size;have ac:=hf.bk;refine CW.sr (fun ae=>?_);refine LR.an ?_;refine ae _ _ (CW.seq (fun K2 af _=>CW.region ?_));refine LR.m1 ?_;refine LR.m1 ?_;refine LR.m1 ?_;refine LR.v1 (Y.build (v:=wV (⟨false,d⟩,sd)) rfl rfl (by intro w;kernel_rfl)) ?_;refine LR.call rfl c'74 rfl (Wd.u rfl) rfl rfl (lay_ct mx_ K g b D p (⟨false,d⟩,sd) F w0 _ hf mx (bf_mx.mono (by omega)) dmx hd (bf_hd.mono (by omega)) dfd hl hB hdl) (fun aj ak ag=>?_);obtain⟨ah,al,rfl,hf,ab,ad⟩:=ag;have ai:NxK K H0.size ah:=NxK.tr (aa) ab hm0.size;replace hm0:=hm0.trL ad (MIL.ofK (aa) (by intro k hk;simp[hk]));refine LR.an ?_;refine af _ _ ?_;refine CW.ret (hret .ret (.inr rfl) _ _ _ (res1 rfl rfl) ?_);exact⟨_,_,rfl,hf,ai,hm0⟩
set_option maxHeartbeats 2000000 in
theorem append_ct(mx_:Int)(K:List Nat)(g:Gh)(b:Nat)(D:Dk)(p:Pth)(sd:SV)(d:List UInt8)(F:Nat→Prop)(w0:World)(H0:Heap)
 (hf:PDk K g H0 b D) (mx:MX mx_ H0) (bf_mx:BF (fun b=>b=0) H0.size) (dmx:DFL (fun b=>b=0) K) (hd:Rd F H0 fB 1 sd.v d) (bf_hd:BF F H0.size) (dfd:DFL F K) (hl:p.length≤4294967280) (hB:Bd 274877906944 D) (hdl:d.length≤274877906944):
 Ct Tryz.prog w0 33 #[ptr b,Str p,sd.v] H0 (fun r H2=>∃K2:List Nat,∃g2:Gh,r= .int .i64 ((D.lay p ⟨true,d⟩).1:Int)∧(PDk K2 g2 H2 b (D.lay p ⟨true,d⟩).2)∧(NxK K H0.size K2)∧Mo (Ms K) H0 H2):=by
 refine Ct.enter (args:=[ptr b,Str p,sd.v]) Tryz.func33 rfl rfl rfl ?_;intro Q0 hret;have hm0:Mo (Ms K) H0 H0:=Mo.refl _ _;have aa:=NxK.refl K H0.size;have ac:=hf.bk;refine CW.sr (fun ae=>?_);refine LR.an ?_;refine ae _ _ (CW.seq (fun K2 af _=>CW.region ?_));refine LR.m1 ?_;refine LR.m1 ?_;refine LR.m1 ?_;refine LR.v1 (Y.build (v:=wV (⟨true,d⟩,sd)) rfl rfl (by intro w;kernel_rfl)) ?_;refine LR.call rfl c'74 rfl (Wd.u rfl) rfl rfl (lay_ct mx_ K g b D p (⟨true,d⟩,sd) F w0 _ hf mx (bf_mx.mono (by omega)) dmx hd (bf_hd.mono (by omega)) dfd hl hB hdl) (fun aj ak ag=>?_);obtain⟨ah,al,rfl,hf,ab,ad⟩:=ag;have ai:NxK K H0.size ah:=NxK.tr (aa) ab hm0.size;replace hm0:=hm0.trL ad (MIL.ofK (aa) (by intro k hk;simp[hk]));refine LR.an ?_;refine af _ _ ?_;refine CW.ret (hret .ret (.inr rfl) _ _ _ (res1 rfl rfl) ?_);exact⟨_,_,rfl,hf,ai,hm0⟩
set_option maxHeartbeats 2000000 in
theorem sync_ct(mx_:Int)(K:List Nat)(g:Gh)(b:Nat)(D:Dk)(p:Pth)(w0:World)(H0:Heap)
 (hf:PDk K g H0 b D) (mx:MX mx_ H0) (bf_mx:BF (fun b=>b=0) H0.size) (dmx:DFL (fun b=>b=0) K) (hl:p.length≤4294967280) (hB:Bd 274877906944 D):
 Ct Tryz.prog w0 30 #[ptr b,Str p] H0 (fun r H2=>∃K2:List Nat,∃g2:Gh,r= .int .i64 ((D.sync p).1:Int)∧(PDk K2 g2 H2 b (D.sync p).2)∧(NxK K H0.size K2)∧Mo (Ms K) H0 H2):=by
 refine Ct.enter (args:=[ptr b,Str p]) Tryz.func30 rfl rfl rfl ?_;intro Q0 hret;have hm0:Mo (Ms K) H0 H0:=Mo.refl _ _;have aa:=NxK.refl K H0.size;have ag:=hf.bk;have hop0:=hB.op;have hdm0:=hf.dml;obtain⟨D1,hD1⟩:∃D1,D1=D.begin.2:=⟨_,rfl⟩;have hB1:=hB.begin;rw[←hD1]at hB1;refine CW.sr (fun ap=>?_);refine LR.an ?_;refine ap _ _ (CW.seq (fun K2 aq ar=>CW.sr (fun au=>?_)));refine LR.m1 ?_;refine LR.call rfl c'73 rfl (Wd.u rfl) rfl rfl (begin_ct K g b D w0 _ hf (by omega)) ?_;rintro v8 H8 ⟨g1,rfl,hf,aD,ah⟩;replace mx:=mx.upL ah (dmx);replace hm0:=hm0.trL ah (MIL.ofK (aa) (by intro k hk;simp[hk]));have aE:=ah.size;rw[←hD1]at hf;refine LR.v1 (Y.not rfl rfl) (LR.nil (au _ _ ?_));refine CW.cond rfl (fun c9=>?_) (fun c9=>?_)
 ·
  refine CW.sr (fun av=>?_);refine LR.an ?_;refine av _ _ ?_;refine CW.ret (ar .ret nofun _ _ (hret .ret (.inr rfl) _ _ _ (res1 rfl rfl) ?_));have hdd:=sync_dead (p:=p) (show D.begin.1=false by simpa using c9);exact⟨_,_,by rw[hdd];rfl,by rw[hdd];rw[hD1]at hf;exact hf,aa,hm0⟩
 ·
  have hgo:D.begin.1=true:=by simpa using c9
  have hops:=(begin_true hgo).1;rw[←hD1]at hops;have hlay:=sync_go (p:=p) hgo;rw[←hD1]at hlay;refine CW.skip (aq _ _ (CW.sr (fun aw=>?_)));refine LR.m1 ?_;refine LR.m1 ?_;refine LR.call rfl c'63 rfl (Wd.u rfl) rfl rfl (find_ct mx_ K g1 b D1 p w0 _ mx (bf_mx.mono (by omega)) hf hl) (fun aF ai ax=>?_);obtain⟨rfl,ad⟩:=ax;replace hf:=hf.nw ad;replace hm0:=hm0.trN ad;have aG:=ad.size;refine LR.m1 ?_;refine LR.v1 (Y.extract rfl rfl rfl) ?_;refine LR.v1 (Y.extract rfl rfl rfl) ?_;refine LR.a1 ?_;refine LR.an ?_;refine aw _ _ (CW.s1 (fun aj=>CW.sr (fun ay=>?_)));refine LR.m1 ?_;refine LR.v1 (Y.eql rfl rfl rfl) (LR.nil (ay _ _ ?_));refine CW.condp rfl (fun az=>?_) (fun az=>?_)
  ·
   have hlk:D1.look p=0:=by omega
   obtain⟨hnm,i,hnow⟩:=look_0 hlk;have hil:=hf.ids.1 p i hnow;obtain⟨bi,hbi,hbv⟩:∃bi,g1.fb.getD i 0=bi∧ .pointer (fpt g1.fb (if D1.look p=0 then mget D1.now p else none))=ptr bi:=⟨_,rfl,by rw[if_pos hlk,hnow];rfl⟩;obtain⟨nvB,svB,wvB,kwB,lwB,hfiB⟩:=hf.fil i hil;have hop:Mo (Ms [(bi+1)]) ai ai:=Mo.refl _ _;have km1:KM K (bi+1):=(hf.kmf hfiB hbi);have vf2:=hfiB.atb hbi;have ak:MI K H0.size (bi+1):=MIL.at (MIL.ofK (aa) (by intro k hk;simp[hk])) km1;have al:=Nx.refl (bi+1) ai.size;refine CW.region ?_;refine LR.v1 (Y.cast (v2:=ptr bi) (Y.move rfl rfl) (hbv)) ?_;refine LR.v1 (Y.cast (v2:=ptr bi) (Y.move rfl rfl) (hbv)) ?_;refine LR.v1 (Y.cast (v2:=ptr bi) (Y.move rfl rfl) (hbv)) ?_;refine LR.n1 ?_;refine LR.v1 (Y.FA vf2.pt rfl u'112 rfl s'109) ?_;refine LR.v1 (Y.FA vf2.pt rfl u'109 rfl s'34) ?_;refine LR.v1 (Y.load1 vf2.pt rfl a'34 rfl) ?_;refine LR.n1 ?_;refine LR.v1 (Y.FA vf2.pt rfl u'112 rfl s'109) ?_;refine LR.v1 (Y.FA vf2.pt rfl u'109 rfl s'34) ?_;refine LR.s1 (S.var1 vf2 1 ([nvB.v,nvB.v,wvB.v]) rfl rfl rfl (rfl) s'34 (by simp) (rfl)) fun am ae=>?_;obtain⟨vf2,ab⟩:=ae;replace ab:=ab.md1;replace hm0:=hm0.trL ab (MIL.cons (ak) MIL.nil);replace hop:=hop.trL ab (MIL.o (MI.r al));refine LR.n1 ?_;refine LR.v1 (Y.FA vf2.pt rfl u'112 rfl s'110) ?_;refine LR.s1 (S.var1 vf2 2 ([nvB.v,nvB.v,.slice none 0 0]) rfl rfl rfl (rfl) s'110 (by simp) (rfl)) fun ao af=>?_;obtain⟨vf2,ac⟩:=af;replace ac:=ac.md1;replace hm0:=hm0.trL ac (MIL.cons (ak) MIL.nil);replace hop:=hop.trL ac (MIL.o (MI.r al));refine LR.nil ?_;have aA:NxK K H0.size K:=aa;replace hf:=hf.fsync hil hfiB hbi hop vf2;refine aj _ _ (CW.sr (fun aB=>?_));refine LR.m1 ?_;refine LR.an ?_;refine aB _ _ ?_;refine CW.ret (hret .ret (.inr rfl) _ _ _ (res1 rfl rfl) ?_);exact⟨_,_,by rw[hlay];rfl,by rw[hlay];simp only[hlk,if_true,hnow,Option.getD_some];exact hf,aA,hm0⟩
  ·
   refine CW.skip (aj _ _ (CW.sr (fun aC=>?_)));refine LR.m1 ?_;refine LR.an ?_;refine aC _ _ ?_;refine CW.ret (hret .ret (.inr rfl) _ _ _ (res1 rfl rfl) ?_);exact⟨_,_,by rw[hlay];rfl,by rw[hlay];rw[if_neg (by omega)];exact hf,aa,hm0⟩
set_option maxHeartbeats 2000000 in
theorem rename_ct(mx_:Int)(K:List Nat)(g:Gh)(b:Nat)(D:Dk)(p q:Pth)(w0:World)(H0:Heap)
 (hf:PDk K g H0 b D) (mx:MX mx_ H0) (bf_mx:BF (fun b=>b=0) H0.size) (dmx:DFL (fun b=>b=0) K) (hl:p.length≤4294967280) (hl2:q.length≤4294967280) (hB:Bd 274877906944 D):
 Ct Tryz.prog w0 49 #[ptr b,Str p,Str q] H0 (fun r H2=>∃K2:List Nat,∃g2:Gh,r= .int .i64 ((D.rename p q).1:Int)∧(PDk K2 g2 H2 b (D.rename p q).2)∧(NxK K H0.size K2)∧Mo (Ms K) H0 H2):=by
 refine Ct.enter (args:=[ptr b,Str p,Str q]) Tryz.func49 rfl rfl rfl ?_;intro Q0 hret;have hm0:Mo (Ms K) H0 H0:=Mo.refl _ _;have aa:=NxK.refl K H0.size;have ap:=hf.bk;have hop0:=hB.op;have hdm0:=hf.dml;obtain⟨D1,hD1⟩:∃D1,D1=D.begin.2:=⟨_,rfl⟩;have hB1:=hB.begin;rw[←hD1]at hB1;refine CW.sr (fun aF=>?_);refine LR.an ?_;refine aF _ _ (CW.seq (fun K2 aG aH=>CW.sr (fun aI=>?_)));refine LR.m1 ?_;refine LR.call rfl c'73 rfl (Wd.u rfl) rfl rfl (begin_ct K g b D w0 _ hf (by omega)) (fun a0 a2 aJ=>?_);obtain⟨g1,rfl,hf,aK,ag⟩:=aJ;replace mx:=mx.upL ag (dmx);replace hm0:=hm0.trL ag (MIL.ofK (aa) (by intro k hk;simp[hk]));have a3:=ag.size;rw[←hD1]at hf;refine LR.v1 (Y.not rfl rfl) (LR.nil (aI _ _ ?_));refine CW.cond rfl (fun aq=>?_) (fun aq=>?_)
 ·
  refine CW.sr (fun aL=>?_);refine LR.an ?_;refine aL _ _ ?_;refine CW.ret (aH .ret nofun _ _ (hret .ret (.inr rfl) _ _ _ (res1 rfl rfl) ?_));have hdd:=ren_dead (p:=p) (q:=q) (show D.begin.1=false by simpa using aq);exact⟨_,_,by rw[hdd];rfl,by rw[hdd];rw[hD1]at hf;exact hf,aa,hm0⟩
 ·
  have hgo:D.begin.1=true:=by simpa using aq
  have hops:=(begin_true hgo).1;rw[←hD1]at hops;have hlay:=ren_go (p:=p) (q:=q) hgo;rw[←hD1]at hlay;refine CW.skip (aG _ _ (CW.s2 (fun aM ar=>CW.block (fun _ aN _ au=>CW.sr (fun aE=>?_)))));refine LR.m1 ?_;refine LR.call rfl c'26 rfl (Wd.u rfl) rfl rfl (name_ct mx_ p w0 _ mx (bf_mx.mono (by omega)) hl) (fun a4 a5 aO=>?_);obtain⟨rfl,ab⟩:=aO;replace hf:=hf.nw ab;replace mx:=mx.nw ab;replace hm0:=hm0.trN ab;have a6:=ab.size;refine LR.v1 (Y.not rfl rfl) ?_;refine LR.m1 ?_;refine LR.split (d:=16) rfl (fun aj=>?_) (fun aj=>?_)
  ·
   refine LR.g1 ?_;refine LR.g1 ?_;refine LR.g1 ?_;refine LR.pt ?_;refine LR.an ?_;refine aE _ _ ?_;refine CW.cond_t rfl ?_;refine CW.sr (fun aP=>?_);refine LR.an ?_;refine aP _ _ ?_;refine CW.ret (au .ret nofun (by simp) _ _ (ar .ret nofun _ _ (hret .ret (.inr rfl) _ _ _ (res1 rfl rfl) ?_)));have hE:=renE_7 (D:=D1) (p:=p) (q:=q) (by first|exact .inl (by simpa using aj)|exact .inr (by simpa using ak));exact⟨_,_,by rw[hlay,hE];rfl,by rw[hlay,hE];exact hf,aa,hm0⟩
  ·
   refine LR.wm ?_;refine LR.call rfl c'26 rfl (Wd.g rfl rfl rfl) rfl rfl (name_ct mx_ q w0 _ mx (bf_mx.mono (by omega)) hl2) (fun a7 a8 aQ=>?_);obtain⟨rfl,ac⟩:=aQ;replace hf:=hf.nw ac;replace mx:=mx.nw ac;replace hm0:=hm0.trN ac;have a9:=ac.size;refine LR.w1 (Y.not rfl rfl) ?_;refine LR.pf ?_;refine LR.an ?_;refine aE _ _ ?_;refine CW.cond rfl (fun ak=>?_) (fun ak=>?_)
   ·
    refine CW.sr (fun aR=>?_);refine LR.an ?_;refine aR _ _ ?_;refine CW.ret (au .ret nofun (by simp) _ _ (ar .ret nofun _ _ (hret .ret (.inr rfl) _ _ _ (res1 rfl rfl) ?_)));have hE:=renE_7 (D:=D1) (p:=p) (q:=q) (by first|exact .inl (by simpa using aj)|exact .inr (by simpa using ak));exact⟨_,_,by rw[hlay,hE];rfl,by rw[hlay,hE];exact hf,aa,hm0⟩
   ·
    refine CW.sr (fun av=>?_);refine LR.m1 ?_;refine LR.call rfl c'52 rfl (Wd.u rfl) rfl rfl (dir_ct mx_ p w0 _ mx (bf_mx.mono (by omega)) hl) (fun a_ ba aS=>?_);obtain⟨rfl,ad⟩:=aS;replace hf:=hf.nw ad;replace mx:=mx.nw ad;replace hm0:=hm0.trN ad;have bb:=ad.size;refine LR.m1 ?_;refine LR.call rfl c'52 rfl (Wd.u rfl) rfl rfl (dir_ct mx_ q w0 _ mx (bf_mx.mono (by omega)) hl2) (fun bc bd aT=>?_);obtain⟨rfl,ae⟩:=aT;replace hf:=hf.nw ae;replace mx:=mx.nw ae;replace hm0:=hm0.trN ae;have be:=ae.size;refine LR.v1 (Y.sneq rfl rfl rfl) ?_;refine LR.an ?_;refine av _ _ ?_;refine CW.condp rfl (fun aw=>?_) (fun aw=>?_)
    ·
     refine CW.sr (fun ax=>?_);refine LR.an ?_;refine ax _ _ ?_;refine CW.ret (au .ret nofun (by simp) _ _ (ar .ret nofun _ _ (hret .ret (.inr rfl) _ _ _ (res1 rfl rfl) ?_)));have hE:=renE_13 (D:=D1) (p:=p) (q:=q) (by simpa using aj) (by simpa using ak) (by simpa using aw);exact⟨_,_,by rw[hlay,hE];rfl,by rw[hlay,hE];exact hf,aa,hm0⟩
    ·
     have hdq:dirP p=dirP q:=by simpa using aw
     have hn1:nameB p=true:=by simpa using aj
     have hn2:nameB q=true:=by simpa using ak
     have hrl:=renE_l (D:=D1) hn1 hn2 hdq;refine CW.skip (aN _ _ (aM _ _ (CW.sr (fun ay=>?_))));refine LR.m1 ?_;refine LR.m1 ?_;refine LR.call rfl c'63 rfl (Wd.u rfl) rfl rfl (find_ct mx_ K g1 b D1 p w0 _ mx (bf_mx.mono (by omega)) hf hl) (fun bf bg aU=>?_);obtain⟨rfl,af⟩:=aU;replace hf:=hf.nw af;replace mx:=mx.nw af;replace hm0:=hm0.trN af;have bh:=af.size;refine LR.m1 ?_;refine LR.v1 (Y.extract rfl rfl rfl) ?_;refine LR.v1 (Y.extract rfl rfl rfl) ?_;refine LR.a1 ?_;refine LR.an ?_;refine ay _ _ (CW.s1 (fun ah=>CW.sr (fun al=>?_)));refine LR.m1 ?_;refine LR.v1 (Y.eql rfl rfl rfl) ?_;refine LR.m1 ?_;refine LR.splitp (d:=35) rfl (fun az=>?_) (fun az=>?_)
     ·
      refine LR.wm ?_;refine LR.wm ?_;refine LR.w1 (Y.sneq rfl rfl rfl) ?_;refine LR.pt ?_;refine LR.nil (al _ _ ?_);refine CW.condp rfl (fun ao=>?_) (fun ao=>?_)
      ·
       have hlk:D1.look p=0:=by omega
       obtain⟨hnm,i,hnow⟩:=look_0 hlk;have hil:=hf.ids.1 p i hnow;refine CW.region ?_;refine LR.m1 ?_;refine LR.m1 ?_;refine LR.call rfl c'52 rfl (Wd.u rfl) rfl rfl (dir_ct mx_ p w0 _ mx (bf_mx.mono (by omega)) hl) (fun bi bj aV=>?_);obtain⟨rfl,ai⟩:=aV;replace hf:=hf.nw ai;replace hm0:=hm0.trN ai;have bl:=ai.size;refine LR.m1 ?_;refine LR.m1 ?_;refine LR.m1 ?_;refine LR.v1 (Y.cast (v2:= .agg (fC g1.fb ⟨p,q,some i⟩).toArray) (Y.build (v:= .agg #[Str p,Str q,.pointer (fpt g1.fb (if D1.look p=0 then mget D1.now p else none))]) rfl rfl (by intro w;kernel_rfl)) (by rw[if_pos hlk,hnow])) ?_;refine LR.call rfl c'85 rfl (Wd.u rfl) rfl rfl (change_ct K g1 b D1 (dirP p) ⟨p,q,some i⟩ w0 _ hf (by rw[aK.2.2.2];omega) (by simp[Chg.dir,name_ne hnm]) (fun j hj=>by cases hj;exact⟨hdq.symm,hil⟩) (fun h=>rfl) (by have:=hB1.lg;omega)) (fun bm bn aW=>?_);obtain⟨aX,bo,rfl,hf,am,aY,aA⟩:=aW;have aZ:NxK K H0.size aX:=NxK.tr (aa) am hm0.size;replace hm0:=hm0.trL aA (MIL.ofK (aa) (by intro k hk;simp[hk]));refine LR.nil (ah _ _ (CW.sr (fun aB=>?_)));refine LR.m1 ?_;refine LR.an ?_;refine aB _ _ ?_;refine CW.ret (hret .ret (.inr rfl) _ _ _ (res1 rfl rfl) ?_);exact⟨_,_,by rw[hlay,hrl];rfl,by rw[hlay,hrl];rw[if_pos ⟨hlk,by simpa using ao⟩,hnow];exact hf,aZ,hm0⟩
      ·
       refine CW.skip (ah _ _ (CW.sr (fun aC=>?_)));refine LR.m1 ?_;refine LR.an ?_;refine aC _ _ ?_;refine CW.ret (hret .ret (.inr rfl) _ _ _ (res1 rfl rfl) ?_);exact⟨_,_,by rw[hlay,hrl];rfl,by rw[hlay,hrl];rw[if_neg (fun h=>by first|exact az (by omega)|exact h.2 (by simpa using ao))];exact hf,aa,hm0⟩
     ·
      refine LR.g1 ?_;refine LR.g1 ?_;refine LR.g1 ?_;refine LR.pf ?_;refine LR.nil (al _ _ ?_);refine CW.cond_f rfl ?_;refine CW.skip (ah _ _ (CW.sr (fun aD=>?_)));refine LR.m1 ?_;refine LR.an ?_;refine aD _ _ ?_;refine CW.ret (hret .ret (.inr rfl) _ _ _ (res1 rfl rfl) ?_);exact⟨_,_,by rw[hlay,hrl];rfl,by rw[hlay,hrl];rw[if_neg (fun h=>by first|exact az (by omega)|exact h.2 (by simpa using ao))];exact hf,aa,hm0⟩
set_option maxHeartbeats 2000000 in
theorem syncDir_ct(mx_:Int)(K:List Nat)(g:Gh)(b:Nat)(D:Dk)(p:Pth)(w0:World)(H0:Heap)
 (hf:PDk K g H0 b D) (mx:MX mx_ H0) (bf_mx:BF (fun b=>b=0) H0.size) (dmx:DFL (fun b=>b=0) K) (hl:p.length≤4294967280) (hB:Bd 274877906944 D):
 Ct Tryz.prog w0 51 #[ptr b,Str p] H0 (fun r H2=>∃K2:List Nat,∃g2:Gh,r= .int .i64 ((D.syncDir p).1:Int)∧(PDk K2 g2 H2 b (D.syncDir p).2)∧(NxK K H0.size K2)∧Mo (Ms K) H0 H2):=by
 refine Ct.enter (args:=[ptr b,Str p]) Tryz.func51 rfl rfl rfl ?_;intro Q0 hret;have hm0:Mo (Ms K) H0 H0:=Mo.refl _ _;have aa:=NxK.refl K H0.size;have ay:=hf.bk;have hop0:=hB.op;have hdm0:=hf.dml;obtain⟨D1,hD1⟩:∃D1,D1=D.begin.2:=⟨_,rfl⟩;have hB1:=hB.begin;rw[←hD1]at hB1;refine CW.sr (fun aU=>?_);refine LR.an ?_;refine aU _ _ (CW.seq (fun K2 aV aW=>CW.sr (fun aX=>?_)));refine LR.m1 ?_;refine LR.call rfl c'73 rfl (Wd.u rfl) rfl rfl (begin_ct K g b D w0 _ hf (by omega)) ?_;rintro v7 H7 ⟨g1,rfl,hf,aN,az⟩;replace mx:=mx.upL az (dmx);replace hm0:=hm0.trL az (MIL.ofK (aa) (by intro k hk;simp[hk]));have a8:=az.size;rw[←hD1]at hf;refine LR.v1 (Y.not rfl rfl) (LR.nil (aX _ _ ?_));refine CW.cond rfl (fun c8=>?_) (fun c8=>?_)
 ·
  refine CW.sr (fun aY=>?_);refine LR.an ?_;refine aY _ _ ?_;refine CW.ret (aW .ret nofun _ _ (hret .ret (.inr rfl) _ _ _ (res1 rfl rfl) ?_));have hdd:=sd_dead (p:=p) (show D.begin.1=false by simpa using c8);exact⟨_,_,by rw[hdd];rfl,by rw[hdd];rw[hD1]at hf;exact hf,aa,hm0⟩
 ·
  have hgo:D.begin.1=true:=by simpa using c8
  have hops:=(begin_true hgo).1;rw[←hD1]at hops;have hlay:=sd_go (p:=p) hgo;rw[←hD1]at hlay;refine CW.skip (aV _ _ (CW.s2 (fun aO aZ=>CW.sr (fun aP=>?_))));refine LR.m1 ?_;refine LR.v1 (Y.sneq rfl rfl rfl) ?_;refine LR.m1 ?_;refine LR.splitp (d:=11) rfl (fun ax=>?_) (fun ax=>?_)
  ·
   refine LR.wm ?_;refine LR.call rfl c'26 rfl (Wd.g rfl rfl rfl) rfl rfl (name_ct mx_ p w0 _ mx (bf_mx.mono (by omega)) hl) (fun a9 a_ a0=>?_);obtain⟨rfl,ak⟩:=a0;replace hf:=hf.nw ak;replace hm0:=hm0.trN ak;have ba:=ak.size;refine LR.w1 (Y.not rfl rfl) ?_;refine LR.pt ?_;refine LR.nil (aP _ _ ?_);refine CW.cond rfl (fun ao=>?_) (fun ao=>?_)
   ·
    refine CW.sr (fun a1=>?_);refine LR.an ?_;refine a1 _ _ ?_;refine CW.ret (aZ .ret nofun _ _ (hret .ret (.inr rfl) _ _ _ (res1 rfl rfl) ?_));have hE:dirE p=7:=by unfold dirE;rw[if_pos ⟨ax,by simpa using ao⟩]
    exact⟨_,_,by rw[hlay,hE];rfl,by rw[hlay,hE];exact hf,aa,hm0⟩
   ·
    refine CW.skip (aO _ _ (CW.sr (fun a2=>?_)));refine LR.m1 ?_;refine LR.m1 ?_;refine LR.call rfl c'86 rfl (Wd.u rfl) rfl rfl (mkdir_ct K g1 b D1 p w0 _ hf (by rw[aN.2.2.2];omega)) (fun a3 aj aA=>?_);obtain⟨al,a4,db,rfl,hf,ag,hdb,aB,am⟩:=aA;have aQ:NxK K H0.size al:=NxK.tr (aa) ag hm0.size;replace hm0:=hm0.trL am (MIL.ofK (aa) (by intro k hk;simp[hk]));refine LR.an ?_;refine a2 _ _ (CW.s1 (fun a5=>?_));obtain⟨nbB,sbB,kcB,svB,nmB,smB,hdB⟩:=hf.dirs _ db hdb;have hop:Mo (Ms [(db+1)]) aj aj:=Mo.refl _ _;have km4:KM al (db+1):=(hf.km1 hdB.rd (by simp));have vd:=hdB.vd;have aR:MI K H0.size (db+1):=MIL.at (MIL.ofK (aQ) (by intro k hk;simp[hk])) km4;have aS:=Nx.refl (db+1) aj.size;refine CW.region ?_;refine LR.m1 ?_;refine LR.m1 ?_;refine LR.m1 ?_;refine LR.n1 ?_;refine LR.v1 (Y.FA vd.pt rfl u'99 rfl s'96) ?_;refine LR.v1 (Y.FA vd.pt rfl u'96 rfl s'94) ?_;refine LR.v1 (Y.load1 vd.pt rfl a'94 rfl) ?_;refine LR.call rfl c'40 rfl (Wd.u rfl) rfl rfl (mclone_ct nbB nmB w0 _ hdB.hn) (fun a6 a7 aC=>?_);obtain⟨af,rfl,hm26,ad,ae⟩:=aC;have aT:Dj (db+1) (af+1):=Dj.app (Dj.z) vd.lt ad;have aD:Nx 0 H0.size (af+1):=Nx.tr (Nx.refl 0 _) ad hm0.size;have aE:Nx 0 aj.size (af+1):=Nx.tr (Nx.refl 0 _) ad hop.size;replace vd:=vd.nw ae;replace hm0:=hm0.trN ae;replace hop:=hop.trN ae;refine LR.n1 ?_;refine LR.v1 (Y.FA vd.pt rfl u'99 rfl s'96) ?_;refine LR.v1 (Y.FA vd.pt rfl u'96 rfl s'94) ?_;refine LR.s1 (S.var1 vd 1 ([.map (some nbB),.map (some af),svB.v]) rfl rfl rfl (rfl) s'94 (by simp) (rfl)) fun ap ah=>?_;obtain⟨vd,ab⟩:=ah;replace ab:=ab.md1;replace hm26:=hm26.upL ab (DL.o aT.symm);replace hm0:=hm0.trL ab (MIL.cons (aR) MIL.nil);replace hop:=hop.trL ab (MIL.o (MI.r aS));refine LR.n1 ?_;refine LR.v1 (Y.FA vd.pt rfl u'99 rfl s'97) ?_;refine LR.s1 (S.var1 vd 2 ([.map (some nbB),.map (some af),.slice none 0 0]) rfl rfl rfl (rfl) s'97 (by simp) (rfl)) fun aq ai=>?_;obtain⟨vd,ac⟩:=ai;replace ac:=ac.md1;replace hm26:=hm26.upL ac (DL.o aT.symm);replace hm0:=hm0.trL ac (MIL.cons (aR) MIL.nil);replace hop:=hop.trL ac (MIL.o (MI.r aS));refine LR.nil ?_;have aF:NxK K H0.size ((af+1)::al):=(NxK.cons (aD) (aQ));replace hf:=hf.dsync hB1.an hdb hdB hop vd hm26 (fun _=>rfl) (DL.nxK hf.bk (aE));refine a5 _ _ (CW.sr (fun aG=>?_));refine LR.an ?_;refine aG _ _ ?_;refine CW.ret (hret .ret (.inr rfl) _ _ _ (res1 rfl rfl) ?_);have hE:dirE p=0:=by unfold dirE;rw[if_neg (fun h=>by first|exact absurd h.1 ax|(rw[h.2]at ao;cases ao))]
    exact⟨_,_,by rw[hlay,hE];rfl,by rw[hlay,hE];exact hf,aF,hm0⟩
  ·
   refine LR.g1 ?_;refine LR.g1 ?_;refine LR.g1 ?_;refine LR.pf ?_;refine LR.nil (aP _ _ ?_);refine CW.cond_f rfl ?_;refine CW.skip (aO _ _ (CW.sr (fun aH=>?_)));refine LR.m1 ?_;refine LR.m1 ?_;refine LR.call rfl c'86 rfl (Wd.u rfl) rfl rfl (mkdir_ct K g1 b D1 p w0 _ hf (by rw[aN.2.2.2];omega)) (fun a3 aj aA=>?_);obtain⟨al,a4,db,rfl,hf,ag,hdb,aB,am⟩:=aA;have ar:NxK K H0.size al:=NxK.tr (aa) ag hm0.size;replace hm0:=hm0.trL am (MIL.ofK (aa) (by intro k hk;simp[hk]));refine LR.an ?_;refine aH _ _ (CW.s1 (fun aI=>?_));obtain⟨nbB,sbB,kcB,svB,nmB,smB,hdB⟩:=hf.dirs _ db hdb;have hop:Mo (Ms [(db+1)]) aj aj:=Mo.refl _ _;have km17:KM al (db+1):=(hf.km1 hdB.rd (by simp));have vd:=hdB.vd;have au:MI K H0.size (db+1):=MIL.at (MIL.ofK (ar) (by intro k hk;simp[hk])) km17;have av:=Nx.refl (db+1) aj.size;refine CW.region ?_;refine LR.m1 ?_;refine LR.m1 ?_;refine LR.m1 ?_;refine LR.n1 ?_;refine LR.v1 (Y.FA vd.pt rfl u'99 rfl s'96) ?_;refine LR.v1 (Y.FA vd.pt rfl u'96 rfl s'94) ?_;refine LR.v1 (Y.load1 vd.pt rfl a'94 rfl) ?_;refine LR.call rfl c'40 rfl (Wd.u rfl) rfl rfl (mclone_ct nbB nmB w0 _ hdB.hn) (fun a6 a7 aC=>?_);obtain⟨af,rfl,hm26,ad,ae⟩:=aC;have aw:Dj (db+1) (af+1):=Dj.app (Dj.z) vd.lt ad;have aJ:Nx 0 H0.size (af+1):=Nx.tr (Nx.refl 0 _) ad hm0.size;have aK:Nx 0 aj.size (af+1):=Nx.tr (Nx.refl 0 _) ad hop.size;replace vd:=vd.nw ae;replace hm0:=hm0.trN ae;replace hop:=hop.trN ae;refine LR.n1 ?_;refine LR.v1 (Y.FA vd.pt rfl u'99 rfl s'96) ?_;refine LR.v1 (Y.FA vd.pt rfl u'96 rfl s'94) ?_;refine LR.s1 (S.var1 vd 1 ([.map (some nbB),.map (some af),svB.v]) rfl rfl rfl (rfl) s'94 (by simp) (rfl)) fun ap ah=>?_;obtain⟨vd,ab⟩:=ah;replace ab:=ab.md1;replace hm26:=hm26.upL ab (DL.o aw.symm);replace hm0:=hm0.trL ab (MIL.cons (au) MIL.nil);replace hop:=hop.trL ab (MIL.o (MI.r av));refine LR.n1 ?_;refine LR.v1 (Y.FA vd.pt rfl u'99 rfl s'97) ?_;refine LR.s1 (S.var1 vd 2 ([.map (some nbB),.map (some af),.slice none 0 0]) rfl rfl rfl (rfl) s'97 (by simp) (rfl)) fun aq ai=>?_;obtain⟨vd,ac⟩:=ai;replace ac:=ac.md1;replace hm26:=hm26.upL ac (DL.o aw.symm);replace hm0:=hm0.trL ac (MIL.cons (au) MIL.nil);replace hop:=hop.trL ac (MIL.o (MI.r av));refine LR.nil ?_;have aL:NxK K H0.size ((af+1)::al):=(NxK.cons (aJ) (ar));replace hf:=hf.dsync hB1.an hdb hdB hop vd hm26 (fun _=>rfl) (DL.nxK hf.bk (aK));refine aI _ _ (CW.sr (fun aM=>?_));refine LR.an ?_;refine aM _ _ ?_;refine CW.ret (hret .ret (.inr rfl) _ _ _ (res1 rfl rfl) ?_);have hE:dirE p=0:=by unfold dirE;rw[if_neg (fun h=>by first|exact absurd h.1 ax|(rw[h.2]at ao;cases ao))]
   exact⟨_,_,by rw[hlay,hE];rfl,by rw[hlay,hE];exact hf,aL,hm0⟩
end SimI

namespace SimJ
open E Go.RowKit SimA SimB SimC SimD SimE SimF SimG SimH SimI
open Go.Sort Go.Shelf
theorem blt_lt(a b:Pth):blt a b↔a<b:=by unfold blt;rw[bytesLess_eq,decide_eq_true_iff]
theorem not_blt{a b:Pth}(h:a≤b):¬blt b a:=by rw[blt_lt];exact List.not_lt.2 h
theorem sorted_rise{l m:List Pth}(hn:l.Nodup)(h:m=l.mergeSort (fun x y=>decide (x≤y))):Rise m∧m.Perm l:=by
 subst h;have hp:=List.mergeSort_perm l (fun x y=>decide (x≤y))
 have hs:(l.mergeSort (fun x y=>decide (x≤y))).Pairwise (fun x y=>decide (x≤y)=true):=List.pairwise_mergeSort (le:=fun x y:List UInt8=>decide (x≤y)) (fun a b c h1 h2=>by
  simp only[decide_eq_true_eq]at*;exact List.le_trans h1 h2) (fun a b=>by
  simp only[Bool.or_eq_true,decide_eq_true_eq];exact List.le_total a b) l
 have hn2:(l.mergeSort (fun x y=>decide (x≤y))).Nodup:=hp.nodup_iff.2 hn;refine⟨?_,hp⟩;unfold Rise;rw[List.nodup_iff_pairwise_ne]at hn2;refine(hs.and hn2).imp (fun{x y} h=>?_);obtain⟨h1,h2⟩:=h;refine Classical.byContradiction (fun h3=>h2 (blt_total h3 ?_));simp only[decide_eq_true_eq]at h1;exact not_blt h1
theorem flatS:∀l:List Pth,l.flatMap fS=l.map Str
 |[]=>rfl
 |x::l=>by rw[List.flatMap_cons,flatS l];rfl
theorem putCells_S(d:Array Pth)(cur:Array Value)(h:d.size≤cur.size):(putCells encStr 0 d cur).size=cur.size∧(putCells encStr 0 d cur).toList.take d.size=d.toList.flatMap fS:=by
 refine⟨by simp[putCells],?_⟩;rw[flatS];apply List.ext_getElem?;intro i;rw[List.getElem?_take];split
 ·rename_i hi
  rw[Array.getElem?_toList,List.getElem?_map,Array.getElem?_toList,Array.getElem?_eq_getElem (by simp[putCells];omega),Array.getElem?_eq_getElem hi];simp only[putCells,Array.getElem_mapIdx,Nat.zero_le,Nat.zero_add,true_and,Nat.sub_zero];rw[if_pos hi,getElem!_pos d i hi];rfl
 ·rw[List.getElem?_map,Array.getElem?_toList,Array.getElem?_eq_none (by omega)];rfl
theorem sortS_ct(k:Nat)(v:Value)(l:List Pth)(w0:World)(H:Heap)(h:Ow k 9 H fS 1 v l)(hl:l.length<4611686018427387904):
 Ct Tryz.prog w0 78 #[v] H (fun r H2=>∃l2:List Pth,∃k2:Nat,r= .tuple #[]∧Ow k2 9 H2 fS 1 v l2∧Nx k H.size k2∧(l2=l.mergeSort (fun x y=>decide (x≤y)))∧Mo (Ms [k]) H H2):=by
 intro w ha;rcases h.own.ex with⟨hv,hx⟩|⟨g',cap,cur,hv,hk,hr,h1,h2,h3,h4⟩
 ·subst hv hx
  exact(Any.slices_Sort_string_none Tryz.lays190 none 0 w).mono (fun e w' ⟨he,hw⟩=>⟨_,H,he,by rw[hw];exact ha,[],k,rfl,h,Nx.refl _ _,by simp,Mo.refl _ _⟩)
 ·obtain⟨fz,hh,hsf⟩:=id hr
  have hwb:w.heap[g']?=some (.cells cur 9 fz):=by rw[ha.heap];exact hh
  have hle:l.length≤cur.size:=by rw[h3];omega
  have hH:Holds encStr w g' 0 l.toArray:=by
   intro j hj;have hjl:j<l.length:=by simpa using hj
   have hc:cur[j]?=some (Str l[j]):=by
    have:(cur.toList.take (l.length*1))[j]?=(l.flatMap fS)[j]?:=by rw[h4]
    rw[List.getElem?_take,if_pos (by omega),Array.getElem?_toList,flatS]at this;rw[this,List.getElem?_map,List.getElem?_eq_getElem hjl];rfl
   refine⟨?_,?_⟩
   ·simp only[World.cell?,hwb,Nat.zero_add,Option.isSome_none,Bool.false_eq_true,if_false,id_eq]
    rw[hc,getElem!_pos l.toArray j hj];rfl
   ·have:=hsf.2 j (by omega)
    simp only[World.frozen?,hwb,Nat.zero_add]
    simpa using this
  have hg:g'<w.heap.size:=by rw[ha.heap];exact hr.lt
  have hcon:=Any.slices_Sort_string Tryz.lays190 g' 0 cap l w hH hg hl;rw[←hv]at hcon;refine hcon.mono ?_;rintro en w' ⟨he,n,os,rfl⟩;have hd:(l.mergeSort fun x y=>decide (x≤y)).length=l.length:=List.length_mergeSort l;obtain⟨hF1,hF2⟩:=putCells_S (l.mergeSort fun x y=>decide (x≤y)).toArray cur (by simp;exact hle);have hheap:(grow (putRow encStr (Sort.ahead w n) g' 0 (l.mergeSort fun x y=>decide (x≤y)).toArray) os).heap=w.heap.modify g' (onCells (putCells encStr 0 (l.mergeSort fun x y=>decide (x≤y)).toArray))++os:=rfl
  have hat:(grow (putRow encStr (Sort.ahead w n) g' 0 (l.mergeSort fun x y=>decide (x≤y)).toArray) os).heap[g']?=some (.cells (putCells encStr 0 (l.mergeSort fun x y=>decide (x≤y)).toArray cur) 9 fz):=by
   rw[hheap,Array.getElem?_append_left (by simpa using hg),Array.getElem?_modify,if_pos rfl,hwb];rfl
  refine⟨_,(grow (putRow encStr (Sort.ahead w n) g' 0 (l.mergeSort fun x y=>decide (x≤y)).toArray) os).heap,he,⟨rfl,ha.os,ha.tape,ha.output,Nat.le_trans ha.dr (Nat.le_add_right _ _)⟩,_,k,rfl,⟨⟨fS_len,fS_one,.inr ⟨g',cap,_,by rw[hd];exact hv,hk,⟨fz,hat,by rw[hF1];exact hsf⟩,by rw[hd];exact h1,h2,by rw[hF1];exact h3,?_⟩⟩,?_⟩,Nx.refl _ _,rfl,?_,?_⟩
  ·simpa using hF2
  ·rw[hheap]
   have:=h.le;simp[ha.heap];omega
  ·rw[hheap];simp[ha.heap]
  ·intro b hb hn
   have hne:g'≠b:=fun q=>hn (by unfold Ms;rw[←q];simp[hk]);rw[hheap,Array.getElem?_append_left (by simp[ha.heap,hb]),Array.getElem?_modify,if_neg hne,ha.heap]
end SimJ

namespace SimK
open E Go.RowKit SimA SimB SimC SimD SimE SimF SimG SimH SimI SimJ
set_option maxRecDepth 100000 in
theorem inf87:Inf Tryz.prog 87 9 1 16:=⟨Tryz.underlying87,_,_,rfl,rfl,rfl,rfl,rfl⟩
def rfOf:Code→Code
 | .seq _ (.seq (.seq _ (.block _ c)) _)=>c
 |_=> .skip
def asOf:Code→Code
 | .rangeFunc _ _ c _=>c
 |_=> .skip
def boOf:Code→Code
 | .rangeFunc _ _ _ c=>c
 |_=> .skip
structure ApR (r:Loop) (Bs:Nat):Prop where
 st:r.state= .ready
 pe:r.pending=none
 ps:r.params= #[7]
 A:r.assign=asOf (rfOf (Tryz.f115.body.getD .skip))
 B:r.body=boOf (rfOf (Tryz.f115.body.getD .skip))
 fr:Fr Tryz.f115.ntmps [(2,.pointer (some ⟨Bs,0,none⟩))] {tmps:=r.tmps,defers:=[]}
theorem ap_round(r:Loop)(Bs lp kr:Nat)(vr:Value)(ss:List Pth)(x:Pth)(w0:World)(H:Heap)(hr:ApR r Bs)(hl:Lpr H lp r)(hB:Var 87 H Bs [vr])(ho:Ow kr 9 H fS 1 vr ss)(d1:Dj (lp+1) (Bs+1))(d2:Dj (lp+1) kr)(d3:Dj (Bs+1) kr)(hlen:ss.length≤1099511627776):
 YCt Tryz.prog w0 lp [Str x] H (fun r' H2=>∃vr2:Value,∃kr2:Nat,r'= .bool true∧Lpr H2 lp r∧Var 87 H2 Bs [vr2]∧Ow kr2 9 H2 fS 1 vr2 (ss++[x])∧Nx kr H.size kr2∧Mo (Ms [lp+1,Bs+1,kr]) H H2):=by
 have hf7:=hr.fr.put (d:=7) rfl (Str x);refine YCt.of hl hr.st hr.pe hr.ps (hr.A.trans rfl) (hr.B.trans rfl) hf7 ?_;have hlB:lp≠Bs:=d1.ne;have hll:=hl.lt;have hBl:=hB.lt;have hol:=ho.le;have hm:=Mo.refl (Ms [lp+1,Bs+1,kr]) H;refine LRI.v (Y.assign rfl rfl) (by intro c e;cases e) (Wd.u rfl) rfl rfl ?_;refine LRI.nil (fun a w hf ha=>⟨rfl,_,H,hf,ha,hl,?_⟩);have hs7:Mo (fun c=>c=lp) H (H.setIfInBounds lp (.loop {r with state:= .busy})):=mo_set _;have hl7:Lpr (H.setIfInBounds lp (.loop {r with state:= .busy})) lp {r with state:= .busy}:=⟨by simp[hl.lt]⟩;obtain⟨H7,hH7⟩:∃H7,H7=H.setIfInBounds lp (.loop {r with state:= .busy}):=⟨_,rfl⟩;rw[←hH7]at hs7 hl7⊢;have hs7':=hs7.md1;replace hm:=hm.trL hs7' (MIL.cons (MI.root (by simp)) MIL.nil);replace hB:=hB.upL hs7' (DL.cons (Dj.of (Ne.symm hlB)) DL.nil);replace ho:=ho.upL hs7' (DL.o d2.symm);have hz7:=hs7.size;refine LRI.v (Y.load1 hB.pt rfl a'87 rfl) (by intro c e;cases e) (Wd.u rfl) rfl rfl ?_;refine LRI.v (Y.move rfl rfl) (by intro c e;cases e) (Wd.u rfl) rfl rfl ?_;refine LRI.z (Z.litw _ ([x]) rfl inf87 rfl rfl rfl (by decide) (by decide) fS_len fS_one rfl) (by intro c e;cases e) (Wd.u rfl) rfl rfl ?_;rintro v10 H10 ⟨ow10,hs10,ob10,hH10⟩;have hz10:H10.size=H7.size+1:=by rw[hH10];simp
 replace hm:=hm.trN hs10;replace hl7:=hl7.nw hs10;replace hB:=hB.nw hs10;replace ho:=ho.nw hs10;have hd10:Dj kr (H7.size+1):=Dj.new (by omega);have hol10:=ho.le;refine LRI.z (Z.apnd ho ow10.rd rfl inf87 rfl rfl (by simp;omega) (by simp;omega)) (by intro c e;cases e) (Wd.u rfl) rfl rfl ?_;rintro v11 H11 ⟨k11,ow11,hk11,hs11⟩;replace hk11:Nx kr H10.size k11:=hk11;have hs11':=hs11.md;replace hm:=hm.trL hs11' (MIL.cons (MI.root (by simp)) MIL.nil);replace hl7:=hl7.upL hs11' (DL.o d2);replace hB:=hB.upL hs11' (DL.o d3);have hz11:=hs11.size;have dB:Dj (Bs+1) k11:=Dj.app d3 (by omega) hk11;have dl:Dj (lp+1) k11:=Dj.app d2 (by omega) hk11;obtain⟨s11,hs11v⟩:∃s:SV,v11=s.v:=⟨toSV v11,ow11.sv.symm⟩;refine LRI.s (S.var1 hB 0 ([v11]) rfl rfl rfl (by rw[hs11v];rfl) s'87 (by simp) rfl) (by intro c e;cases e) (Wd.u rfl) rfl ?_;rintro H12 ⟨hB,hs12⟩;have hs12':=hs12.md1;replace hm:=hm.trL hs12' (MIL.cons (MI.root (by simp)) MIL.nil);replace hl7:=hl7.upL hs12' (DL.o d1);replace ow11:=ow11.upL hs12' (DL.o dB.symm);have hz12:=hs12.size;refine LRI.nil (fun a w hf ha=>⟨rfl,H12,ha,hl7,v11,k11,rfl,?_,?_,?_,?_,?_⟩)
 ·exact⟨by simp[hl7.lt]⟩
 ·exact hB.upL (Mo.md1 (mo_set (r:=lp) _)) (DL.cons (Dj.of (Ne.symm hlB)) DL.nil)
 ·exact ow11.upL (Mo.md1 (mo_set (r:=lp) _)) (DL.o dl.symm)
 ·unfold Nx at hk11⊢;omega
 ·exact hm.trL (Mo.md1 (mo_set (r:=lp) _)) (MIL.cons (MI.root (by simp)) MIL.nil)
theorem Fr.start{n:Nat}{args:List Value}(hk:args.length≤n):Fr n (argL args 0) {tmps:=args.toArray++Array.replicate (n-args.toArray.size) undef,defers:=[]}:=by
 refine⟨rfl,?_,?_⟩
 ·simp;omega
 ·intro t v e
  obtain⟨_,h2⟩:=argL_get args 0 t v e;simp only[Nat.sub_zero]at h2;simp only;have hlt:=(List.getElem?_eq_some_iff.1 h2).1;rw[Array.getElem?_append_left (by simpa using hlt)]
  simpa using h2
theorem LRD.v{P:Program}{w0:World}{Q:Exit→Act→World→Prop}{n:Nat}{l:FL}{H:Heap}{ops:Array Oper}{rest:List Oper}{o:Oper}{ds:List Deferred}{v:Value}{d:Nat}(hy:Y P w0 n l H o v)(hnd:∀c,o.op≠ .defer c)(hw:Wd ops l o)(hd:o.dst=some d)(hn:Nat.blt d n=true)
 (h:∀a w,Fr n ((d,v)::l) a→At w0 H w→wpListIn (FW none) 0 P ops Q rest {a with defers:=ds} w):∀a w,Fr n l a→At w0 H w→wpListIn (FW none) 0 P ops Q (o::rest) {a with defers:=ds} w:=by
 intro a w hf ha;have hp:=hf.put hn v;rw[←hd]at hp;unfold wpListIn;rw[if_pos (hw n a hf)];refine⟨fun _ _=>trivial,?_⟩;rw[Oper.semAt_eq _ _ _ hnd];show Oper.uponIn _ _ _ _ _ _ _ ((execOp a.eval o).run P w);rw[hy a w hf ha,Oper.uponIn_value];have h2:=h _ w hp ha;have e:({a with defers:=ds}:Act).put o.dst v={(a.put o.dst v)with defers:=ds}:=by rw[hd];rfl
 rw[e];exact h2
theorem keys1D(r_:Loop)(lp Bs bx mb D kr:Nat)(vr:Value)(fv:Nat→Value)(mm:List (Pth×Nat))(w0:World)(H0:Heap)
 (hx:Var 66 H0 bx [.map (some mb)]) (hso:Mp H0 Str fv mb mm) (hD:Dfr H0 D) (hl:Lpr H0 lp r_) (hB:Var 87 H0 Bs [vr]) (ow:Ow kr 9 H0 fS 1 vr []) (hr:ApR r_ Bs) (hmm:mm.length≤1099511627776) (d_hl_hB:Dj (lp+1) (Bs+1)) (d_hl_ow:Dj (lp+1) (kr)) (d_hB_ow:Dj (Bs+1) (kr)) (d_hx_hl:Dj (bx+1) (lp+1)) (d_hx_hB:Dj (bx+1) (Bs+1)) (d_hx_ow:Dj (bx+1) (kr)) (d_hso_hl:Dj (mb+1) (lp+1)) (d_hso_hB:Dj (mb+1) (Bs+1)) (d_hso_ow:Dj (mb+1) (kr)) (d_hD_hl:Dj (D+1) (lp+1)) (d_hD_hB:Dj (D+1) (Bs+1)) (d_hD_ow:Dj (D+1) (kr)):
 Ct Tryz.prog w0 79 #[.func (.yield lp) #[] #[],.pointer (some ⟨bx,0,none⟩)] H0 (fun r H2=>∃vr2:Value,∃kr2:Nat,∃out:List Pth,r= .tuple #[]∧(Lpr H2 lp r_)∧(Var 87 H2 Bs [vr2])∧(Ow kr2 9 H2 fS 1 vr2 out)∧(Nx kr H0.size kr2)∧(out.Nodup∧∀k,k∈out↔k∈mm.map (·.1))∧Mo (Ms [(lp+1),(Bs+1),kr]) H0 H2):=by
 refine Ct.enter (args:=[.func (.yield lp) #[] #[],.pointer (some ⟨bx,0,none⟩)]) Tryz.func79 rfl rfl rfl ?_;intro Q0 hret;have hm0:Mo (Ms [(lp+1),(Bs+1),kr]) H0 H0:=Mo.refl _ _;have ay:=hx.lt;have ax:=hso.lt;have az:=hD.lt;have af:=Nx.refl (lp+1) H0.size;have aA:=hl.lt;have ag:=Nx.refl (Bs+1) H0.size;have aB:=hB.lt;have aa:=Nx.refl kr H0.size;have ah:=ow.le;refine CW.sr (fun aP=>?_);refine LR.v1 (Y.load1 hx.pt rfl a'66 rfl) ?_;obtain⟨es,ck,hso⟩:=hso.raw;refine LR.z1 (Z.rangeA hso rfl u'66 rfl) ?_;rintro v5 H5 ⟨rfl,it,ar,a4,aQ⟩;have aR:H5.size=H0.size+1:=by rw[aQ];simp
 have aL:Dj (mb+1) (H0.size+1):=Dj.new hso.lt;have aM:Dj (lp+1) (H0.size+1):=Dj.new hl.lt;have aN:Dj (Bs+1) (H0.size+1):=Dj.new hB.lt;have aS:Dj kr (H0.size+1):=Dj.new ow.le;have aO:Nx 0 H0.size (H0.size+1):=Nx.new hm0.size;replace hso:=hso.nw ar;replace hl:=hl.nw ar;replace hB:=hB.nw ar;replace ow:=ow.nw ar;replace hm0:=hm0.trN ar;have a5:=ar.size;have aC:=it.lt;refine LR.nil (aP _ _ (CW.block (fun _ _ aT _=>?_)))
 refine CW.loop (fun(s_:(List Pth)×(Value)×(Nat))=>match s_ with|(dn,vr3,kr3)=>[(0,.func (.yield lp) #[] #[]),(5,.pointer (some ⟨H0.size,0,none⟩))])
  (fun(dn,vr3,kr3) (H:Heap)=>(Itr H H0.size mb Str es ck dn)∧(Lpr H lp r_)∧(Var 87 H Bs [vr3])∧(Ow kr3 9 H fS 1 vr3 dn)∧(dn.Nodup∧∀k∈dn,k∈mm.map (·.1))∧(Nx kr H5.size kr3)∧(Dj (H0.size+1) kr3)∧(Dj (lp+1) kr3)∧(Dj (Bs+1) kr3)∧Mo (Ms [(H0.size+1),(lp+1),(Bs+1),kr]) H5 H)
  (fun(dn,vr3,kr3)=>mm.length-dn.length) ([],vr,kr) ⟨rfl,rfl,trivial⟩ ?_ ?_
 ·
  exact⟨it,hl,hB,ow,⟨List.nodup_nil,by simp⟩,Nx.refl _ _,aS.symm,d_hl_ow,d_hB_ow,Mo.refl _ _⟩
 rintro⟨dn,vr3,kr3⟩ a6 aU K3 aV aW;obtain⟨it,hl,hB,ow,hdn,ai,aj,ak,al,ab⟩:=aU;have aD:Nx kr H0.size kr3:=Nx.tr (aa) ai hm0.size;replace hso:=hso.upL ab (DL.cons aL (DL.cons d_hso_hl (DL.cons d_hso_hB (DL.o d_hso_ow))));replace hm0:=hm0.trL ab (MIL.cons (MI.q aO) (MIL.cons (MI.r af) (MIL.cons (MI.r ag) (MIL.o (MI.r aa)))));have a7:=ab.size;have ah:=ow.le;have ap:=aj;have au:=ak;have av:=al;have ac:=Nx.refl (H0.size+1) H5.size;have ad:=Nx.refl (lp+1) H5.size;have ae:=Nx.refl (Bs+1) H5.size;have aw:=ai;have hdl:=nodup_le hdn.1 hdn.2;rw[List.length_map]at hdl;refine CW.sr (fun aX=>?_);refine LR.z1 (Z.nextA it hso keyStr.inj rfl rfl) ?_;rintro v6 H6 ⟨qb,x,y,dn2,rfl,it,hT6,hF6,am⟩;replace am:=am.md1;replace hso:=hso.upL am (DL.o aL);replace ow:=ow.upL am (DL.o ap.symm);replace hl:=hl.upL am (DL.o aM);replace hB:=hB.upL am (DL.o aN);replace hm0:=hm0.trL am (MIL.o (MI.q aO));replace ab:=ab.trL am (MIL.o (MI.r ac));have a8:=am.size;refine LR.v1 (Y.ext0 rfl rfl) (LR.nil (aX _ _ ?_));refine CW.s2 (fun aY aZ=>?_);refine CW.cond rfl (fun c7=>?_) (fun c7=>?_)
 ·
  obtain⟨hxy,hnd,hdq⟩:=hT6 c7;rw[hdq]at it;refine CW.skip (aY _ _ (CW.block (fun _ a0 _ _=>CW.sr (fun a1=>?_))));refine LR.v1 (Y.entryA it hso keyStr.inj hxy rfl rfl) ?_;refine LR.v1 (Y.extract rfl rfl rfl) ?_;refine LR.an ?_;refine a1 _ _ (CW.s1 (fun a2=>?_));refine CW.region_in ?_;refine LRI.v (Y.move rfl rfl) (by intro c e;cases e) (Wd.u rfl) rfl rfl ?_;refine LRI.v (Y.move rfl rfl) (by intro c e;cases e) (Wd.u rfl) rfl rfl ?_;refine LRI.round rfl rfl rfl (Wd.u rfl) rfl rfl (ap_round r_ Bs lp _ _ dn x w0 _ hr hl hB ow (d_hl_hB) (au) (av) (by omega)) (fun a9 a_ a3=>?_);have aE:=it.lt;have aF:=hl.lt;have aG:=hB.lt;obtain⟨vr12,kr12,rfl,hl,hB,ow,ao,aq⟩:=a3;have aH:Dj (H0.size+1) kr12:=Dj.app (ap) aE ao;have aI:Dj (lp+1) kr12:=Dj.app (au) aF ao;have aJ:Dj (Bs+1) kr12:=Dj.app (av) aG ao;have aK:Nx kr H5.size kr12:=Nx.tr (aw) ao ab.size;replace it:=it.upL aq (DL.cons aM.symm (DL.cons aN.symm (DL.o ap)));replace ab:=ab.trL aq (MIL.cons (MI.r ad) (MIL.cons (MI.r ae) (MIL.o (MI.r aw))));have ba:=aq.size;have ah:=ow.le;refine LRI.v (Y.not rfl rfl) (by intro c e;cases e) (Wd.u rfl) rfl rfl ?_;refine LRI.nil ?_;refine a2 _ _ ?_;refine CW.cond_f rfl ?_;refine CW.skip (a0 _ _ ?_)
  have hdn2:(dn++[x]).Nodup∧∀k∈dn++[x],k∈mm.map (·.1):=by
   refine⟨?_,fun k hk=>?_⟩
   ·rw[List.nodup_append]
    exact⟨hdn.1,by simp,fun a ha b hb e=>by simp only[List.mem_singleton]at hb;subst hb;subst e;exact hnd ha⟩
   ·rcases List.mem_append.1 hk with hk|hk
    ·exact hdn.2 k hk
    ·rw[List.mem_singleton.1 hk];exact List.mem_map.2 ⟨_,hxy,rfl⟩
  have hdl2:=nodup_le hdn2.1 hdn2.2;rw[List.length_append,List.length_map,List.length_singleton]at hdl2;refine QN.sub (aV (dn++[x],vr12,kr12) _ ?_ ?_) ⟨rfl,rfl,trivial⟩
  ·exact⟨it,hl,hB,ow,hdn2,aK,aH,aI,aJ,ab⟩
  ·simp only[List.length_append,List.length_singleton];omega
 ·
  obtain⟨hall,hdq⟩:=hF6 c7;refine CW.exit (aZ (.exit 0) nofun _ _ (aW (.exit 0) nofun _ _ (aT _ _ ?_)));refine hret .normal (.inl rfl) _ _ _ (res0 rfl) ?_;exact⟨vr3,kr3,dn,rfl,hl,hB,ow,aD,⟨hdn.1,fun k=>⟨hdn.2 k,fun h=>by obtain⟨p,hp,rfl⟩:=List.mem_map.1 h;exact hall p hp⟩⟩,hm0⟩
theorem apseqD(bx mb:Nat)(fv:Nat→Value)(mm:List (Pth×Nat))(w0:World)(H0:Heap)(hx:Var 66 H0 bx [.map (some mb)])(hso:Mp H0 Str fv mb mm)(hmm:mm.length≤1099511627776):
 Ct Tryz.prog w0 115 #[.slice none 0 0,.func (.func 79) #[] #[.pointer (some ⟨bx,0,none⟩)]] H0 (fun r H2=>∃s:SV,∃k:Nat,∃out:List Pth,r=s.v∧(Ow k 9 H2 fS 1 s.v out)∧(Nx 0 H0.size k)∧(out.Nodup∧∀k,k∈out↔k∈mm.map (·.1))∧Nw H0 H2):=by
 intro w ha;refine callsIn_wide.1 (callsIn_of_wp_marks (n:=0) Tryz.func115 rfl trivial ?_);have hf0:=Fr.start (n:=Tryz.f115.ntmps) (args:=[.slice none 0 0,.func (.func 79) #[] #[.pointer (some ⟨bx,0,none⟩)]]) (Nat.le_of_ble_eq_true rfl);refine wpIn_seq (wpIn_wide.2 ?_);refine(CW.region (w0:=w0) (H:=H0) (n:=Tryz.f115.ntmps) (l:=argL [.slice none 0 0,.func (.func 79) #[] #[.pointer (some ⟨bx,0,none⟩)]] 0) ?_) _ w hf0 ha;refine LR.z1 (Z.boxv1 rfl rfl rfl) ?_;rintro v2 H1 ⟨rfl,hB,hs1,ob1,hH1⟩;have hz1:H1.size=H0.size+1:=by rw[hH1];simp
 have hxl:=hx.lt;have hsl:=hso.lt;replace hx:=hx.nw hs1;replace hso:=hso.nw hs1;refine LR.a1 ?_;refine LR.nil (fun a1 w1 hf1 ha1=>?_);show(Code.seq _ _).wpIn Fence.wide 0 _ _ a1 w1;refine wpIn_seq (wpIn_seq (wpIn_wide.2 ?_));refine(CW.region (w0:=w0) (H:=H1) ?_) a1 w1 hf1 ha1;refine LR.m1 ?_;refine LR.nil (fun a2 w2 hf2 ha2=>?_);show(Code.block _ _).wpIn Fence.wide 0 _ _ a2 w2;refine wpIn_block (wpIn_rangeFunc (fun fn _=>?_));obtain⟨rc,hrc⟩:∃rc:Loop,rc={state:= .ready,pending:=none,fn,tmps:=a2.tmps,params:= #[7],assign:=asOf (rfOf (Tryz.f115.body.getD .skip)),body:=boOf (rfOf (Tryz.f115.body.getD .skip)),defers:=w2.heap.size}:=⟨_,rfl⟩
 have hst:(Instr.enterLoop fn a2.tmps #[7] (asOf (rfOf (Tryz.f115.body.getD .skip))) (boOf (rfOf (Tryz.f115.body.getD .skip))) none).run Tryz.prog w2= .ok (w2.heap.size+1,[{target:= .collected w2.heap.size,args:= #[]}]) ((w2.alloc (.deferred (some []))).alloc (.loop rc)):=by
  rw[hrc];exact run_enterLoop_outer fn a2.tmps #[7] _ _
 have ha3:At w0 ((H1.push (.deferred (some []))).push (.loop rc)) ((w2.alloc (.deferred (some []))).alloc (.loop rc)):=(ha2.alloc _).alloc _;obtain⟨w3,hw3⟩:∃w3,w3=(w2.alloc (.deferred (some []))).alloc (.loop rc):=⟨_,rfl⟩;rw[←hw3]at hst ha3;obtain⟨H3,hH3⟩:∃H3,H3=(H1.push (.deferred (some []))).push (.loop rc):=⟨_,rfl⟩;rw[←hH3]at ha3;have hz3:H3.size=H1.size+2:=by rw[hH3];simp
 have hw2:w2.heap.size=H1.size:=by rw[ha2.heap]
 have hs3:Nw H1 H3:=by rw[hH3];exact(Nw.pu _ _).tr (Nw.pu _ _)
 replace hx:=hx.nw hs3;replace hso:=hso.nw hs3;replace hB:=hB.nw hs3;have hD:Dfr H3 H1.size:=⟨by rw[hH3,Array.getElem?_push,if_neg (by simp)];exact Array.getElem?_push_size⟩
 have hl:Lpr H3 (H1.size+1) rc:=⟨by
  have h9:=Array.getElem?_push_size (xs:=H1.push (.deferred (some []))) (x:=Obj.loop rc);rw[Array.size_push,←hH3]at h9;exact h9⟩
 have hap:ApR rc H0.size:=by
  subst hrc;exact⟨rfl,rfl,rfl,rfl,rfl,⟨rfl,hf2.size,fun t v e=>(hf2.sub (l':=[(2,.pointer (some ⟨H0.size,0,none⟩))]) ⟨rfl,trivial⟩).get t v e⟩⟩
 have hyi:∀w,(callFunc 79 #[.func (.yield (H1.size+1)) #[] #[],.pointer (some ⟨bx,0,none⟩)]).run Tryz.prog w= .ok (.enter 79 #[.func (.yield (H1.size+1)) #[] #[],.pointer (some ⟨bx,0,none⟩)]) w:=fun w=>enters_of Tryz.func79 (by kernel_rfl) rfl _ w;refine⟨w2.heap.size+1,[{target:= .collected w2.heap.size,args:= #[]}],w3,{target:= .fn (.func 79) #[.pointer (some ⟨bx,0,none⟩)],args:= #[.func (.yield (H1.size+1)) #[] #[]]},w3,79,#[.func (.yield (H1.size+1)) #[] #[],.pointer (some ⟨bx,0,none⟩)],w3,hst,?_,fun _ _=>trivial,?_,fun h=>(by cases h),?_⟩
 ·have h6:=hf2.get 6 (.func (.func 79) #[] #[.pointer (some ⟨bx,0,none⟩)]) rfl
  rw[hw2];simp[resolve,rangeCall,Deferred.ofValue,Act.eval,h6]
 ·exact hyi _
 refine callsIn_wide.2 ((keys1D rc (H1.size+1) H0.size bx mb H1.size 0 (.slice none 0 0) fv mm w0 H3 hx hso hD hl hB (Ow.nil fS_len fS_one) hap hmm (Dj.of (by omega)) Dj.z Dj.z (Dj.of (by omega)) (Dj.of (by omega)) Dj.z (Dj.of (by omega)) (Dj.of (by omega)) Dj.z (Dj.of (by omega)) (Dj.of (by omega)) Dj.z _ ha3).mono ?_);rintro e w4 ⟨r4,H4,rfl,ha4,vr2,k2,out,rfl,hl4,hB4,ow4,hk4,hout,hm4⟩;have hD4:Dfr H4 H1.size:=hD.upL hm4 (DL.cons (Dj.of (by omega)) (DL.cons (Dj.of (by omega)) (DL.o Dj.z)));have hlw:w4.heap[w2.heap.size+1]?=some (.loop rc):=by rw[ha4.heap,hw2];exact hl4.at_
 have hrp:rc.pending=none:=hap.pe;have hend:=run_endLoop (P:=Tryz.prog) hlw (by rw[hap.st];simp);rw[hrp]at hend;refine⟨none,_,hend,?_⟩;have hs5:Mo (fun c=>c=H1.size+1) H4 (H4.setIfInBounds (H1.size+1) (.loop {rc with state:= .exhausted})):=mo_set _
 have ha5:At w0 (H4.setIfInBounds (H1.size+1) (.loop {rc with state:= .exhausted})) (w4.putObj (w2.heap.size+1) (.loop {rc with state:= .exhausted})):=by
  unfold World.putObj;rw[ha4.heap,hw2];exact ha4.set
 rw[hrp]at hs5 ha5;obtain⟨w5,hw5⟩:∃w5,w5=w4.putObj (w2.heap.size+1) (.loop {rc with state:= .exhausted,pending:=none}):=⟨_,rfl⟩;obtain⟨H5,hH5⟩:∃H5,H5=H4.setIfInBounds (H1.size+1) (.loop {rc with state:= .exhausted,pending:=none}):=⟨_,rfl⟩;rw[←hw5]at ha5;rw[←hH5]at hs5 ha5;rw[←hw5];have hz4:=hm4.size;have hz5:=hs5.size;have hs5':=hs5.md1;have dk:∀c,c+1≤H3.size→Dj k2 (c+1):=fun c hc q h1 h2=>by unfold Nx at hk4;omega
 replace hB4:=hB4.upL hs5' (DL.cons (Dj.of (by omega)) DL.nil);replace ow4:=ow4.upL hs5' (DL.cons (dk _ (by omega)) DL.nil);replace hD4:=hD4.upL hs5' (DL.cons (Dj.of (by omega)) DL.nil)
 have hm0:Mo (Ms []) H0 H5:=by
  have q0:=((Mo.refl (S:=Ms []) H0).trN hs1).trN hs3;have q1:=q0.trL hm4 (MIL.cons (MI.new (by omega)) (MIL.cons (MI.new (Nat.le_refl _)) (MIL.cons MI.z MIL.nil)));exact q1.trL hs5' (MIL.cons (MI.new (by omega)) MIL.nil)
 show(Code.seq _ _).wpIn Fence.wide 0 _ _ _ w5;refine wpIn_seq (wpIn_region_lit ?_);refine LRD.v (w0:=w0) (H:=H5) (Y.load1 hB4.pt rfl a'87 rfl) (by intro c e;cases e) (Wd.u rfl) rfl rfl ?_ a2 w5 hf2 ha5;refine LRD.v (w0:=w0) (H:=H5) (Y.assign rfl rfl) (by intro c e;cases e) (Wd.u rfl) rfl rfl ?_;intro a6 w6 hf6 ha6;show Code.ret.wpIn Fence.wide 0 _ _ _ w6;refine wpIn_ret ?_;show LeavesInM Fence.wide 0 _ _ a6.tmps _ ([{target:= .collected w2.heap.size,args:= #[]}]++a2.defers) .returning w6;rw[hf2.defers,List.append_nil];have hDw:w6.heap[w2.heap.size]?=some (.deferred (some [])):=by rw[ha6.heap,hw2];exact hD4.at_
 refine⟨by simp,.inl ⟨_,_,rfl,run_takeDeferred (P:=Tryz.prog) hDw,?_⟩⟩;have hs7:Mo (fun c=>c=H1.size) H5 (H5.setIfInBounds H1.size (.deferred none)):=mo_set _
 have ha7:At w0 (H5.setIfInBounds H1.size (.deferred none)) (w6.putObj w2.heap.size (.deferred none)):=by
  unfold World.putObj;rw[ha6.heap,hw2];exact ha6.set
 have hs7':=hs7.md1;obtain⟨s,hs⟩:∃s:SV,vr2=s.v:=⟨toSV vr2,ow4.sv.symm⟩;refine⟨vr2,res1 rfl rfl _ _ hf6 ha7,vr2,_,rfl,ha7,s,k2,out,hs,?_,?_,hout,?_⟩
 ·rw[←hs];exact ow4.upL hs7' (DL.cons (dk _ (by omega)) DL.nil)
 ·unfold Nx at hk4⊢;omega
 ·exact(hm0.trL hs7' (MIL.cons (MI.new (by omega)) MIL.nil)).nil
theorem collectD(bx mb:Nat)(fv:Nat→Value)(mm:List (Pth×Nat))(w0:World)(H0:Heap)
 (hx:Var 66 H0 bx [.map (some mb)]) (hso:Mp H0 Str fv mb mm) (hmm:mm.length≤1099511627776):
 Ct Tryz.prog w0 77 #[.func (.func 79) #[] #[.pointer (some ⟨bx,0,none⟩)]] H0 (fun r H2=>∃s:SV,∃k:Nat,∃out:List Pth,r=s.v∧(Ow k 9 H2 fS 1 s.v out)∧(Nx 0 H0.size k)∧(out.Nodup∧∀k,k∈out↔k∈mm.map (·.1))∧Nw H0 H2):=by
 refine Ct.enter (args:=[.func (.func 79) #[] #[.pointer (some ⟨bx,0,none⟩)]]) Tryz.func77 rfl rfl rfl ?_;intro Q0 hret;have hm0:Nw H0 H0:=Mo.refl _ _;refine CW.sr (fun aa=>?_);refine LR.an ?_;refine aa _ _ (CW.sr (fun ab=>?_));refine LR.m1 ?_;refine LR.call rfl c'115 rfl (Wd.u rfl) rfl rfl (apseqD bx mb fv mm w0 _ hx hso hmm) ?_;rintro v4 H4 ⟨s4,k4,out4,rfl,ac,ad,hout4,ae⟩;have af:Nx 0 H0.size k4:=Nx.tr (Nx.refl 0 _) ad hm0.size;replace hm0:=hm0.tr ae;refine LR.an ?_;refine ab _ _ ?_;refine CW.ret (hret .ret (.inr rfl) _ _ _ (res1 rfl rfl) ?_);exact⟨s4,k4,out4,rfl,ac,af,hout4,hm0⟩
theorem keysD(mb:Nat)(w0:World)(H0:Heap)
 :
 Ct Tryz.prog w0 37 #[.map (some mb)] H0 (fun r H2=>∃bx:Nat,r= .func (.func 79) #[] #[.pointer (some ⟨bx,0,none⟩)]∧(Var 66 H2 bx [.map (some mb)])∧(Nx 0 H0.size (bx+1))∧Nw H0 H2):=by
 refine Ct.enter (args:=[.map (some mb)]) Tryz.func37 rfl rfl rfl ?_;intro Q0 hret;have hm0:Nw H0 H0:=Mo.refl _ _;refine CW.sr (fun aa=>?_);refine LR.z1 (Z.boxv1 rfl rfl (rfl)) ?_;rintro v1 H1 ⟨rfl,hx,ab,ad,ae⟩;replace hm0:=hm0.tr ab;replace hx:Var 66 H1 H0.size ([.map (some mb)]):=hx;refine LR.an ?_;refine aa _ _ (CW.sr (fun ac=>?_));refine LR.v1 (Y.makeFunc rfl rfl) ?_;refine LR.an ?_;refine ac _ _ ?_;refine CW.ret (hret .ret (.inr rfl) _ _ _ (res1 rfl rfl) ?_);exact⟨_,rfl,hx,Nx.new (Nat.le_refl _),hm0⟩
theorem sortedD(bx mb:Nat)(fv:Nat→Value)(mm:List (Pth×Nat))(w0:World)(H0:Heap)
 (hx:Var 66 H0 bx [.map (some mb)]) (hso:Mp H0 Str fv mb mm) (hmm:mm.length≤1099511627776):
 Ct Tryz.prog w0 36 #[.func (.func 79) #[] #[.pointer (some ⟨bx,0,none⟩)]] H0 (fun r H2=>∃s:SV,∃k:Nat,∃out:List Pth,r=s.v∧(Ow k 9 H2 fS 1 s.v out)∧(Nx 0 H0.size k)∧(Rise out∧∀k,k∈out↔k∈mm.map (·.1))∧Nw H0 H2):=by
 refine Ct.enter (args:=[.func (.func 79) #[] #[.pointer (some ⟨bx,0,none⟩)]]) Tryz.func36 rfl rfl rfl ?_;intro Q0 hret;have hm0:Nw H0 H0:=Mo.refl _ _;have ab:=hx.lt;have aa:=hso.lt;refine CW.sr (fun af=>?_);refine LR.an ?_;refine af _ _ (CW.sr (fun ag=>?_));refine LR.m1 ?_;refine LR.call rfl c'77 rfl (Wd.u rfl) rfl rfl (collectD bx mb fv mm w0 _ hx hso hmm) ?_;rintro v5 H5 ⟨s5,k5,out5,rfl,ow,ah,hout5,ad⟩;have ae:Nx 0 H0.size k5:=Nx.tr (Nx.refl 0 _) ah hm0.size;replace hm0:=hm0.tr ad;have ao:=ad.size;have ac:=ow.le;have hol:=nodup_le hout5.1 (fun k hk=>(hout5.2 k).1 hk);rw[List.length_map]at hol;refine LR.an ?_;refine ag _ _ (CW.sr (fun ai=>?_));refine LR.m1 ?_;refine LR.call rfl c'78 rfl (Wd.u rfl) rfl rfl (sortS_ct k5 _ out5 w0 _ ow (by omega)) ?_;rintro v7 H7 ⟨l2,k2,rfl,ow,aj,hp7,ak⟩;have al:Nx 0 H0.size k2:=Nx.tr (ae) aj hm0.size;replace hm0:=hm0.tq ak (MIL.o (MI.q ae));refine LR.nil (ai _ _ (CW.sr (fun am=>?_)));refine LR.m1 ?_;refine LR.an ?_;refine am _ _ ?_;refine CW.ret (hret .ret (.inr rfl) _ _ _ (res1 rfl rfl) ?_);obtain⟨hp1,hp2⟩:=sorted_rise hout5.1 hp7;exact⟨s5,k2,l2,rfl,ow,al,⟨hp1,fun k=>by rw[hp2.mem_iff,hout5.2]⟩,hm0⟩
theorem keys1N(r_:Loop)(lp Bs bx mb D kr:Nat)(vr:Value)(fv:Nat→Value)(mm:List (Pth×Nat))(w0:World)(H0:Heap)
 (hx:Var 94 H0 bx [.map (some mb)]) (hso:Mp H0 Str fv mb mm) (hD:Dfr H0 D) (hl:Lpr H0 lp r_) (hB:Var 87 H0 Bs [vr]) (ow:Ow kr 9 H0 fS 1 vr []) (hr:ApR r_ Bs) (hmm:mm.length≤1099511627776) (d_hl_hB:Dj (lp+1) (Bs+1)) (d_hl_ow:Dj (lp+1) (kr)) (d_hB_ow:Dj (Bs+1) (kr)) (d_hx_hl:Dj (bx+1) (lp+1)) (d_hx_hB:Dj (bx+1) (Bs+1)) (d_hx_ow:Dj (bx+1) (kr)) (d_hso_hl:Dj (mb+1) (lp+1)) (d_hso_hB:Dj (mb+1) (Bs+1)) (d_hso_ow:Dj (mb+1) (kr)) (d_hD_hl:Dj (D+1) (lp+1)) (d_hD_hB:Dj (D+1) (Bs+1)) (d_hD_ow:Dj (D+1) (kr)):
 Ct Tryz.prog w0 81 #[.func (.yield lp) #[] #[],.pointer (some ⟨bx,0,none⟩)] H0 (fun r H2=>∃vr2:Value,∃kr2:Nat,∃out:List Pth,r= .tuple #[]∧(Lpr H2 lp r_)∧(Var 87 H2 Bs [vr2])∧(Ow kr2 9 H2 fS 1 vr2 out)∧(Nx kr H0.size kr2)∧(out.Nodup∧∀k,k∈out↔k∈mm.map (·.1))∧Mo (Ms [(lp+1),(Bs+1),kr]) H0 H2):=by
 refine Ct.enter (args:=[.func (.yield lp) #[] #[],.pointer (some ⟨bx,0,none⟩)]) Tryz.func81 rfl rfl rfl ?_;intro Q0 hret;have hm0:Mo (Ms [(lp+1),(Bs+1),kr]) H0 H0:=Mo.refl _ _;have ay:=hx.lt;have ax:=hso.lt;have az:=hD.lt;have af:=Nx.refl (lp+1) H0.size;have aA:=hl.lt;have ag:=Nx.refl (Bs+1) H0.size;have aB:=hB.lt;have aa:=Nx.refl kr H0.size;have ah:=ow.le;refine CW.sr (fun aP=>?_);refine LR.v1 (Y.load1 hx.pt rfl a'94 rfl) ?_;obtain⟨es,ck,hso⟩:=hso.raw;refine LR.z1 (Z.rangeA hso rfl u'94 rfl) ?_;rintro v5 H5 ⟨rfl,it,ar,a4,aQ⟩;have aR:H5.size=H0.size+1:=by rw[aQ];simp
 have aL:Dj (mb+1) (H0.size+1):=Dj.new hso.lt;have aM:Dj (lp+1) (H0.size+1):=Dj.new hl.lt;have aN:Dj (Bs+1) (H0.size+1):=Dj.new hB.lt;have aS:Dj kr (H0.size+1):=Dj.new ow.le;have aO:Nx 0 H0.size (H0.size+1):=Nx.new hm0.size;replace hso:=hso.nw ar;replace hl:=hl.nw ar;replace hB:=hB.nw ar;replace ow:=ow.nw ar;replace hm0:=hm0.trN ar;have a5:=ar.size;have aC:=it.lt;refine LR.nil (aP _ _ (CW.block (fun _ _ aT _=>?_)))
 refine CW.loop (fun(s_:(List Pth)×(Value)×(Nat))=>match s_ with|(dn,vr3,kr3)=>[(0,.func (.yield lp) #[] #[]),(5,.pointer (some ⟨H0.size,0,none⟩))])
  (fun(dn,vr3,kr3) (H:Heap)=>(Itr H H0.size mb Str es ck dn)∧(Lpr H lp r_)∧(Var 87 H Bs [vr3])∧(Ow kr3 9 H fS 1 vr3 dn)∧(dn.Nodup∧∀k∈dn,k∈mm.map (·.1))∧(Nx kr H5.size kr3)∧(Dj (H0.size+1) kr3)∧(Dj (lp+1) kr3)∧(Dj (Bs+1) kr3)∧Mo (Ms [(H0.size+1),(lp+1),(Bs+1),kr]) H5 H)
  (fun(dn,vr3,kr3)=>mm.length-dn.length) ([],vr,kr) ⟨rfl,rfl,trivial⟩ ?_ ?_
 ·
  exact⟨it,hl,hB,ow,⟨List.nodup_nil,by simp⟩,Nx.refl _ _,aS.symm,d_hl_ow,d_hB_ow,Mo.refl _ _⟩
 rintro⟨dn,vr3,kr3⟩ a6 aU K3 aV aW;obtain⟨it,hl,hB,ow,hdn,ai,aj,ak,al,ab⟩:=aU;have aD:Nx kr H0.size kr3:=Nx.tr (aa) ai hm0.size;replace hso:=hso.upL ab (DL.cons aL (DL.cons d_hso_hl (DL.cons d_hso_hB (DL.o d_hso_ow))));replace hm0:=hm0.trL ab (MIL.cons (MI.q aO) (MIL.cons (MI.r af) (MIL.cons (MI.r ag) (MIL.o (MI.r aa)))));have a7:=ab.size;have ah:=ow.le;have ap:=aj;have au:=ak;have av:=al;have ac:=Nx.refl (H0.size+1) H5.size;have ad:=Nx.refl (lp+1) H5.size;have ae:=Nx.refl (Bs+1) H5.size;have aw:=ai;have hdl:=nodup_le hdn.1 hdn.2;rw[List.length_map]at hdl;refine CW.sr (fun aX=>?_);refine LR.z1 (Z.nextA it hso keyStr.inj rfl rfl) ?_;rintro v6 H6 ⟨qb,x,y,dn2,rfl,it,hT6,hF6,am⟩;replace am:=am.md1;replace hso:=hso.upL am (DL.o aL);replace ow:=ow.upL am (DL.o ap.symm);replace hl:=hl.upL am (DL.o aM);replace hB:=hB.upL am (DL.o aN);replace hm0:=hm0.trL am (MIL.o (MI.q aO));replace ab:=ab.trL am (MIL.o (MI.r ac));have a8:=am.size;refine LR.v1 (Y.ext0 rfl rfl) (LR.nil (aX _ _ ?_));refine CW.s2 (fun aY aZ=>?_);refine CW.cond rfl (fun c7=>?_) (fun c7=>?_)
 ·
  obtain⟨hxy,hnd,hdq⟩:=hT6 c7;rw[hdq]at it;refine CW.skip (aY _ _ (CW.block (fun _ a0 _ _=>CW.sr (fun a1=>?_))));refine LR.v1 (Y.entryA it hso keyStr.inj hxy rfl rfl) ?_;refine LR.v1 (Y.extract rfl rfl rfl) ?_;refine LR.an ?_;refine a1 _ _ (CW.s1 (fun a2=>?_));refine CW.region_in ?_;refine LRI.v (Y.move rfl rfl) (by intro c e;cases e) (Wd.u rfl) rfl rfl ?_;refine LRI.v (Y.move rfl rfl) (by intro c e;cases e) (Wd.u rfl) rfl rfl ?_;refine LRI.round rfl rfl rfl (Wd.u rfl) rfl rfl (ap_round r_ Bs lp _ _ dn x w0 _ hr hl hB ow (d_hl_hB) (au) (av) (by omega)) (fun a9 a_ a3=>?_);have aE:=it.lt;have aF:=hl.lt;have aG:=hB.lt;obtain⟨vr12,kr12,rfl,hl,hB,ow,ao,aq⟩:=a3;have aH:Dj (H0.size+1) kr12:=Dj.app (ap) aE ao;have aI:Dj (lp+1) kr12:=Dj.app (au) aF ao;have aJ:Dj (Bs+1) kr12:=Dj.app (av) aG ao;have aK:Nx kr H5.size kr12:=Nx.tr (aw) ao ab.size;replace it:=it.upL aq (DL.cons aM.symm (DL.cons aN.symm (DL.o ap)));replace ab:=ab.trL aq (MIL.cons (MI.r ad) (MIL.cons (MI.r ae) (MIL.o (MI.r aw))));have ba:=aq.size;have ah:=ow.le;refine LRI.v (Y.not rfl rfl) (by intro c e;cases e) (Wd.u rfl) rfl rfl ?_;refine LRI.nil ?_;refine a2 _ _ ?_;refine CW.cond_f rfl ?_;refine CW.skip (a0 _ _ ?_)
  have hdn2:(dn++[x]).Nodup∧∀k∈dn++[x],k∈mm.map (·.1):=by
   refine⟨?_,fun k hk=>?_⟩
   ·rw[List.nodup_append]
    exact⟨hdn.1,by simp,fun a ha b hb e=>by simp only[List.mem_singleton]at hb;subst hb;subst e;exact hnd ha⟩
   ·rcases List.mem_append.1 hk with hk|hk
    ·exact hdn.2 k hk
    ·rw[List.mem_singleton.1 hk];exact List.mem_map.2 ⟨_,hxy,rfl⟩
  have hdl2:=nodup_le hdn2.1 hdn2.2;rw[List.length_append,List.length_map,List.length_singleton]at hdl2;refine QN.sub (aV (dn++[x],vr12,kr12) _ ?_ ?_) ⟨rfl,rfl,trivial⟩
  ·exact⟨it,hl,hB,ow,hdn2,aK,aH,aI,aJ,ab⟩
  ·simp only[List.length_append,List.length_singleton];omega
 ·
  obtain⟨hall,hdq⟩:=hF6 c7;refine CW.exit (aZ (.exit 0) nofun _ _ (aW (.exit 0) nofun _ _ (aT _ _ ?_)));refine hret .normal (.inl rfl) _ _ _ (res0 rfl) ?_;exact⟨vr3,kr3,dn,rfl,hl,hB,ow,aD,⟨hdn.1,fun k=>⟨hdn.2 k,fun h=>by obtain⟨p,hp,rfl⟩:=List.mem_map.1 h;exact hall p hp⟩⟩,hm0⟩
theorem apseqN(bx mb:Nat)(fv:Nat→Value)(mm:List (Pth×Nat))(w0:World)(H0:Heap)(hx:Var 94 H0 bx [.map (some mb)])(hso:Mp H0 Str fv mb mm)(hmm:mm.length≤1099511627776):
 Ct Tryz.prog w0 115 #[.slice none 0 0,.func (.func 81) #[] #[.pointer (some ⟨bx,0,none⟩)]] H0 (fun r H2=>∃s:SV,∃k:Nat,∃out:List Pth,r=s.v∧(Ow k 9 H2 fS 1 s.v out)∧(Nx 0 H0.size k)∧(out.Nodup∧∀k,k∈out↔k∈mm.map (·.1))∧Nw H0 H2):=by
 intro w ha;refine callsIn_wide.1 (callsIn_of_wp_marks (n:=0) Tryz.func115 rfl trivial ?_);have hf0:=Fr.start (n:=Tryz.f115.ntmps) (args:=[.slice none 0 0,.func (.func 81) #[] #[.pointer (some ⟨bx,0,none⟩)]]) (Nat.le_of_ble_eq_true rfl);refine wpIn_seq (wpIn_wide.2 ?_);refine(CW.region (w0:=w0) (H:=H0) (n:=Tryz.f115.ntmps) (l:=argL [.slice none 0 0,.func (.func 81) #[] #[.pointer (some ⟨bx,0,none⟩)]] 0) ?_) _ w hf0 ha;refine LR.z1 (Z.boxv1 rfl rfl rfl) ?_;rintro v2 H1 ⟨rfl,hB,hs1,ob1,hH1⟩;have hz1:H1.size=H0.size+1:=by rw[hH1];simp
 have hxl:=hx.lt;have hsl:=hso.lt;replace hx:=hx.nw hs1;replace hso:=hso.nw hs1;refine LR.a1 ?_;refine LR.nil (fun a1 w1 hf1 ha1=>?_);show(Code.seq _ _).wpIn Fence.wide 0 _ _ a1 w1;refine wpIn_seq (wpIn_seq (wpIn_wide.2 ?_));refine(CW.region (w0:=w0) (H:=H1) ?_) a1 w1 hf1 ha1;refine LR.m1 ?_;refine LR.nil (fun a2 w2 hf2 ha2=>?_);show(Code.block _ _).wpIn Fence.wide 0 _ _ a2 w2;refine wpIn_block (wpIn_rangeFunc (fun fn _=>?_));obtain⟨rc,hrc⟩:∃rc:Loop,rc={state:= .ready,pending:=none,fn,tmps:=a2.tmps,params:= #[7],assign:=asOf (rfOf (Tryz.f115.body.getD .skip)),body:=boOf (rfOf (Tryz.f115.body.getD .skip)),defers:=w2.heap.size}:=⟨_,rfl⟩
 have hst:(Instr.enterLoop fn a2.tmps #[7] (asOf (rfOf (Tryz.f115.body.getD .skip))) (boOf (rfOf (Tryz.f115.body.getD .skip))) none).run Tryz.prog w2= .ok (w2.heap.size+1,[{target:= .collected w2.heap.size,args:= #[]}]) ((w2.alloc (.deferred (some []))).alloc (.loop rc)):=by
  rw[hrc];exact run_enterLoop_outer fn a2.tmps #[7] _ _
 have ha3:At w0 ((H1.push (.deferred (some []))).push (.loop rc)) ((w2.alloc (.deferred (some []))).alloc (.loop rc)):=(ha2.alloc _).alloc _;obtain⟨w3,hw3⟩:∃w3,w3=(w2.alloc (.deferred (some []))).alloc (.loop rc):=⟨_,rfl⟩;rw[←hw3]at hst ha3;obtain⟨H3,hH3⟩:∃H3,H3=(H1.push (.deferred (some []))).push (.loop rc):=⟨_,rfl⟩;rw[←hH3]at ha3;have hz3:H3.size=H1.size+2:=by rw[hH3];simp
 have hw2:w2.heap.size=H1.size:=by rw[ha2.heap]
 have hs3:Nw H1 H3:=by rw[hH3];exact(Nw.pu _ _).tr (Nw.pu _ _)
 replace hx:=hx.nw hs3;replace hso:=hso.nw hs3;replace hB:=hB.nw hs3;have hD:Dfr H3 H1.size:=⟨by rw[hH3,Array.getElem?_push,if_neg (by simp)];exact Array.getElem?_push_size⟩
 have hl:Lpr H3 (H1.size+1) rc:=⟨by
  have h9:=Array.getElem?_push_size (xs:=H1.push (.deferred (some []))) (x:=Obj.loop rc);rw[Array.size_push,←hH3]at h9;exact h9⟩
 have hap:ApR rc H0.size:=by
  subst hrc;exact⟨rfl,rfl,rfl,rfl,rfl,⟨rfl,hf2.size,fun t v e=>(hf2.sub (l':=[(2,.pointer (some ⟨H0.size,0,none⟩))]) ⟨rfl,trivial⟩).get t v e⟩⟩
 have hyi:∀w,(callFunc 81 #[.func (.yield (H1.size+1)) #[] #[],.pointer (some ⟨bx,0,none⟩)]).run Tryz.prog w= .ok (.enter 81 #[.func (.yield (H1.size+1)) #[] #[],.pointer (some ⟨bx,0,none⟩)]) w:=fun w=>enters_of Tryz.func81 (by kernel_rfl) rfl _ w;refine⟨w2.heap.size+1,[{target:= .collected w2.heap.size,args:= #[]}],w3,{target:= .fn (.func 81) #[.pointer (some ⟨bx,0,none⟩)],args:= #[.func (.yield (H1.size+1)) #[] #[]]},w3,81,#[.func (.yield (H1.size+1)) #[] #[],.pointer (some ⟨bx,0,none⟩)],w3,hst,?_,fun _ _=>trivial,?_,fun h=>(by cases h),?_⟩
 ·have h6:=hf2.get 6 (.func (.func 81) #[] #[.pointer (some ⟨bx,0,none⟩)]) rfl
  rw[hw2];simp[resolve,rangeCall,Deferred.ofValue,Act.eval,h6]
 ·exact hyi _
 refine callsIn_wide.2 ((keys1N rc (H1.size+1) H0.size bx mb H1.size 0 (.slice none 0 0) fv mm w0 H3 hx hso hD hl hB (Ow.nil fS_len fS_one) hap hmm (Dj.of (by omega)) Dj.z Dj.z (Dj.of (by omega)) (Dj.of (by omega)) Dj.z (Dj.of (by omega)) (Dj.of (by omega)) Dj.z (Dj.of (by omega)) (Dj.of (by omega)) Dj.z _ ha3).mono ?_);rintro e w4 ⟨r4,H4,rfl,ha4,vr2,k2,out,rfl,hl4,hB4,ow4,hk4,hout,hm4⟩;have hD4:Dfr H4 H1.size:=hD.upL hm4 (DL.cons (Dj.of (by omega)) (DL.cons (Dj.of (by omega)) (DL.o Dj.z)));have hlw:w4.heap[w2.heap.size+1]?=some (.loop rc):=by rw[ha4.heap,hw2];exact hl4.at_
 have hrp:rc.pending=none:=hap.pe;have hend:=run_endLoop (P:=Tryz.prog) hlw (by rw[hap.st];simp);rw[hrp]at hend;refine⟨none,_,hend,?_⟩;have hs5:Mo (fun c=>c=H1.size+1) H4 (H4.setIfInBounds (H1.size+1) (.loop {rc with state:= .exhausted})):=mo_set _
 have ha5:At w0 (H4.setIfInBounds (H1.size+1) (.loop {rc with state:= .exhausted})) (w4.putObj (w2.heap.size+1) (.loop {rc with state:= .exhausted})):=by
  unfold World.putObj;rw[ha4.heap,hw2];exact ha4.set
 rw[hrp]at hs5 ha5;obtain⟨w5,hw5⟩:∃w5,w5=w4.putObj (w2.heap.size+1) (.loop {rc with state:= .exhausted,pending:=none}):=⟨_,rfl⟩;obtain⟨H5,hH5⟩:∃H5,H5=H4.setIfInBounds (H1.size+1) (.loop {rc with state:= .exhausted,pending:=none}):=⟨_,rfl⟩;rw[←hw5]at ha5;rw[←hH5]at hs5 ha5;rw[←hw5];have hz4:=hm4.size;have hz5:=hs5.size;have hs5':=hs5.md1;have dk:∀c,c+1≤H3.size→Dj k2 (c+1):=fun c hc q h1 h2=>by unfold Nx at hk4;omega
 replace hB4:=hB4.upL hs5' (DL.cons (Dj.of (by omega)) DL.nil);replace ow4:=ow4.upL hs5' (DL.cons (dk _ (by omega)) DL.nil);replace hD4:=hD4.upL hs5' (DL.cons (Dj.of (by omega)) DL.nil)
 have hm0:Mo (Ms []) H0 H5:=by
  have q0:=((Mo.refl (S:=Ms []) H0).trN hs1).trN hs3;have q1:=q0.trL hm4 (MIL.cons (MI.new (by omega)) (MIL.cons (MI.new (Nat.le_refl _)) (MIL.cons MI.z MIL.nil)));exact q1.trL hs5' (MIL.cons (MI.new (by omega)) MIL.nil)
 show(Code.seq _ _).wpIn Fence.wide 0 _ _ _ w5;refine wpIn_seq (wpIn_region_lit ?_);refine LRD.v (w0:=w0) (H:=H5) (Y.load1 hB4.pt rfl a'87 rfl) (by intro c e;cases e) (Wd.u rfl) rfl rfl ?_ a2 w5 hf2 ha5;refine LRD.v (w0:=w0) (H:=H5) (Y.assign rfl rfl) (by intro c e;cases e) (Wd.u rfl) rfl rfl ?_;intro a6 w6 hf6 ha6;show Code.ret.wpIn Fence.wide 0 _ _ _ w6;refine wpIn_ret ?_;show LeavesInM Fence.wide 0 _ _ a6.tmps _ ([{target:= .collected w2.heap.size,args:= #[]}]++a2.defers) .returning w6;rw[hf2.defers,List.append_nil];have hDw:w6.heap[w2.heap.size]?=some (.deferred (some [])):=by rw[ha6.heap,hw2];exact hD4.at_
 refine⟨by simp,.inl ⟨_,_,rfl,run_takeDeferred (P:=Tryz.prog) hDw,?_⟩⟩;have hs7:Mo (fun c=>c=H1.size) H5 (H5.setIfInBounds H1.size (.deferred none)):=mo_set _
 have ha7:At w0 (H5.setIfInBounds H1.size (.deferred none)) (w6.putObj w2.heap.size (.deferred none)):=by
  unfold World.putObj;rw[ha6.heap,hw2];exact ha6.set
 have hs7':=hs7.md1;obtain⟨s,hs⟩:∃s:SV,vr2=s.v:=⟨toSV vr2,ow4.sv.symm⟩;refine⟨vr2,res1 rfl rfl _ _ hf6 ha7,vr2,_,rfl,ha7,s,k2,out,hs,?_,?_,hout,?_⟩
 ·rw[←hs];exact ow4.upL hs7' (DL.cons (dk _ (by omega)) DL.nil)
 ·unfold Nx at hk4⊢;omega
 ·exact(hm0.trL hs7' (MIL.cons (MI.new (by omega)) MIL.nil)).nil
theorem collectN(bx mb:Nat)(fv:Nat→Value)(mm:List (Pth×Nat))(w0:World)(H0:Heap)
 (hx:Var 94 H0 bx [.map (some mb)]) (hso:Mp H0 Str fv mb mm) (hmm:mm.length≤1099511627776):
 Ct Tryz.prog w0 77 #[.func (.func 81) #[] #[.pointer (some ⟨bx,0,none⟩)]] H0 (fun r H2=>∃s:SV,∃k:Nat,∃out:List Pth,r=s.v∧(Ow k 9 H2 fS 1 s.v out)∧(Nx 0 H0.size k)∧(out.Nodup∧∀k,k∈out↔k∈mm.map (·.1))∧Nw H0 H2):=by
 refine Ct.enter (args:=[.func (.func 81) #[] #[.pointer (some ⟨bx,0,none⟩)]]) Tryz.func77 rfl rfl rfl ?_;intro Q0 hret;have hm0:Nw H0 H0:=Mo.refl _ _;refine CW.sr (fun aa=>?_);refine LR.an ?_;refine aa _ _ (CW.sr (fun ab=>?_));refine LR.m1 ?_;refine LR.call rfl c'115 rfl (Wd.u rfl) rfl rfl (apseqN bx mb fv mm w0 _ hx hso hmm) ?_;rintro v4 H4 ⟨s4,k4,out4,rfl,ac,ad,hout4,ae⟩;have af:Nx 0 H0.size k4:=Nx.tr (Nx.refl 0 _) ad hm0.size;replace hm0:=hm0.tr ae;refine LR.an ?_;refine ab _ _ ?_;refine CW.ret (hret .ret (.inr rfl) _ _ _ (res1 rfl rfl) ?_);exact⟨s4,k4,out4,rfl,ac,af,hout4,hm0⟩
theorem keysN(mb:Nat)(w0:World)(H0:Heap)
 :
 Ct Tryz.prog w0 42 #[.map (some mb)] H0 (fun r H2=>∃bx:Nat,r= .func (.func 81) #[] #[.pointer (some ⟨bx,0,none⟩)]∧(Var 94 H2 bx [.map (some mb)])∧(Nx 0 H0.size (bx+1))∧Nw H0 H2):=by
 refine Ct.enter (args:=[.map (some mb)]) Tryz.func42 rfl rfl rfl ?_;intro Q0 hret;have hm0:Nw H0 H0:=Mo.refl _ _;refine CW.sr (fun aa=>?_);refine LR.z1 (Z.boxv1 rfl rfl (rfl)) ?_;rintro v1 H1 ⟨rfl,hx,ab,ad,ae⟩;replace hm0:=hm0.tr ab;replace hx:Var 94 H1 H0.size ([.map (some mb)]):=hx;refine LR.an ?_;refine aa _ _ (CW.sr (fun ac=>?_));refine LR.v1 (Y.makeFunc rfl rfl) ?_;refine LR.an ?_;refine ac _ _ ?_;refine CW.ret (hret .ret (.inr rfl) _ _ _ (res1 rfl rfl) ?_);exact⟨_,rfl,hx,Nx.new (Nat.le_refl _),hm0⟩
theorem sortedN(bx mb:Nat)(fv:Nat→Value)(mm:List (Pth×Nat))(w0:World)(H0:Heap)
 (hx:Var 94 H0 bx [.map (some mb)]) (hso:Mp H0 Str fv mb mm) (hmm:mm.length≤1099511627776):
 Ct Tryz.prog w0 36 #[.func (.func 81) #[] #[.pointer (some ⟨bx,0,none⟩)]] H0 (fun r H2=>∃s:SV,∃k:Nat,∃out:List Pth,r=s.v∧(Ow k 9 H2 fS 1 s.v out)∧(Nx 0 H0.size k)∧(Rise out∧∀k,k∈out↔k∈mm.map (·.1))∧Nw H0 H2):=by
 refine Ct.enter (args:=[.func (.func 81) #[] #[.pointer (some ⟨bx,0,none⟩)]]) Tryz.func36 rfl rfl rfl ?_;intro Q0 hret;have hm0:Nw H0 H0:=Mo.refl _ _;have ab:=hx.lt;have aa:=hso.lt;refine CW.sr (fun af=>?_);refine LR.an ?_;refine af _ _ (CW.sr (fun ag=>?_));refine LR.m1 ?_;refine LR.call rfl c'77 rfl (Wd.u rfl) rfl rfl (collectN bx mb fv mm w0 _ hx hso hmm) ?_;rintro v5 H5 ⟨s5,k5,out5,rfl,ow,ah,hout5,ad⟩;have ae:Nx 0 H0.size k5:=Nx.tr (Nx.refl 0 _) ah hm0.size;replace hm0:=hm0.tr ad;have ao:=ad.size;have ac:=ow.le;have hol:=nodup_le hout5.1 (fun k hk=>(hout5.2 k).1 hk);rw[List.length_map]at hol;refine LR.an ?_;refine ag _ _ (CW.sr (fun ai=>?_));refine LR.m1 ?_;refine LR.call rfl c'78 rfl (Wd.u rfl) rfl rfl (sortS_ct k5 _ out5 w0 _ ow (by omega)) ?_;rintro v7 H7 ⟨l2,k2,rfl,ow,aj,hp7,ak⟩;have al:Nx 0 H0.size k2:=Nx.tr (ae) aj hm0.size;replace hm0:=hm0.tq ak (MIL.o (MI.q ae));refine LR.nil (ai _ _ (CW.sr (fun am=>?_)));refine LR.m1 ?_;refine LR.an ?_;refine am _ _ ?_;refine CW.ret (hret .ret (.inr rfl) _ _ _ (res1 rfl rfl) ?_);obtain⟨hp1,hp2⟩:=sorted_rise hout5.1 hp7;exact⟨s5,k2,l2,rfl,ow,al,⟨hp1,fun k=>by rw[hp2.mem_iff,hout5.2]⟩,hm0⟩
end SimK

namespace SimL
open E Go.RowKit SimA SimB SimC SimD SimE SimF SimG SimH SimI SimJ SimK
theorem dirE_cases{p:Pth}(h:¬(p≠[]∧nameB p=false)):dirE p=0:=by unfold dirE;rw[if_neg h]
theorem pick_eq(x:Int){m:Nat}(hm:0<m):(x.tmod m+m).tmod m=x%m:=by
 have h0:(0:Int)<m:=by omega
 have h1:=Int.lt_tmod_of_pos x h0;rw[Int.tmod_eq_emod_of_nonneg (by omega),Int.add_emod_right,Int.tmod_def,Int.sub_mul_emod_self_left]
theorem pickN_lt(picks:List Int)(n:Nat){m:Nat}(hm:0<m):pickN picks n m<m:=by
 unfold pickN;split
 ·have h1:=Int.emod_nonneg (picks.getD n 0) (show(m:Int)≠0 by omega)
  have h2:=Int.emod_lt_of_pos (picks.getD n 0) (show(0:Int)<m by omega);omega
 ·exact hm
theorem pickN_at{picks:List Int}{n m:Nat}(hn:n<picks.length)(hm:0<m):((pickN picks n m:Nat):Int)=(picks[n].tmod m+m).tmod m:=by
 have h1:=Int.emod_nonneg picks[n] (show(m:Int)≠0 by omega);unfold pickN;rw[if_pos hn,pick_eq _ hm,List.getD_eq_getElem?_getD,List.getElem?_eq_getElem hn,Option.getD_some,Int.toNat_of_nonneg h1]
theorem pickN_over{picks:List Int}{n m:Nat}(hn:¬n<picks.length):pickN picks n m=0:=by unfold pickN;rw[if_neg hn]
theorem next_ct(G:Nat→Prop)(pb n:Nat)(pv:SV)(picks:List Int)(m:Nat)(w0:World)(H0:Heap)
 (hp:Var 86 H0 pb [pv.v,.int .i64 (n:Int)]) (hpk:Rd G H0 fI 1 pv.v picks) (bf_hpk:BF G H0.size) (dpk:DF G (pb+1)) (hm:0<m∧m≤4611686018427387904) (hn:n≤1099511627776) (hpw:∀x∈picks,-9223372036854775808≤x∧x≤9223372036854775807):
 Ct Tryz.prog w0 38 #[ptr pb,.int .i64 (m:Int)] H0 (fun r H2=>r= .int .i64 ((pickN picks n m:Nat):Int)∧(Var 86 H2 pb [pv.v,.int .i64 ((n+1:Nat):Int)])∧Mo (Ms [(pb+1)]) H0 H2):=by
 refine Ct.enter (args:=[ptr pb,.int .i64 (m:Int)]) Tryz.func38 rfl rfl rfl ?_;intro Q0 hret;have hm0:Mo (Ms [(pb+1)]) H0 H0:=Mo.refl _ _;have ab:=Nx.refl (pb+1) H0.size;have ah:=hp.lt;refine CW.sr (fun al=>?_);refine LR.an ?_;refine al _ _ (CW.sr (fun am=>?_));refine LR.an ?_;refine am _ _ ?_
 refine CW.cut (fun(_:Unit)=>[(0,ptr pb),(5,.int .i64 ((pickN picks n m:Nat):Int))])
  (fun(_:Unit) (H:Heap)=>(True)∧Nw H0 H) (fun _ ak _=>?_) ?_
 ·
  have af:Nw H0 H0:=Mo.refl _ _;refine CW.s1 (fun ao=>?_);refine CW.region_draw rfl (by kernel_rfl) ?_;refine LR.m1 ?_;refine LR.n1 ?_;refine LR.v1 (Y.FA hp.pt rfl u'86 rfl s'3) ?_;refine LR.v1 (Y.load1 (hp.pt.drop 1) rfl a'3 rfl) ?_;refine LR.m1 ?_;refine LR.n1 ?_;refine LR.v1 (Y.FA hp.pt rfl u'86 rfl s'39) ?_;refine LR.v1 (Y.load1 hp.pt rfl a'39 rfl) ?_;refine LR.v1 (Y.len hpk rfl u'39 rfl) ?_;refine LR.v1 (Y.lss rfl rfl rfl) (LR.nil (ao _ _ ?_));refine CW.condp rfl (fun ap=>?_) (fun ap=>?_)
  ·
   have hnl:n<picks.length:=by omega
   have hxb:=hpw picks[n] (List.getElem_mem hnl);have aw:=Int.lt_tmod_of_pos picks[n] (show(0:Int)<m by omega);have ax:=Int.tmod_lt_of_pos picks[n] (show(0:Int)<m by omega);have hpa:=pickN_at (picks:=picks) hnl hm.1;refine CW.region_draw rfl (by kernel_rfl) ?_;refine LR.m1 ?_;refine LR.n1 ?_;refine LR.v1 (Y.FA hp.pt rfl u'86 rfl s'39) ?_;refine LR.v1 (Y.load1 hp.pt rfl a'39 rfl) ?_;refine LR.m1 ?_;refine LR.n1 ?_;refine LR.v1 (Y.FA hp.pt rfl u'86 rfl s'3) ?_;refine LR.v1 (Y.load1 (hp.pt.drop 1) rfl a'3 rfl) ?_;refine LR.e1 (g:=fun ad=> .pointer (some ad)) (Y.iF hpk (n) rfl u'39 s'3 rfl rfl) fun aq ai=>?_;refine LR.v1 (Y.load1 ai.pt rfl a'3 rfl) ?_;refine LR.m1 ?_;refine LR.v1 (Y.rem rfl rfl rfl (by omega)) ?_;refine LR.m1 ?_;refine LR.v1 (Y.addi rfl rfl rfl (by omega)) ?_;refine LR.m1 ?_;refine LR.v1 (Y.cast (v2:= .int .i64 ((pickN picks n m:Nat):Int)) (Y.rem rfl rfl rfl (by omega)) (by rw[hpa])) ?_;refine LR.an ?_;refine QN.sub (ak () _ ?_) ⟨rfl,(iv (by omega)),trivial⟩;exact⟨trivial,af⟩
  ·
   refine CW.skip ?_;have hpo:=pickN_over (m:=m) (show ¬n<picks.length by omega);refine QN.sub (ak () _ ?_) ⟨rfl,(iv (by omega)),trivial⟩;exact⟨trivial,af⟩
 ·
  intro _ ag ac;obtain⟨htr,aa⟩:=ac;replace hp:=hp.nw aa;replace hm0:=hm0.trN aa;have ay:=aa.size;refine CW.sr (fun ar=>?_);refine LR.m1 ?_;refine LR.n1 ?_;refine LR.v1 (Y.FA hp.pt rfl u'86 rfl s'3) ?_;refine LR.v1 (Y.load1 (hp.pt.drop 1) rfl a'3 rfl) ?_;refine LR.v1 (Y.cast (v2:= .int .i64 ((n+1:Nat):Int)) (Y.addi rfl rfl rfl (by omega)) (ivv (by omega))) ?_;refine LR.n1 ?_;refine LR.v1 (Y.FA hp.pt rfl u'86 rfl s'3) ?_;refine LR.s1 (S.var1 hp 1 (_) rfl rfl rfl (rfl) s'3 (by simp) (rfl)) fun au aj=>?_;obtain⟨hp,ae⟩:=aj;replace ae:=ae.md1;replace hm0:=hm0.trL ae (MIL.o (MI.r ab));refine LR.nil (ar _ _ (CW.sr (fun av=>?_)));refine LR.m1 ?_;refine LR.an ?_;refine av _ _ ?_;refine CW.ret (hret .ret (.inr rfl) _ _ _ (res1 rfl rfl) ?_);exact⟨rfl,hp,hm0⟩
theorem copy_ct(fv:Nat→Value)(db sb:Nat)(m nm:Nms)(w0:World)(H0:Heap)
 (hd:Mp H0 Str fv db m) (hs:Mp H0 Str fv sb nm) (dds:Dj (sb+1) (db+1)):
 Ct Tryz.prog w0 41 #[.map (some db),.map (some sb)] H0 (fun r H2=>∃m2:Nms,r= .tuple #[]∧(Mp H2 Str fv db m2)∧(∀q,mget m2 q=match mget nm q with|some i=>some i|none=>mget m q)∧Mo (Ms [(db+1)]) H0 H2):=by
 refine Ct.enter (args:=[.map (some db),.map (some sb)]) Tryz.func41 rfl rfl rfl ?_;intro Q0 hret;have hm0:Mo (Ms [(db+1)]) H0 H0:=Mo.refl _ _;have ae:=Nx.refl (db+1) H0.size;have ah:=hd.lt;have ai:=hs.lt;refine CW.sr (fun ap=>?_);refine LR.m1 ?_;obtain⟨es,ck,hs⟩:=hs.raw;refine LR.z1 (Z.rangeA hs rfl u'94 rfl) ?_;rintro v7 H7 ⟨rfl,it,ag,aE,aq⟩;have ar:H7.size=H0.size+1:=by rw[aq];simp
 have al:Dj (db+1) (H0.size+1):=Dj.new hd.lt;have am:Dj (sb+1) (H0.size+1):=Dj.new hs.lt;have ao:Nx 0 H0.size (H0.size+1):=Nx.new hm0.size;replace hd:=hd.nw ag;replace hs:=hs.nw ag;replace hm0:=hm0.trN ag;have aF:=ag.size;have aj:=it.lt;refine LR.nil (ap _ _ (CW.block (fun _ _ au _=>?_)))
 refine CW.loop (fun(s_:(List Pth)×(Nms))=>match s_ with|(dn,mq)=>[(0,.map (some db)),(7,.pointer (some ⟨H0.size,0,none⟩))])
  (fun(dn,mq) (H:Heap)=>(Itr H H0.size sb Str es ck dn)∧(Mp H Str fv db mq)∧(dn.Nodup∧∀k∈dn,k∈nm.map (·.1))∧(∀q,mget mq q=if q∈dn then mget nm q else mget m q)∧Mo (Ms [(H0.size+1),(db+1)]) H7 H)
  (fun(dn,mq)=>nm.length-dn.length) ([],m) ⟨rfl,rfl,trivial⟩ ?_ ?_
 ·
  exact⟨it,hd,⟨List.nodup_nil,by simp⟩,fun q=>by simp,Mo.refl _ _⟩
 rintro⟨dn,mq⟩ aG av K3 aw ax;obtain⟨it,hd,hdn,hmq,ab⟩:=av;replace hs:=hs.upL ab (DL.cons am (DL.o dds));replace hm0:=hm0.trL ab (MIL.cons (MI.q ao) (MIL.o (MI.r ae)));have aH:=ab.size;have ac:=Nx.refl (H0.size+1) H7.size;have ad:=Nx.refl (db+1) H7.size;have hdl:=nodup_le hdn.1 hdn.2;rw[List.length_map]at hdl;refine CW.sr (fun ay=>?_);refine LR.z1 (Z.nextA it hs keyStr.inj rfl rfl) ?_;rintro v8 H8 ⟨qb,x,y,dn1,rfl,it,hT8,hF8,af⟩;replace af:=af.md1;replace hd:=hd.upL af (DL.o al);replace hs:=hs.upL af (DL.o am);replace hm0:=hm0.trL af (MIL.o (MI.q ao));replace ab:=ab.trL af (MIL.o (MI.r ac));have aI:=af.size;refine LR.v1 (Y.ext0 rfl rfl) (LR.nil (ay _ _ ?_));refine CW.s2 (fun az aA=>?_);refine CW.cond rfl (fun c9=>?_) (fun c9=>?_)
 ·
  obtain⟨hxy,hnd,hdq⟩:=hT8 c9;rw[hdq]at it;refine CW.skip (az _ _ (CW.block (fun _ aB _ _=>CW.sr (fun aC=>?_))));refine LR.v1 (Y.entryA it hs keyStr.inj hxy rfl rfl) ?_;refine LR.v1 (Y.extract rfl rfl rfl) ?_;refine LR.v1 (Y.extract rfl rfl rfl) ?_;refine LR.a1 ?_;refine LR.an ?_;refine aC _ _ (CW.region ?_);refine LR.m1 ?_;refine LR.m1 ?_;refine LR.m1 ?_;refine LR.s1 (S.putMp (y) hd keyStr rfl u'94 Tryz.underlying9 rfl rfl rfl) fun aD ak=>?_;obtain⟨hd,aa⟩:=ak;replace aa:=aa.md1;replace hs:=hs.upL aa (DL.o dds);replace it:=it.upL aa (DL.o al.symm);replace ab:=ab.trL aa (MIL.o (MI.r ad));have aJ:=aa.size;refine LR.nil (aB _ _ ?_)
  have hdn2:(dn++[x]).Nodup∧∀k∈dn++[x],k∈nm.map (·.1):=by
   refine⟨?_,fun k hk=>?_⟩
   ·rw[List.nodup_append]
    exact⟨hdn.1,by simp,fun a ha b hb e=>by simp only[List.mem_singleton]at hb;subst hb;subst e;exact hnd ha⟩
   ·rcases List.mem_append.1 hk with h|h
    ·exact hdn.2 k h
    ·rw[List.mem_singleton.1 h];exact List.mem_map.2 ⟨_,hxy,rfl⟩
  have hdl2:=nodup_le hdn2.1 hdn2.2;rw[List.length_append,List.length_singleton,List.length_map]at hdl2;have hgx:=mget_of_mem hs.mo.nodup hxy;refine QN.sub (aw (dn++[x],mput mq x y) _ ?_ ?_) ⟨rfl,rfl,trivial⟩
  ·exact⟨it,hd,hdn2,fun q=>by
    rw[mget_put,hmq];by_cases h:q=x
    ·subst h;simp[hgx]
    ·simp[h],ab⟩
  ·simp only[List.length_append,List.length_singleton];omega
 ·
  obtain⟨hall,_⟩:=hF8 c9;refine CW.exit (aA (.exit 0) nofun _ _ (ax (.exit 0) nofun _ _ (au _ _ ?_)));refine hret .normal (.inl rfl) _ _ _ (res0 rfl) ?_
  exact⟨mq,rfl,hd,fun q=>by
   rw[hmq]
   cases hq:mget nm q with
   |some i=>rw[if_pos (hall (q,i) (mget_mem hq))]
   |none=>
    by_cases h:q∈dn
    ·have h9:=hdn.2 q h
     rw[←isSome_iff_key,hq]at h9;cases h9
    ·rw[if_neg h],hm0⟩
end SimL

namespace SimM
open E Go.RowKit SimA SimB SimC SimD SimE SimF SimG SimH SimI SimJ SimK SimL
theorem ways_sum(l:List Wx):waysF (l.map (·.1))=1+(l.map (fun y=>y.1.ways)).sum:=by unfold waysF;rw[List.map_map];rfl
theorem ways_take{l:List Wx}{i:Nat}(h:i<l.length):((l.take (i+1)).map (fun y=>y.1.ways)).sum=((l.take i).map (fun y=>y.1.ways)).sum+l[i].1.ways:=by
 rw[List.take_succ_eq_append_getElem h,List.map_append,List.sum_append];simp
theorem ways_le(l:List Wx)(i:Nat):((l.take i).map (fun y=>y.1.ways)).sum≤(l.map (fun y=>y.1.ways)).sum:=by
 have e:l.map (fun y=>y.1.ways)=(l.take i).map (fun y=>y.1.ways)++(l.drop i).map (fun y=>y.1.ways):=by rw[←List.map_append,List.take_append_drop]
 rw[e,List.sum_append];omega
theorem onAll_take{ws:List Wr}{b:List UInt8}{i:Nat}(h:i<ws.length):onAll (ws.take (i+1)) b=ws[i].on (onAll (ws.take i) b) ws[i].d.length:=by
 unfold onAll;rw[List.take_succ_eq_append_getElem h,List.foldl_append];rfl
theorem wayW_drop{ws:List Wr}{b:List UInt8}{i k:Nat}(h:i<ws.length):wayW (ws.drop i) b k=if k=0 then b else if k≤ws[i].ways then ws[i].part b (k-1)else wayW (ws.drop (i+1)) (ws[i].on b ws[i].d.length) (k-ws[i].ways):=by
 rw[List.drop_eq_getElem_cons h];rfl
theorem wayW_0(ws:List Wr)(b:List UInt8):wayW ws b 0=b:=by cases ws<;>simp[wayW]
theorem splice_all2{cs vs:List Value}(h:cs.length=vs.length):splice cs 0 vs=vs:=by simp[splice,h]
theorem kfrz{K:List Nat}{g:Gh}{H:Heap}{b:Nat}{D:Dk}{kb n:Nat}(h:PDk K g H b D)(hb:∀c,c+1=kb→g.ρ c= .frz∨n≤c):kb=0∨kb∈K∨n<kb:=by
 rcases Nat.eq_zero_or_pos kb with e|e
 ·exact .inl e
 ·rcases hb (kb-1) (by omega)with h2|h2
  ·have:=h.mem h2 (by simp)
   rw[show kb-1+1=kb by omega]at this;exact .inr (.inl this)
  ·exact .inr (.inr (by omega))
theorem lose_ct(K:List Nat)(g:Gh)(b:Nat)(D:Dk)(G:Nat→Prop)(pb n:Nat)(pv:SV)(picks:List Int)(i:Nat)(w0:World)(H0:Heap)
 (hf:PDk K g H0 b D) (hp:Var 86 H0 pb [pv.v,.int .i64 (n:Int)]) (hpk:Rd G H0 fI 1 pv.v picks) (bf_hpk:BF G H0.size) (dpk:DF G (pb+1)) (dhp:DL (pb+1) K) (dpkK:DFL G K) (hi:i<D.fs.length) (hwl:(fget D.fs i).w.length≤549755813888) (hwd:∀y∈(fget D.fs i).w,y.d.length≤549755813888) (hpf:∀j,(onAll ((fget D.fs i).w.take j) (fget D.fs i).stays).length≤549755813888) (hwy:waysF (fget D.fs i).w≤2305843009213693952) (hn:n≤1099511627776) (hpw:∀x∈picks,-9223372036854775808≤x∧x≤9223372036854775807):
 Ct Tryz.prog w0 43 #[fvl g.fb i,ptr pb] H0 (fun r H2=>∃K2:List Nat,∃g2:Gh,r= .tuple #[]∧(PDk K2 g2 H2 b (D.putF i ⟨wayW (fget D.fs i).w (fget D.fs i).stays (pickN picks n (waysF (fget D.fs i).w)),wayW (fget D.fs i).w (fget D.fs i).stays (pickN picks n (waysF (fget D.fs i).w)),[]⟩))∧(NxK K H0.size K2)∧(Var 86 H2 pb [pv.v,.int .i64 ((n+1:Nat):Int)])∧(g2.fb=g.fb∧g2.dm=g.dm∧g2.mb=g.mb)∧Mo (Ms (K++[(pb+1)])) H0 H2):=by
 refine Ct.enter (args:=[fvl g.fb i,ptr pb]) Tryz.func43 rfl rfl rfl ?_;intro Q0 hret;have hm0:Mo (Ms (K++[(pb+1)])) H0 H0:=Mo.refl _ _;have ai:=NxK.refl K H0.size;have a0:=hf.bk;have am:=Nx.refl (pb+1) H0.size;have a1:=hp.lt;have hlt0:∀c,g.ρ c≠ .out→c<H0.size:=hf.lt;obtain⟨nv,sv,wv,kw,lw,hfi⟩:=hf.fil i hi;have hlw:=hfi.lw;have hlwl:lw.length=(fget D.fs i).w.length:=by rw[←hlw,List.length_map]
 have hwys:=ways_sum lw;rw[hlw]at hwys;obtain⟨kq,hq,hqF⟩:=rd_q hfi.hs;refine CW.sr (fun bJ=>?_);refine LR.an ?_;refine bJ _ _ (CW.seq (fun K2 bK _=>CW.sr (fun bL=>?_)));have hdR:=hfi.hd;have ar:BF (fun c=>g.ρ c= .frz) H0.size:=fun c e=>hf.lt c (by rw[e];simp);have hvf:=hfi.vf;have aY:=hvf.lt;have hw:=hfi.hw;have a2:=hw.le;have hb:=hq;have au:=hb.le;have bM:Dj (pb+1) (g.fb.getD i 0+1):=DL.at dhp (hf.km1 hfi.rf (by simp));have bN:Dj (pb+1) kw:=DL.at dhp (hf.km hfi.rk (by simp));have bO:Dj (pb+1) kq:=DL.at dhp (hf.km hqF (by simp));have bP:=(fun c e he=>dhp (c+1) (hf.mem e (by simp)) pb rfl he.symm:DF (fun c=>g.ρ c= .frz) (pb+1));refine LR.m1 ?_;refine LR.n1 ?_;refine LR.v1 (Y.FA hvf.pt rfl u'112 rfl s'110) ?_;refine LR.v1 (Y.load1 (hvf.pt.drop 2) rfl a'110 rfl) ?_;refine LR.v1 (Y.len hw.rd rfl u'110 rfl) ?_;refine LR.m1 (LR.nil (bL _ _ ?_));refine CW.block (fun _ _ bQ _=>?_)
 refine CW.loop (fun(i1:(Nat))=>[(0,fvl g.fb i),(1,ptr pb),(4,.int .i64 ((1+((lw.take i1).map (fun y=>y.1.ways)).sum:Nat):Int)),(14,wv.v),(15,.int .i64 lw.length),(16,.int .i64 (i1:Int))])
  (fun(i1:(Nat)) (H:Heap)=>(i1≤lw.length)∧Nw H0 H)
  (fun(i1:(Nat))=>lw.length-i1) 0 ⟨rfl,rfl,rfl,rfl,rfl,rfl,trivial⟩ ?_ ?_
 ·
  exact⟨(by omega),Mo.refl _ _⟩
 intro i1 a3 bR K5 bS bT;obtain⟨hi1,ad⟩:=bR;replace hf:=hf.nw ad;replace hp:=hp.nw ad;replace hpk:=hpk.nw ad;replace hdR:=fun y hy=>(hdR y hy).nw ad;replace hvf:=hvf.nw ad;replace hw:=hw.nw ad;replace hb:=hb.nw ad;replace hm0:=hm0.trN ad;have cp:=ad.size;refine CW.sr (fun bU=>?_);refine LR.v1 (Y.lss rfl rfl rfl) (LR.nil (bU _ _ ?_));refine CW.s2 (fun bV bW=>?_);refine CW.condp rfl (fun bX=>?_) (fun bX=>?_)
 ·
  have hil:i1<lw.length:=by omega
  have hwt:=ways_take hil;have hwt2:=ways_le lw (i1+1);have hdl1:=hwd lw[i1].1 (by rw[←hlw];exact List.mem_map.2 ⟨_,List.getElem_mem hil,rfl⟩);refine CW.skip (bV _ _ (CW.s1 (fun bY=>CW.block (fun _ bZ _ _=>CW.sr (fun a4=>?_)))));refine LR.v1 (Y.owAddr hw (i1) rfl u'110 s'149 rfl rfl (by first|rfl|omega) (by first|omega|(simp;omega)|(simp;done))) ?_;refine LR.v1 (Y.loadN (hw.pt (j:=i1) (by first|omega|(simp;omega)|(simp;done))) rfl a'149 s'149 (fW_len _) rfl) ?_;refine LR.z1 (Z.allocv rfl z'149) ?_;rintro v6 H6 ⟨rfl,v6,a5,cq,b0⟩;have b1:H6.size=a3.size+1:=by rw[b0];simp
  have b2:=(DF.new (ar.mono (by omega)):DF _ (a3.size+1));have a6:Nx 0 H0.size (a3.size+1):=Nx.new ad.size;replace hdR:=fun y hy=>(hdR y hy).nw a5;replace ad:=ad.tr a5;have cr:=a5.size;refine LR.s1 (S.var v6 (_) (fW lw[i1]) rfl rfl rfl rfl (fW_one lw[i1]) s'149 (fW_len _) (by decide) ((splice_all2 (fW_len _).symm))) fun b3 a7=>?_;obtain⟨v6,aj⟩:=a7;replace aj:=aj.md1;replace hdR:=fun y hy=>(hdR y hy).upL aj (DFL.o b2);replace ad:=ad.tq aj (MIL.o (MI.q a6));have cs:=aj.size;refine LR.nil (a4 _ _ (CW.region ?_));refine LR.m1 ?_;refine LR.v1 (Y.loadN v6.pt rfl a'149 s'149 (fW_len _) rfl) ?_;refine LR.call rfl c'82 rfl (Wd.u rfl) rfl rfl (ways_ct lw[i1] w0 _ (hdR lw[i1] (List.getElem_mem hil)).any (by omega)) (fun ct cu b4=>?_);obtain⟨rfl,az⟩:=b4;replace hdR:=fun y hy=>(hdR y hy).nw az;replace ad:=ad.tr az;have cv:=az.size;refine LR.v1 (Y.cast (v2:= .int .i64 ((1+((lw.take (i1+1)).map (fun y=>y.1.ways)).sum:Nat):Int)) (Y.addi rfl rfl rfl (by omega)) (ivv (by omega))) ?_;refine LR.an ?_;refine bZ _ _ (bY _ _ (CW.region ?_));refine LR.v1 (Y.addi rfl rfl rfl (by omega)) ?_;refine LR.m1 (LR.nil ?_);refine QN.sub (bS (i1+1) _ ?_ ?_) ⟨rfl,rfl,(iv (by omega)),rfl,(iv (by omega)),(iv (by omega)),trivial⟩
  ·exact⟨(by omega),ad⟩
  ·first|omega|(simp only;omega)|(simp;omega)
 ·
  obtain rfl:i1=lw.length:=by omega
  refine CW.exit (bW (.exit 0) nofun _ _ (bT (.exit 0) nofun _ _ (bQ _ _ ?_)));refine bK _ _ (CW.sr (fun a8=>?_));refine LR.m1 ?_;refine LR.v1 (Y.cast (v2:= .int .i64 ((waysF (fget D.fs i).w:Nat):Int)) (Y.move rfl rfl) (by rw[hwys,List.take_length])) ?_;refine LR.call rfl c'38 rfl (Wd.u rfl) rfl rfl (next_ct G pb n pv picks (waysF (fget D.fs i).w) w0 _ hp hpk (bf_hpk.mono (by omega)) dpk (by omega) (by omega) hpw) (fun cw aq b5=>?_);obtain⟨rfl,hp,al⟩:=b5;replace hf:=hf.upL al (DKL.cons dhp DKL.nil);replace hdR:=fun y hy=>(hdR y hy).upL al (DFL.o bP);replace hvf:=hvf.upL al (DL.o bM.symm);replace hw:=hw.upL al (DL.o bN.symm);replace hb:=hb.upL al (DL.o bO.symm);replace hm0:=hm0.trL al (MIL.o (MI.r am));have cx:=al.size;obtain⟨k0,a9⟩:∃k0,k0=pickN picks n (waysF (fget D.fs i).w):=⟨_,rfl⟩;have a_:=pickN_lt picks n (m:=waysF (fget D.fs i).w) (by omega);rw[←a9]at a_;obtain⟨T,hT⟩:∃T,T=wayW (fget D.fs i).w (fget D.fs i).stays k0:=⟨_,rfl⟩;refine LR.an ?_;refine a8 _ _ (CW.sr (fun ba=>?_));refine LR.m1 ?_;refine LR.n1 ?_;refine LR.v1 (Y.FA hvf.pt rfl u'112 rfl s'109) ?_;refine LR.v1 (Y.FA hvf.pt rfl u'109 rfl s'34) ?_;refine LR.v1 (Y.load1 (hvf.pt.drop 1) rfl a'34 rfl) ?_;refine LR.an ?_;refine ba _ _ ?_
  refine CW.cut (fun(s_:(SV)×(Nat))=>match s_ with|(s9,k9)=>[(0,fvl g.fb i),(8,s9.v)])
   (fun(s9,k9) (H:Heap)=>(Qr k9 H fB 1 s9.v T)∧(∀c,c+1=k9→g.ρ c= .frz∨H0.size≤c)∧(Nx kq aq.size k9)∧Nw aq H) (fun _ aA _=>?_) ?_
  ·
   have aa:Nw aq aq:=Mo.refl _ _;have ak:=Nx.refl kq aq.size;refine CW.sr (fun bb=>?_);refine LR.m1 ?_;refine LR.n1 ?_;refine LR.v1 (Y.FA hvf.pt rfl u'112 rfl s'110) ?_;refine LR.v1 (Y.load1 (hvf.pt.drop 2) rfl a'110 rfl) ?_;refine LR.v1 (Y.len hw.rd rfl u'110 rfl) ?_;refine LR.m1 (LR.nil (bb _ _ ?_));refine CW.block (fun _ _ aB _=>?_)
   refine CW.loop (fun(s_:(Nat)×(Nat)×(SV)×(Nat)×(List UInt8))=>match s_ with|(i2,k,s8,kb,bl)=>[(0,fvl g.fb i),(7,.int .i64 (k:Int)),(8,s8.v),(36,wv.v),(37,.int .i64 lw.length),(38,.int .i64 (i2:Int))])
    (fun(i2,k,s8,kb,bl) (H:Heap)=>(i2≤lw.length)∧(Qr kb H fB 1 s8.v bl)∧(∀c,c+1=kb→g.ρ c= .frz∨H0.size≤c)∧(bl=onAll ((fget D.fs i).w.take i2) (fget D.fs i).stays)∧(wayW ((fget D.fs i).w.drop i2) bl k=T)∧(k≤k0)∧(Nx kq aq.size kb)∧Nw aq H)
    (fun(i2,k,s8,kb,bl)=>lw.length-i2) (0,k0,sv,kq,(fget D.fs i).stays) ⟨rfl,(by rw[a9];rfl),rfl,rfl,rfl,rfl,trivial⟩ ?_ ?_
   ·
    exact⟨(by omega),hb,fun c e=> .inl (hqF c e),rfl,hT.symm,Nat.le_refl _,Nx.refl _ _,Mo.refl _ _⟩
   rintro⟨i2,k,s8,kb,bl⟩ aN b6 cy bc aC;obtain⟨hi2,hb,hbF,hbl,hwk,hkl,av,ae⟩:=b6;have aO:Nx kq aq.size kb:=Nx.tr (ak) av aa.size;replace hdR:=fun y hy=>(hdR y hy).nw ae;replace hw:=hw.nw ae;replace aa:=aa.tr ae;have cz:=ae.size;have au:=hb.le;have hble:=hpf i2;rw[←hbl]at hble;refine CW.sr (fun bd=>?_);refine LR.v1 (Y.lss rfl rfl rfl) (LR.nil (bd _ _ ?_));refine CW.s2 (fun be bf=>?_);refine CW.condp rfl (fun b7=>?_) (fun b7=>?_)
   ·
    have hi2l:i2<lw.length:=by omega
    have hi2w:i2<(fget D.fs i).w.length:=by omega
    have hgw:(fget D.fs i).w[i2]=lw[i2].1:=by simp only[←hlw,List.getElem_map]
    have hdl2:=hwd lw[i2].1 (by rw[←hlw];exact List.mem_map.2 ⟨_,List.getElem_mem hi2l,rfl⟩);have hdy:=hdR lw[i2] (List.getElem_mem hi2l);refine CW.skip (be _ _ (CW.s2 (fun bg aP=>CW.block (fun _ bh _ aQ=>CW.sr (fun bi=>?_)))));refine LR.v1 (Y.owAddr hw (i2) rfl u'110 s'149 rfl rfl (by first|rfl|omega) (by first|omega|(simp;omega)|(simp;done))) ?_;refine LR.v1 (Y.loadN (hw.pt (j:=i2) (by first|omega|(simp;omega)|(simp;done))) rfl a'149 s'149 (fW_len _) rfl) ?_;refine LR.z1 (Z.allocv rfl z'149) fun ao b8 b9=>?_;obtain⟨rfl,ao,aw,b_,bj⟩:=b9;have bE:b8.size=aN.size+1:=by rw[bj];simp
    have bm:=(DF.new (ar.mono (by omega)):DF _ (aN.size+1));have bn:Dj kb (aN.size+1):=Dj.new hb.le;have bo:Nx 0 aq.size (aN.size+1):=Nx.new aa.size;have bp:Nx 0 aq.size (aN.size+1):=Nx.new ae.size;replace hdR:=fun y hy=>(hdR y hy).nw aw;replace hb:=hb.nw aw;replace aa:=aa.tr aw;replace ae:=ae.tr aw;have cA:=aw.size;refine LR.s1 (S.var ao (_) (fW lw[i2]) rfl rfl rfl rfl (fW_one lw[i2]) s'149 (fW_len _) (by decide) ((splice_all2 (fW_len _).symm))) fun bF aR=>?_;obtain⟨ao,af⟩:=aR;replace af:=af.md1;replace hdR:=fun y hy=>(hdR y hy).upL af (DFL.o bm);replace hb:=hb.upL af (DL.o bn);replace aa:=aa.tq af (MIL.o (MI.q bo));replace ae:=ae.tq af (MIL.o (MI.q bp));have cB:=af.size;refine LR.nil (bi _ _ (CW.s2 (fun bq br=>CW.sr (fun bs=>?_))));refine LR.m1 ?_;refine LR.v1 (Y.eql rfl rfl rfl) (LR.nil (bs _ _ ?_));refine CW.condp rfl (fun ca=>?_) (fun ca=>?_)
    ·
     refine CW.exit (br (.exit 2) nofun _ _ (aQ (.exit 2) nofun (by simp) _ _ (aP (.exit 2) nofun _ _ (aC (.exit 2) nofun _ _ (aB _ _ ?_)))));have hTe:T=bl:=by rw[←hwk,show k=0 by omega,wayW_0]
     refine QN.sub (aA (s8,kb) _ ?_) ⟨rfl,rfl,trivial⟩;exact⟨by rw[hTe];exact hb,hbF,aO,aa⟩
    ·
     refine CW.skip (bq _ _ (CW.s2 (fun bt bu=>CW.sr (fun bv=>?_))));refine LR.m1 ?_;refine LR.v1 (Y.loadN ao.pt rfl a'149 s'149 (fW_len _) rfl) ?_;refine LR.call rfl c'82 rfl (Wd.u rfl) rfl rfl (ways_ct lw[i2] w0 _ (hdR lw[i2] (List.getElem_mem hi2l)).any (by omega)) (fun cC cD cb=>?_);obtain⟨rfl,ap⟩:=cb;replace hdR:=fun y hy=>(hdR y hy).nw ap;replace hb:=hb.nw ap;replace ao:=ao.nw ap;replace aa:=aa.tr ap;replace ae:=ae.tr ap;have cE:=ap.size;refine LR.v1 (Y.leq rfl rfl rfl) (LR.nil (bv _ _ ?_));refine CW.condp rfl (fun cc=>?_) (fun cc=>?_)
     ·
      refine CW.sr (fun bw=>?_);refine LR.v1 (Y.loadN ao.pt rfl a'149 s'149 (fW_len _) rfl) ?_;refine LR.m1 ?_;refine LR.m1 ?_;refine LR.v1 (Y.cast (v2:= .int .i64 ((k-1:Nat):Int)) (Y.subi rfl rfl rfl (by omega)) (ivv (by omega))) ?_;refine LR.call rfl c'83 rfl (Wd.u rfl) rfl rfl (part_ct lw[i2] s8 bl (k-1) w0 _ (hdR lw[i2] (List.getElem_mem hi2l)).any hb.rd.any (by omega) (by omega)) (fun cF cG cd=>?_);obtain⟨ce,bG,rfl,aD,aS,aE⟩:=cd;have bx:Nx 0 aq.size bG:=Nx.tr (Nx.refl 0 _) aS aa.size;replace hdR:=fun y hy=>(hdR y hy).nw aE;replace aa:=aa.tr aE;have cf:=aE.size;have aT:=aD.le;refine LR.an ?_;refine bw _ _ ?_;refine CW.exit (bu (.exit 2) nofun _ _ (aQ (.exit 2) nofun (by simp) _ _ (aP (.exit 2) nofun _ _ (aC (.exit 2) nofun _ _ (aB _ _ ?_)))));have hTe:T=lw[i2].1.part bl (k-1):=by rw[←hwk,wayW_drop hi2w,if_neg (by omega),if_pos (by simp only[hgw];omega)];simp only[hgw]
      rw[←hTe]at aD;refine QN.sub (aA (ce,bG) _ ?_) ⟨rfl,rfl,trivial⟩;exact⟨aD.q,fun c e=> .inr (by unfold Nx at aS;omega),(Nx.z (bx)),aa⟩
     ·
      refine CW.skip (bt _ _ (CW.sr (fun bz=>?_)));refine LR.m1 ?_;refine LR.v1 (Y.loadN ao.pt rfl a'149 s'149 (fW_len _) rfl) ?_;refine LR.call rfl c'82 rfl (Wd.u rfl) rfl rfl (ways_ct lw[i2] w0 _ (hdR lw[i2] (List.getElem_mem hi2l)).any (by omega)) (fun cH cI cg=>?_);obtain⟨rfl,ax⟩:=cg;replace hdR:=fun y hy=>(hdR y hy).nw ax;replace hb:=hb.nw ax;replace ao:=ao.nw ax;replace ae:=ae.tr ax;have ch:=ax.size;refine LR.v1 (Y.cast (v2:= .int .i64 ((k-lw[i2].1.ways:Nat):Int)) (Y.subi rfl rfl rfl (by omega)) (ivv (by omega))) ?_;refine LR.an ?_;refine bz _ _ (CW.region ?_);refine LR.v1 (Y.loadN ao.pt rfl a'149 s'149 (fW_len _) rfl) ?_;refine LR.m1 ?_;refine LR.v1 (Y.FA ao.pt rfl u'149 rfl s'34) ?_;refine LR.v1 (Y.load1 (ao.pt.drop 1) rfl a'34 rfl) ?_;refine LR.v1 (Y.len (hdR lw[i2] (List.getElem_mem hi2l)) rfl u'34 rfl) ?_;refine LR.call rfl c'84 rfl (Wd.u rfl) rfl rfl (on_ct lw[i2] s8 bl lw[i2].1.d.length w0 _ (hdR lw[i2] (List.getElem_mem hi2l)).any hb.rd.any (Nat.le_refl _) (by omega)) (fun cJ cK ci=>?_);obtain⟨cj,bH,rfl,aU,aV,aF⟩:=ci;have bA:Nx 0 aq.size bH:=Nx.tr (Nx.refl 0 _) aV ae.size;replace hdR:=fun y hy=>(hdR y hy).nw aF;replace ae:=ae.tr aF;have ck:=aF.size;have aW:=aU.le;refine LR.an ?_;refine bh _ _ (bg _ _ (CW.region ?_));refine LR.v1 (Y.addi rfl rfl rfl (by omega)) ?_;refine LR.m1 (LR.nil ?_);refine QN.sub (bc (i2+1,k-lw[i2].1.ways,cj,bH,lw[i2].1.on bl lw[i2].1.d.length) _ ?_ ?_) ⟨rfl,(iv (by omega)),rfl,rfl,(iv (by omega)),(iv (by omega)),trivial⟩
      ·exact⟨(by omega),aU.q,fun c e=> .inr (by unfold Nx at aV;omega),by rw[onAll_take hi2w,←hbl];simp only[hgw],by rw[←hwk,wayW_drop hi2w,if_neg (by omega),if_neg (by simp only[hgw];omega)];simp only[hgw],(by omega),(Nx.z (bA)),ae⟩
      ·first|omega|(simp only;omega)|(simp;omega)
   ·
    refine CW.exit (bf (.exit 2) nofun _ _ (aC (.exit 2) nofun _ _ (aB _ _ ?_)));have hTe:T=bl:=by rw[←hwk,List.drop_of_length_le (by omega)];rfl
    refine QN.sub (aA (s8,kb) _ ?_) ⟨rfl,rfl,trivial⟩;exact⟨by rw[hTe];exact hb,hbF,aO,aa⟩
  ·
   rintro⟨s9,k9⟩ ay aG;obtain⟨hb,hbF,av,ah⟩:=aG;replace hf:=hf.nw ah;replace hp:=hp.nw ah;replace hdR:=fun y hy=>(hdR y hy).nw ah;replace hm0:=hm0.trN ah;have cl:=ah.size;have au:=hb.le;obtain⟨nvB,svB,wvB,kwB,lwB,hfiB⟩:=hf.fil i hi;have hop:Mo (Ms [(g.fb.getD i 0+1)]) ay ay:=Mo.refl _ _;have km51:KM K (g.fb.getD i 0+1):=(hf.km1 hfiB.rf (by simp));have vf2:=hfiB.vf;have aZ:=vf2.lt;have aH:Dj (pb+1) (g.fb.getD i 0+1):=DL.at (dhp) km51;have aI:MI (K++[(pb+1)]) H0.size (g.fb.getD i 0+1):=MIL.at (MIL.ofK (ai) (by intro k hk;simp[hk])) km51;have aJ:=Nx.refl (g.fb.getD i 0+1) ay.size
   have aK:Dj k9 (g.fb.getD i 0+1):=fun c h1 h2=>by
    rcases hbF c h1 with q|q
    ·rw[show c=g.fb.getD i 0 by omega,hfiB.rf]at q;cases q
    ·have:=hlt0 _ (show g.ρ (g.fb.getD i 0)≠ .out by rw[hfiB.rf];simp);omega
   refine CW.region ?_;refine LR.m1 ?_;refine LR.m1 ?_;refine LR.m1 ?_;refine LR.m1 ?_;refine LR.m1 ?_;refine LR.n1 ?_;refine LR.v1 (Y.FA vf2.pt rfl u'112 rfl s'109) ?_;refine LR.v1 (Y.FA vf2.pt rfl u'109 rfl s'34) ?_;refine LR.s1 (S.var1 vf2 0 (_) rfl rfl rfl (rfl) s'34 (by simp) (rfl)) fun bI aX=>?_;obtain⟨vf2,ag⟩:=aX;replace ag:=ag.md1;replace hp:=hp.upL ag (DL.o aH);replace hb:=hb.upL ag (DL.o aK);replace hm0:=hm0.trL ag (MIL.cons (aI) MIL.nil);replace hop:=hop.trL ag (MIL.o (MI.r aJ));have cm:=ag.size;refine LR.n1 ?_;refine LR.v1 (Y.FA vf2.pt rfl u'112 rfl s'109) ?_;refine LR.v1 (Y.FA vf2.pt rfl u'109 rfl s'34) ?_;refine LR.s1 (S.var1 vf2 1 (_) rfl rfl rfl (rfl) s'34 (by simp) (rfl)) fun bB aL=>?_;obtain⟨vf2,ab⟩:=aL;replace ab:=ab.md1;replace hp:=hp.upL ab (DL.o aH);replace hb:=hb.upL ab (DL.o aK);replace hm0:=hm0.trL ab (MIL.cons (aI) MIL.nil);replace hop:=hop.trL ab (MIL.o (MI.r aJ));have cn:=ab.size;refine LR.n1 ?_;refine LR.v1 (Y.FA vf2.pt rfl u'112 rfl s'110) ?_;refine LR.s1 (S.var1 vf2 2 (_) rfl rfl rfl (rfl) s'110 (by simp) (rfl)) fun bC aM=>?_;obtain⟨vf2,ac⟩:=aM;replace ac:=ac.md1;replace hp:=hp.upL ac (DL.o aH);replace hb:=hb.upL ac (DL.o aK);replace hm0:=hm0.trL ac (MIL.cons (aI) MIL.nil);replace hop:=hop.trL ac (MIL.o (MI.r aJ));have co:=ac.size;refine LR.nil ?_;have bD:NxK K H0.size (k9::K):=(NxK.consE (ai) (kfrz hf hbF));replace hf:=hf.flose hi hfiB rfl hop vf2 hb (fun c e=>(hbF c e).imp id (fun h=>Classical.byContradiction (fun q=>by have:=hlt0 c q;omega)));refine hret .normal (.inl rfl) _ _ _ (res0 rfl) ?_;exact⟨_,{g with ρ:=uprk g.ρ k9 .frz},rfl,by rw[←a9,←hT];exact hf,bD,hp,⟨rfl,rfl,rfl⟩,hm0⟩
end SimM

namespace SimN
open E Go.RowKit SimA SimB SimC SimD SimE SimF SimG SimH SimI SimJ SimK SimL SimM
theorem at_out{c:Chg}{n q:Pth}{o:Option Nat}(hcn:∀i,c.f=some i→dirP c.n=n)(hcg:c.g≠[]→dirP c.g=n)(hq:dirP q≠n):c.at q o=o:=by
 unfold Chg.at
 cases hcf:c.f with
 |none=>
  simp only
  rw[if_neg (fun e=>hq (by rw[e.2];exact hcg e.1))]
 |some i=>
  simp only;rw[if_neg (fun e=>hq (by rw[e];exact hcn i hcf)),if_neg (fun e=>hq (by rw[e.2];exact hcg e.1))]
theorem dir_g{c:Chg}(h:c.g≠[]):dirP c.g=c.dir:=by unfold Chg.dir;rw[if_neg h]
theorem apl_out{n q:Pth}(hq:dirP q≠n):∀(cs:List Chg) (l:Nms),(∀c∈cs,c.dir=n∧∀i,c.f=some i→dirP c.n=c.dir)→mget (apl cs l) q=mget l q
 |[],l,_=>rfl
 |c::cs,l,h=>by
  have h1:=h c List.mem_cons_self;show mget (apl cs (c.ap l)) q=_;rw[apl_out hq cs _ (fun d hd=>h d (List.mem_cons_of_mem _ hd)),mget_ap];exact at_out (fun i hi=>by rw[h1.2 i hi];exact h1.1) (fun hg=>by rw[dir_g hg];exact h1.1) hq
theorem apl_ids{m:Nat}:∀(cs:List Chg) (l:Nms),(∀p i,mget l p=some i→i<m)→(∀c∈cs,∀i,c.f=some i→i<m)→∀p i,mget (apl cs l) p=some i→i<m
 |[],l,h,_=>h
 |c::cs,l,h,hc=>by
  show ∀p i,mget (apl cs (c.ap l)) p=some i→i<m;refine apl_ids cs _ (fun p i e=>?_) (fun d hd=>hc d (List.mem_cons_of_mem _ hd));rw[mget_ap]at e;unfold Chg.at at e
  cases hcf:c.f with
  |none=>
   rw[hcf]at e;simp only at e;split at e
   ·cases e
   ·exact h p i e
  |some j=>
   rw[hcf]at e;simp only at e;split at e
   ·cases e;exact hc c List.mem_cons_self _ hcf
   ·split at e
    ·cases e
    ·exact h p i e
theorem crashD_st{picks:List Int}{D:Dk}{s:Nms×Nat}{n:Pth}:(crashD picks D s n).1=apl ((D.chgs n).take (pickN picks s.2 ((D.chgs n).length+1))) s.1:=by
 unfold crashD;split
 ·rename_i h;rw[h,List.take_nil];rfl
 ·rfl
theorem chgs_mem{D:Dk}{n:Pth}{c:Chg}(h:c∈D.chgs n):c∈D.log∧c.dir=n:=by
 unfold Dk.chgs at h;rw[List.mem_filter]at h;exact⟨h.1,by simpa using h.2⟩
structure Mid (picks:List Int) (D Di:Dk) (L:List Pth):Prop where
 same:Di.cap=D.cap∧Di.most=D.most∧Di.fs=D.fs∧Di.ops=D.ops∧Di.left=D.left∧Di.dead=D.dead
 st:Di.stays=(L.foldl (crashD picks D) (D.stays,0)).1
 an:Asc Di.now
 ast:Asc Di.stays
 nw1:∀q,dirP q∈L→mget Di.now q=mget Di.stays q
 nw2:∀q,dirP q∉L→mget Di.now q=mget D.now q
 ch:∀n,Di.chgs n=if n∈L then[]else D.chgs n
 lg:∀c∈Di.log,c∈D.log
theorem Mid.start{picks:List Int}{D:Dk}(h1:Asc D.now)(h2:Asc D.stays):Mid picks D D []:=
 ⟨⟨rfl,rfl,rfl,rfl,rfl,rfl⟩,rfl,h1,h2,fun q h=>(by cases h),fun q _=>rfl,fun n=>by simp,fun c h=>h⟩
def stepM(picks:List Int)(Di:Dk)(at_:Nat)(n:Pth):Dk:=
 {Di with stays:=(crashD picks Di (Di.stays,at_) n).1,now:=merge (crashD picks Di (Di.stays,at_) n).1 Di.now n,log:=Di.log.filter (fun c=> !decide (c.dir=n))}
theorem crashD_chg{picks:List Int}{D Di:Dk}{s:Nms×Nat}{n:Pth}(h:Di.chgs n=D.chgs n):crashD picks Di s n=crashD picks D s n:=by unfold crashD;rw[h]
theorem Mid.step{picks:List Int}{D Di:Dk}{L:List Pth}{n:Pth}(h:Mid picks D Di L)(hn:n∉L)(hld:∀c∈D.log,∀i,c.f=some i→dirP c.n=c.dir):
 Mid picks D (stepM picks Di (L.foldl (crashD picks D) (D.stays,0)).2 n) (L++[n])∧(crashD picks Di (Di.stays,(L.foldl (crashD picks D) (D.stays,0)).2) n).2=((L++[n]).foldl (crashD picks D) (D.stays,0)).2:=by
 have hch:Di.chgs n=D.chgs n:=by rw[h.ch,if_neg hn]
 have hs:(Di.stays,(L.foldl (crashD picks D) (D.stays,0)).2)=L.foldl (crashD picks D) (D.stays,0):=by rw[h.st]
 have hcr:crashD picks Di (Di.stays,(L.foldl (crashD picks D) (D.stays,0)).2) n=(L++[n]).foldl (crashD picks D) (D.stays,0):=by
  rw[crashD_chg hch,hs,List.foldl_append];rfl
 have hall:∀c∈(Di.chgs n).take (pickN picks (L.foldl (crashD picks D) (D.stays,0)).2 ((Di.chgs n).length+1)),c.dir=n∧∀i,c.f=some i→dirP c.n=c.dir:=fun c hc=>by
  have:=chgs_mem (List.mem_of_mem_take hc);exact⟨this.2,hld c (h.lg c this.1)⟩
 have hAst:Asc (crashD picks Di (Di.stays,(L.foldl (crashD picks D) (D.stays,0)).2) n).1:=by rw[crashD_st];exact asc_apl h.ast _
 have hout:∀q,dirP q≠n→mget (crashD picks Di (Di.stays,(L.foldl (crashD picks D) (D.stays,0)).2) n).1 q=mget Di.stays q:=fun q hq=>by
  rw[crashD_st];exact apl_out hq _ _ hall
 refine⟨⟨h.same,?_,asc_merge h.an n,hAst,fun q hq=>?_,fun q hq=>?_,fun m=>?_,fun c hc=>h.lg c (List.mem_filter.1 hc).1⟩,by rw[hcr]⟩
 ·show(crashD picks Di _ n).1=_;rw[hcr]
 ·show mget (merge _ Di.now n) q=mget (crashD picks Di _ n).1 q
  rw[mget_merge hAst];by_cases e:dirP q=n
  ·rw[if_pos e]
  ·rw[if_neg e,hout q e]
   refine h.nw1 q ?_;rcases List.mem_append.1 hq with h1|h1
   ·exact h1
   ·exact absurd (List.mem_singleton.1 h1) e
 ·show mget (merge _ Di.now n) q=_
  have e:dirP q≠n:=fun e=>hq (by rw[e];simp);rw[mget_merge hAst,if_neg e];exact h.nw2 q (fun h1=>hq (List.mem_append_left _ h1))
 ·show(Di.log.filter _).filter _=_
  by_cases e:m=n
  ·subst e
   rw[if_pos (by simp),List.filter_filter,List.filter_eq_nil_iff];intro c _;simp
  ·have e2:(Di.log.filter (fun c=> !decide (c.dir=n))).filter (fun c=>decide (c.dir=m))=Di.chgs m:=by
    unfold Dk.chgs;rw[List.filter_filter];refine List.filter_congr (fun c _=>?_);by_cases e3:c.dir=m
    ·simp[e3,e]
    ·simp[e3]
   rw[e2,h.ch];simp[e]
theorem Mid.fin{picks:List Int}{D Di:Dk}{L:List Pth}(h:Mid picks D Di L)(hL:Rise L)(hc:∀n,D.chgs n≠[]→n∈L)(hno:∀q,dirP q∉L→mget D.now q=none∧mget D.stays q=none)(hld:∀c∈D.log,∀i,c.f=some i→dirP c.n=c.dir):
 Di.stays=(D.crashN picks).1∧Di.now=(D.crashN picks).1∧Di.log=[]∧(L.foldl (crashD picks D) (D.stays,0)).2=(D.crashN picks).2:=by
 have e:=D.crashN_any picks hL hc;have hs:Di.stays=(D.crashN picks).1:=by rw[h.st,e]
 have hkeep:∀q,dirP q∉L→mget Di.stays q=none:=fun q hq=>by
  rw[h.st]
  have:∀(M:List Pth) (s:Nms×Nat),(∀n∈M,n∈L)→mget s.1 q=none→mget (M.foldl (crashD picks D) s).1 q=none:=by
   intro M
   induction M with
   |nil=>intro s _ h;exact h
   |cons m M ih=>
    intro s hM h;refine ih _ (fun n hn=>hM n (List.mem_cons_of_mem _ hn)) ?_;rw[crashD_st,apl_out (n:=m) (fun e=>hq (by rw[e];exact hM m List.mem_cons_self)) _ _ (fun c hc=>?_)]
    ·exact h
    ·have:=chgs_mem (List.mem_of_mem_take hc)
     exact⟨this.2,hld c this.1⟩
  exact this L _ (fun n hn=>hn) (hno q hq).2
 refine⟨hs,?_,?_,by rw[e]⟩
 ·rw[←hs]
  refine asc_ext h.an h.ast (fun q=>?_);by_cases hq:dirP q∈L
  ·exact h.nw1 q hq
  ·rw[h.nw2 q hq,(hno q hq).1,hkeep q hq]
 ·refine List.eq_nil_iff_forall_not_mem.2 (fun c hcm=>?_)
  have h1:=h.ch c.dir;have hm:c∈Di.chgs c.dir:=by unfold Dk.chgs;rw[List.mem_filter];exact⟨hcm,by simp⟩
  by_cases hq:c.dir∈L
  ·rw[h1,if_pos hq]at hm;cases hm
  ·rw[h1,if_neg hq]at hm
   exact absurd (hc c.dir (fun e=>by rw[e]at hm;cases hm)) hq
section
variable {ρ ρ' : Nat → Role} {fb : List Nat} {H H' : Heap} {D D' : Dk} {p : Pth} {db nb sb k i b : Nat} {sv nv wv : SV} {nm sm : Nms} {S : Nat → Prop} {K K' : List Nat} {g : Gh}
theorem dcrash{picks:List Int}{at_ b2 x_:Nat}{m3:Nms}(h:PDk K g H b D)(hx_:DL x_ K)(hp:mget g.dm p=some db)(hd:DirO g.ρ g.fb H D p db nb sb k sv nm sm)(hA:Asc D.stays)(hld:∀c∈D.log,∀i,c.f=some i→dirP c.n=c.dir)(s:Mo (Ms [db+1,sb+1,k,x_]) H H')
 (hv:Var 99 H' db [.map (some b2),.map (some sb),.slice none 0 0]) (hs:Mp H' Str (fvl g.fb) sb m3) (hn:Mp H' Str (fvl g.fb) b2 m3) (hm3:∀q,mget m3 q=if dirP q=p then mget (crashD picks D (D.stays,at_) p).1 q else none) (hk:DL (b2+1) K):
 PDk ((b2+1)::K) {g with ρ:=uprk g.ρ (b2+1) (.now p)} H' b (stepM picks D at_ p):=by
 have hS:∀x,Ms [db+1,sb+1,k,x_] x→g.ρ x= .dir p∨g.ρ x= .sty p∨g.ρ x= .chg p∨g.ρ x= .out:=fun x e=>by
  have:x+1=db+1∨x+1=sb+1∨x+1=k∨x+1=x_:=by simpa[Ms]using e
  rcases this with e|e|e|e
  ·exact .inl (by rw[show x=db by omega];exact hd.rd)
  ·exact .inr (.inl (by rw[show x=sb by omega];exact hd.rs))
  ·exact .inr (.inr (.inl (hd.rc x e)))
  ·exact .inr (.inr (.inr (h.newk hx_ x e)))
 have hx:Ext g.ρ (uprk g.ρ (b2+1) (.now p)):=Ext.uprk (fun c e=> .inl (h.newk hk c e))
 have hall:∀c∈(D.chgs p).take (pickN picks at_ ((D.chgs p).length+1)),c.dir=p∧∀i,c.f=some i→dirP c.n=c.dir:=fun c hc=>by
  have:=chgs_mem (List.mem_of_mem_take hc);exact⟨this.2,hld c this.1⟩
 have hAst:Asc (crashD picks D (D.stays,at_) p).1:=by rw[crashD_st];exact asc_apl hA _
 have hout:∀q,dirP q≠p→mget (crashD picks D (D.stays,at_) p).1 q=mget D.stays q:=fun q hq=>by rw[crashD_st];exact apl_out hq _ _ hall
 have hids:∀q i,mget (crashD picks D (D.stays,at_) p).1 q=some i→i<D.fs.length:=by
  rw[crashD_st];exact apl_ids _ _ h.ids.2.1 (fun c hc=>h.ids.2.2 c (chgs_mem (List.mem_of_mem_take hc)).1)
 refine h.setDir s (fun x e=>?_) hx (hK_uprk h.hK (by simp)) (lt_uprk h.lt s.size hn.lt) hp ⟨b2,sb,0,⟨none,0,0⟩,m3,m3,?_⟩ ⟨rfl,rfl,rfl,rfl,rfl,rfl⟩ (fun q hq=>?_) hout (fun n hn=>?_) ⟨fun q i e=>?_,hids,fun c hc i e=>h.ids.2.2 c (List.mem_filter.1 hc).1 i e⟩
 ·rcases hS x e with e|e|e|e
  ·exact .inl e
  ·exact .inr (.inr (.inl e))
  ·exact .inr (.inr (.inr (.inl e)))
  ·exact .inr (.inr (.inr (.inr e)))
 ·exact{rd:=hx.of hd.rd (by simp),vd:=hv,rn:=uprk_self rfl,hn:=hn,rs:=hx.of hd.rs (by simp),hs:=hs
        en:=fun q=>by
         rw[hm3];show _=if dirP q=p then mget (merge _ D.now p) q else none;rw[mget_merge hAst];split<;>rfl
        es:=hm3
        hc:=by
         have:(stepM picks D at_ p).chgs p=[]:=by unfold stepM Dk.chgs;rw[List.filter_filter,List.filter_eq_nil_iff];intro c _;simp
         rw[this];exact Ow.nil (fC_len _) (fC_one _)
        rc:=fun c e=>(by omega)}
 ·show mget (merge _ D.now p) q=_
  rw[mget_merge hAst,if_neg hq]
 ·unfold stepM Dk.chgs
  rw[List.filter_filter];refine List.filter_congr (fun c _=>?_);by_cases e:c.dir=n
  ·simp[e,hn]
  ·simp[e]
 ·have e:mget (merge (crashD picks D (D.stays,at_) p).1 D.now p) q=some i:=e
  rw[mget_merge hAst]at e;split at e
  ·exact hids q i e
  ·exact h.ids.1 q i e
end
section
variable {w0 : World} {n : Nat} {l : FL} {H : Heap} {o : Oper} {K : List Nat} {g : Gh} {b lv : Nat} {D : Dk} {x y : Operand} {t : TypeId}
theorem pd_alive(h:PDk K g H b D)(hl:g.lv=D.left)(ho:o.op= .store t x y)(hx:opv l x=some (.pointer (some ⟨b,5,none⟩)))(hy:opv l y=some (.bool false))(hs:∀w,(sizeOf t).run Tryz.prog w= .ok 1 w):
 S Tryz.prog w0 n l H o (fun H'=>PDk K g H' b {D with dead:=false}∧Mo (Ms K) H H'):=
 (S.var1 h.vb 5 _ ho hx hy rfl hs (by simp) rfl).mono fun H' ⟨h1,h2⟩=>⟨h.setFs h2.md1 ⟨rfl,rfl,rfl,rfl⟩ h1 (fun _=>hl) h.lvB ⟨rfl,rfl,rfl,rfl,rfl,rfl⟩ (Nat.le_refl _),h.ms h2 (fun c e=>by rw[e,h.rb];simp)⟩
end
theorem crashF_file(picks:List Int)(fs:List Fdt):∀(L:Nms) (s:List Fdt×Nat),(∀i,fget s.1 i=fget fs i∨(fget s.1 i).w=[])→∀i,fget (L.foldl (crashF picks) s).1 i=fget fs i∨(fget (L.foldl (crashF picks) s).1 i).w=[]
 |[],s,h=>h
 |x::L,s,h=>by
  refine crashF_file picks fs L _ (fun i=>?_);unfold crashF;simp only;split
  ·exact h i
  ·by_cases e:x.2=i
   ·subst e
    by_cases hl:x.2<s.1.length
    ·exact .inr (by simp[fget,List.getD,hl])
    ·have:s.1.set x.2 ⟨wayW (fget s.1 x.2).w (fget s.1 x.2).stays (pickN picks s.2 (waysF (fget s.1 x.2).w)),wayW (fget s.1 x.2).w (fget s.1 x.2).stays (pickN picks s.2 (waysF (fget s.1 x.2).w)),[]⟩=s.1:=List.set_eq_of_length_le (by omega)
     rw[this];exact h _
   ·have:fget (s.1.set x.2 ⟨wayW (fget s.1 x.2).w (fget s.1 x.2).stays (pickN picks s.2 (waysF (fget s.1 x.2).w)),wayW (fget s.1 x.2).w (fget s.1 x.2).stays (pickN picks s.2 (waysF (fget s.1 x.2).w)),[]⟩) i=fget s.1 i:=by simp[fget,List.getD,List.getElem?_set,e]
    rw[this];exact h i
theorem crashF_len(picks:List Int):∀(L:Nms) (s:List Fdt×Nat),(L.foldl (crashF picks) s).1.length=s.1.length
 |[],s=>rfl
 |x::L,s=>by
  rw[List.foldl_cons,crashF_len picks L];unfold crashF;simp only;split
  ·rfl
  ·simp
theorem crashF_at(picks:List Int):∀(L:Nms) (s:List Fdt×Nat),(L.foldl (crashF picks) s).2≤s.2+L.length
 |[],s=>Nat.le_refl _
 |x::L,s=>by
  have h:=crashF_at picks L (crashF picks s x);rw[List.foldl_cons,List.length_cons];have:(crashF picks s x).2≤s.2+1:=by unfold crashF;simp only;split<;>simp
  omega
theorem crashD_at(picks:List Int)(D:Dk):∀(L:List Pth) (s:Nms×Nat),(L.foldl (crashD picks D) s).2≤s.2+L.length
 |[],s=>Nat.le_refl _
 |x::L,s=>by
  have h:=crashD_at picks D L (crashD picks D s x);rw[List.foldl_cons,List.length_cons];have:(crashD picks D s x).2≤s.2+1:=by unfold crashD;split<;>simp
  omega
theorem dj_r{ρ:Nat→Role}{a k:Nat}{r1 r2:Role}(h1:∀c,c+1=a→ρ c=r1)(h2:∀c,c+1=k→ρ c=r2)(hne:r1≠r2):Dj a k:=fun c e1 e2=>hne ((h1 c e1).symm.trans (h2 c e2))
theorem r1_{ρ:Nat→Role}{b:Nat}{r:Role}(h:ρ b=r):∀c,c+1=b+1→ρ c=r:=fun c e=>by rw[show c=b by omega];exact h
theorem chg_sum(L:List Pth)(hn:L.Nodup):∀l:List Chg,(L.map (fun n=>(l.filter (fun c=>decide (c.dir=n))).length)).sum≤l.length
 |[]=>by
  have:∀L:List Pth,(L.map (fun n=>(([]:List Chg).filter (fun c=>decide (c.dir=n))).length)).sum=0:=by
   intro L
   induction L with
   |nil=>rfl
   |cons n L ih=>rw[List.map_cons,List.sum_cons,ih];rfl
  rw[this];exact Nat.zero_le _
 |c::l=>by
  have ih:=chg_sum L hn l
  have e:L.map (fun n=>((c::l).filter (fun c=>decide (c.dir=n))).length)=L.map (fun n=>(if c.dir=n then 1 else 0)+(l.filter (fun c=>decide (c.dir=n))).length):=by
   refine List.map_congr_left (fun n _=>?_);by_cases h:c.dir=n
   ·rw[List.filter_cons_of_pos (by simpa using h),if_pos h,List.length_cons];omega
   ·rw[List.filter_cons_of_neg (by simpa using h),if_neg h];omega
  rw[e,sum_add,List.length_cons]
  have:(L.map (fun n=>if c.dir=n then 1 else 0)).sum≤1:=by
   by_cases h:c.dir∈L
   ·rw[sum_if L hn _ _ h];exact Nat.le_refl _
   ·have:L.map (fun n=>if c.dir=n then 1 else 0)=L.map (fun _=>0):=List.map_congr_left (fun n hn=>if_neg (fun e=>h (by rw[e];exact hn)))
    rw[this]
    have h0:∀L:List Pth,(L.map (fun _=>0)).sum=0:=by
     intro L
     induction L with
     |nil=>rfl
     |cons n L ih=>rw[List.map_cons,List.sum_cons,ih]
    rw[h0];exact Nat.zero_le _
  omega
theorem nput_len(l:Nms)(p:Pth)(i:Nat):(nput l p i).length≤l.length+1:=by
 induction l with
 |nil=>simp[nput]
 |cons x l ih=>
  unfold nput;split
  ·simp only[List.length_cons];omega
  ·split<;>simp
theorem ap_len(c:Chg)(l:Nms):(c.ap l).length≤l.length+1:=by
 unfold Chg.ap
 have h1:(if c.g=[]then l else mdel l c.g).length≤l.length:=by
  split
  ·exact Nat.le_refl _
  ·exact List.length_filter_le _ _
 cases c.f with
 |none=>simp only;omega
 |some i=>simp only;have:=nput_len (if c.g=[]then l else mdel l c.g) c.n i;omega
theorem apl_len:∀(cs:List Chg) (l:Nms),(apl cs l).length≤l.length+cs.length
 |[],l=>Nat.le_refl _
 |c::cs,l=>by
  have h1:=apl_len cs (c.ap l);have h2:=ap_len c l;show(apl cs (c.ap l)).length≤_;rw[List.length_cons];omega
theorem crashD_len(picks:List Int)(D:Dk):∀(L:List Pth) (s:Nms×Nat),(L.foldl (crashD picks D) s).1.length≤s.1.length+(L.map (fun n=>(D.chgs n).length)).sum
 |[],s=>by simp
 |n::L,s=>by
  have h:=crashD_len picks D L (crashD picks D s n);rw[List.foldl_cons,List.map_cons,List.sum_cons]
  have h2:(crashD picks D s n).1.length≤s.1.length+(D.chgs n).length:=by
   rw[crashD_st];have:=apl_len ((D.chgs n).take (pickN picks s.2 ((D.chgs n).length+1))) s.1;have h3:((D.chgs n).take (pickN picks s.2 ((D.chgs n).length+1))).length≤(D.chgs n).length:=by rw[List.length_take];omega
   omega
  omega
theorem crashN_len(D:Dk)(picks:List Int):(D.crashN picks).1.length≤D.stays.length+D.log.length:=by
 have h1:=crashD_len picks D D.dirty (D.stays,0);have h2:=chg_sum D.dirty (rise_nodup D.dirty_rise) D.log;unfold Dk.crashN;simp only at h1;unfold Dk.chgs at h1;omega
end SimN

namespace SimP
open E Go.RowKit SimA SimB SimC SimD SimE SimF SimG SimH SimI SimJ SimK SimL SimM SimN
theorem crash_ct(K:List Nat)(g:Gh)(b:Nat)(D:Dk)(G:Nat→Prop)(pv:SV)(picks:List Int)(w0:World)(H0:Heap)
 (hf:PDk K g H0 b D) (hpk:Rd G H0 fI 1 pv.v picks) (bf_hpk:BF G H0.size) (dpkK:DFL G K) (hB:Bd 274877906944 D) (hwy:∀i,waysF (fget D.fs i).w≤2305843009213693952) (hpw:∀x∈picks,-9223372036854775808≤x∧x≤9223372036854775807):
 Ct Tryz.prog w0 12 #[ptr b,pv.v] H0 (fun r H2=>∃K2:List Nat,∃g2:Gh,r= .int .i64 ((D.crashA picks).2:Int)∧(PDk K2 g2 H2 b (D.crash picks))∧(NxK K H0.size K2)∧Mo (Ms K) H0 H2):=by
 refine Ct.enter (args:=[ptr b,pv.v]) Tryz.func12 rfl rfl rfl ?_;intro Q0 hret;have hm0:Mo (Ms K) H0 H0:=Mo.refl _ _;have al:=NxK.refl K H0.size;have aq:=hf.bk;have habs0:=hf.abs;have hdm0:=hf.dml;have hop0:=hB.op;have hmn0:=hf.hm.mo.nodup;have hlg0:=hB.lg;have hsl0:=hB.sl;have hcl0:=crashN_len D picks;refine CW.seq (fun K1 dn _=>CW.region ?_);refine LR.an ?_;refine dn _ _ (CW.seq (fun K2 dp _=>CW.region ?_));refine LR.m1 ?_;refine LR.v1 (Y.build (v:= .agg #[pv.v,.int .i64 ((0:Nat):Int)]) rfl rfl (by intro w;kernel_rfl)) ?_;refine LR.z1 (Z.boxv rfl rfl) fun ed dd dq=>?_;obtain⟨rfl,hp,aQ,dr,bP⟩:=dq;have de:dd.size=H0.size+1:=by rw[bP];simp
 have ds:DL (H0.size+1) K:=DL.newK hf.bk;have bD:=(DF.new (bf_hpk.mono hm0.size):DF _ (H0.size+1));have df:Nx 0 H0.size (H0.size+1):=Nx.new hm0.size;replace hf:=hf.nw aQ;replace hpk:=hpk.nw aQ;replace hm0:=hm0.trN aQ;have ee:=aQ.size;replace hp:Var 86 dd H0.size ([pv.v,.int .i64 ((0:Nat):Int)]):=hp;refine LR.an ?_;refine dp _ _ (CW.sr (fun dt=>?_));refine LR.m1 ?_;refine LR.n1 ?_;refine LR.v1 (Y.FA hf.vb.pt rfl u'73 rfl s'66) ?_;refine LR.v1 (Y.load1 (hf.vb.pt.drop 2) rfl a'66 rfl) ?_;have hmo:=hf.hm;have bE:=hmo.lt;refine LR.call rfl c'37 rfl (Wd.u rfl) rfl rfl (keysD g.mb w0 _) (fun ef eg du=>?_);obtain⟨bx,rfl,hx,hkx,aD⟩:=du;replace hf:=hf.nw aD;replace hpk:=hpk.nw aD;replace hp:=hp.nw aD;replace hmo:=hmo.nw aD;replace hm0:=hm0.trN aD;have eh:=aD.size;have bQ:=hx.le;refine LR.call rfl c'36 rfl (Wd.u rfl) rfl rfl (sortedD bx g.mb ptr g.dm w0 _ hx hmo (by omega)) (fun ei aY dv=>?_);obtain⟨aZ,bR,L,rfl,ows,ba,hL,aI⟩:=dv;have dw:DL bR K:=DL.app2 (DL.zK) hf.bk ba;have bS:Dj (H0.size+1) bR:=Dj.app (Dj.z) hp.lt ba;replace hf:=hf.nw aI;replace hpk:=hpk.nw aI;replace hp:=hp.nw aI;replace hm0:=hm0.trN aI;have ej:=aI.size;have bF:=ows.le;have hLn:=rise_nodup hL.1;have hLl:=nodup_le hLn (fun k hk=>(hL.2 k).1 hk);rw[List.length_map]at hLl
 have hno:∀q,q∉L→mget g.dm q=none:=fun q hq=>by
  cases hm:mget g.dm q with
  |none=>rfl
  |some x=>exact absurd ((hL.2 q).2 (isSome_iff_key.1 (by rw[hm];rfl))) hq
 refine LR.an ?_;refine dt _ _ (CW.seq (fun K4 dx _=>CW.sr (fun dy=>?_)));refine LR.m1 ?_;refine LR.v1 (Y.len ows.rd rfl u'87 rfl) ?_;refine LR.m1 (LR.nil (dy _ _ ?_));refine CW.block (fun _ _ dz _=>?_)
 refine CW.loop (fun(s_:(Nat)×(List Nat)×(Gh)×(Dk)×(Nat))=>match s_ with|(i,K1,g1,Di,a1)=>[(0,ptr b),(5,.pointer (some ⟨H0.size,0,none⟩)),(6,aZ.v),(27,aZ.v),(28,.int .i64 (L.length:Int)),(29,.int .i64 (i:Int))])
  (fun(i,K1,g1,Di,a1) (H:Heap)=>(PDk K1 g1 H b Di)∧(Var 86 H H0.size [pv.v,.int .i64 (a1:Int)])∧(i≤L.length)∧(Mid picks D Di (L.take i))∧(a1=((L.take i).foldl (crashD picks D) (D.stays,0)).2)∧(g1.fb=g.fb∧g1.dm=g.dm)∧(NxK K aY.size K1)∧(DL (H0.size+1) K1)∧Mo (Ms (K++[(H0.size+1)])) aY H)
  (fun(i,K1,g1,Di,a1)=>L.length-i) (0,K,g,D,0) ⟨rfl,rfl,rfl,rfl,rfl,rfl,trivial⟩ ?_ ?_
 ·
  exact⟨hf,hp,(by omega),Mid.start hB.an hB.ast,rfl,⟨rfl,rfl⟩,NxK.refl _ _,ds,Mo.refl _ _⟩
 rintro⟨i,K1,g1,Di,a1⟩ af dA K7 dB dC;obtain⟨hf,hp,hi,hM,ha,bb,ae,aj,ag⟩:=dA;have bc:=DFL.appK (dpkK) (bf_hpk.mono hm0.size) ae;have bd:NxK K H0.size K1:=NxK.tr (al) ae hm0.size;replace hpk:=hpk.upL ag (DFL.app dpkK (DFL.o bD));replace ows:=ows.upL ag (DL.app dw (DL.o bS.symm));replace hm0:=hm0.trL ag (MIL.app (MIL.ofK (al) (by intro k hk;simp[hk])) (MIL.o (MI.q df)));have ek:=ag.size;have aq:=hf.bk;have aE:=aj;have a0:=ae;have aB:=Nx.refl (H0.size+1) aY.size;have hal:=crashD_at picks D (L.take i) (D.stays,0);rw[←ha,List.length_take]at hal;simp only at hal;refine CW.sr (fun dD=>?_);refine LR.v1 (Y.lss rfl rfl rfl) (LR.nil (dD _ _ ?_));refine CW.s2 (fun dE dF=>?_);refine CW.condp rfl (fun dG=>?_) (fun dG=>?_)
 ·
  have hil:i<L.length:=by omega
  have hni:L[i]∉L.take i:=fun hq=>by
   have h9:=hLn;rw[←List.take_append_drop i L,List.nodup_append]at h9;exact h9.2.2 _ hq _ (by rw[List.drop_eq_getElem_cons hil];exact List.mem_cons_self) rfl
  have hst:=hM.step hni hB.ld;have hmem_db:L[i]∈g.dm.map (·.1):=(hL.2 _).1 (List.getElem_mem hil)
  obtain⟨db,hdb⟩:∃db,mget g.dm L[i]=some db:=by
   rw[←isSome_iff_key]at hmem_db
   cases hq:mget g.dm L[i]with
   |none=>rw[hq]at hmem_db;cases hmem_db
   |some db=>exact⟨db,rfl⟩
  have hdb1:mget g1.dm L[i]=some db:=by rw[bb.2];exact hdb
  have hchl:(Di.chgs L[i]).length≤D.log.length:=by rw[hM.ch,if_neg hni];exact List.length_filter_le _ _
  refine CW.skip (dE _ _ (CW.s1 (fun bT=>CW.block (fun _ bU _ _=>CW.sr (fun bV=>?_)))));refine LR.v1 (Y.owAddr ows (i) rfl u'87 s'9 rfl rfl (by first|rfl|omega) (by first|omega|(simp;omega)|(simp;done))) ?_;refine LR.v1 (Y.load1 (ows.pt (j:=i) (by first|omega|(simp;omega)|(simp;done))) rfl a'9 rfl) ?_;refine LR.an ?_;refine bV _ _ (CW.s1 (fun bW=>?_));obtain⟨nbB,sbB,kcB,svB,nmB,smB,hdB⟩:=hf.dirs _ db hdb1;have hop:Mo (Ms [(db+1),(sbB+1),kcB,(H0.size+1)]) af af:=Mo.refl _ _;have km21:KM K1 (db+1):=(hf.km1 hdB.rd (by simp));have vd:=hdB.vd;have bX:=vd.lt;have ax:Dj (H0.size+1) (db+1):=DL.at (aE) km21;have be:MI (K++[(H0.size+1)]) aY.size (db+1):=MIL.at (MIL.ofK (a0) (by intro k hk;simp[hk])) km21;have bf:=Nx.refl (db+1) af.size;have km29:KM K1 (sbB+1):=(hf.km1 hdB.rs (by simp));have hsm:=hdB.hs;have bG:=hsm.lt;have bg:Dj (H0.size+1) (sbB+1):=DL.at (aE) km29;have bY:MI (K++[(H0.size+1)]) aY.size (sbB+1):=MIL.at (MIL.ofK (a0) (by intro k hk;simp[hk])) km29;have bZ:=Nx.refl (sbB+1) af.size;have km37:KM K1 kcB:=(hf.km hdB.rc (by simp));have hcr:=hdB.hc;have bH:=hcr.le;have a3:Dj (H0.size+1) kcB:=DL.at (aE) km37;have b0:=Nx.refl (H0.size+1) af.size;have aR:Dj (db+1) (sbB+1):=dj_r (r1_ hdB.rd) (r1_ hdB.rs) (by simp);have b1:Dj (sbB+1) kcB:=dj_r (r1_ hdB.rs) hdB.rc (by simp);refine CW.region ?_;refine LR.m1 ?_;refine LR.n1 ?_;refine LR.v1 (Y.FA hf.vb.pt rfl u'73 rfl s'66) ?_;refine LR.v1 (Y.load1 (hf.vb.pt.drop 2) rfl a'66 rfl) ?_;refine LR.m1 ?_;refine LR.v1 (Y.cast (v2:=ptr db) (look_p adO hf.hm.mo (fun _=>rfl) keyStr rfl u'66 Tryz.underlying9 z'92 rfl rfl) (by rw[hdb1];rfl)) ?_;refine LR.an ?_;refine bW _ _ ?_
  refine CW.cut (fun(s_:(Nms)×(Nat))=>match s_ with|(m3,a2)=>[(0,ptr b),(5,.pointer (some ⟨H0.size,0,none⟩)),(6,aZ.v),(9,ptr db),(27,aZ.v),(28,.int .i64 (L.length:Int)),(29,.int .i64 (i:Int))])
   (fun(m3,a2) (H:Heap)=>(Mp H Str (fvl g1.fb) sbB m3)∧(Var 86 H H0.size [pv.v,.int .i64 (a2:Int)])∧(∀q,mget m3 q=if dirP q=L[i]then mget (crashD picks Di (Di.stays,a1) L[i]).1 q else none)∧(a2=(crashD picks Di (Di.stays,a1) L[i]).2)∧Mo (Ms [(sbB+1),(H0.size+1)]) af H) (fun _ bh _=>?_) ?_
  ·
   have am:Mo (Ms [(sbB+1),(H0.size+1)]) af af:=Mo.refl _ _;have ar:=Nx.refl (sbB+1) af.size;have ay:=Nx.refl (H0.size+1) af.size;refine CW.sr (fun b2=>?_);refine LR.m1 ?_;refine LR.n1 ?_;refine LR.v1 (Y.FA vd.pt rfl u'99 rfl s'97) ?_;refine LR.v1 (Y.load1 (vd.pt.drop 2) rfl a'97 rfl) ?_;refine LR.v1 (Y.len hcr.rd rfl u'97 rfl) ?_;refine LR.v1 (Y.gtr rfl rfl rfl) (LR.nil (b2 _ _ ?_));refine CW.condp rfl (fun b3=>?_) (fun b3=>?_)
   ·
    refine CW.s1 (fun b4=>?_);refine CW.region_any (fun Hq=>Mo (Ms [(H0.size+1)]) af Hq) [] rfl ?_;have au:Mo (Ms [(H0.size+1)]) af af:=Mo.refl _ _;have bi:=Nx.refl (H0.size+1) af.size;refine LH.m1 0 rfl au ?_;refine LH.n1 1 rfl au ?_;refine LH.t1 2 rfl (fun Hq hq=>Y.fieldAddr (vd.upL hq (DL.o ax.symm)).pt rfl u'99 rfl rfl s'97 (by decide) rfl) au ?_;refine LH.t1 3 rfl (fun Hq hq=>Y.load1 ((vd.upL hq (DL.o ax.symm)).pt.drop 2) rfl a'97 rfl) au ?_;refine LH.m1 4 rfl au ?_;refine LH.m1 5 rfl au ?_;refine LH.n1 6 rfl au ?_;refine LH.t1 7 rfl (fun Hq hq=>Y.fieldAddr (vd.upL hq (DL.o ax.symm)).pt rfl u'99 rfl rfl s'97 (by decide) rfl) au ?_;refine LH.t1 8 rfl (fun Hq hq=>Y.load1 ((vd.upL hq (DL.o ax.symm)).pt.drop 2) rfl a'97 rfl) au ?_;refine LH.t1 9 rfl (fun Hq hq=>Y.len (hcr.upL hq (DL.o a3.symm)).rd rfl u'97 rfl) au ?_;refine LH.t1 10 rfl (fun Hq hq=>Y.cast (v2:= .int .i64 (((Di.chgs L[i]).length+1:Nat):Int)) (Y.addi (a:=((Di.chgs L[i]).length:Int)) (b:=1) rfl rfl rfl (by omega)) (ivv (by omega))) au ?_;refine LH.m1 14 rfl au ?_;refine LH.o1 11 ?_;refine LO.call rfl rfl c'38 rfl (Wd.u rfl) rfl rfl (next_ct G H0.size a1 pv picks ((Di.chgs L[i]).length+1) w0 _ hp hpk (bf_hpk.mono (by omega)) (bD) (by omega) (by omega) hpw) (fun el a_ dH=>?_);obtain⟨rfl,hp,aF⟩:=dH;replace vd:=vd.upL aF (DL.o ax.symm);replace hsm:=hsm.upL aF (DL.o bg.symm);replace hcr:=hcr.upL aF (DL.o a3.symm);replace am:=am.trL aF (MIL.o (MI.r ay));replace au:=au.trL aF (MIL.o (MI.r bi));have em:=aF.size;obtain⟨kk,hkk⟩:∃kk,kk=pickN picks a1 ((Di.chgs L[i]).length+1):=⟨_,rfl⟩;have hkl:=pickN_lt picks a1 (m:=(Di.chgs L[i]).length+1) (by omega);rw[←hkk]at hkl;refine⟨.inr au,LH.narrow (SH2:=fun Hq=>Mo (Ms [(H0.size+1)]) a_ Hq) (fun Hq hq=>au.trL hq (MIL.o (MI.r bi))) ?_⟩;have au:Mo (Ms [(H0.size+1)]) a_ a_:=Mo.refl _ _;refine LH.e (g:=fun v=>v) 12 (by kernel_rfl) rfl (by kernel_rfl) (by kernel_rfl) (by kernel_rfl) (Y.slice hcr.rd (0) (kk) rfl u'97 s'103 rfl (.inl ⟨rfl,rfl⟩) (.inr ⟨_,_,_,rfl,rfl,(by rw[hkk])⟩) (by omega) (by omega)) (Wd.u rfl) rfl rfl au (fun dI rd57=>?_);refine LH.t1 13 rfl (fun Hq hq=>Y.cast (v2:= .int .i64 (kk:Int)) (Y.len (rd57.upL hq (DFL.cons (DF.of a3.symm) DFL.nil)) rfl u'97 rfl) (ivv (by simp;omega))) au ?_;refine LH.done (by kernel_rfl) ?_;refine b4 _ _ (CW.block (fun _ _ b5 _=>?_))
    refine CW.loop (fun(s_:(Nat)×(Nms))=>match s_ with|(i2,m2)=>[(0,ptr b),(5,.pointer (some ⟨H0.size,0,none⟩)),(6,aZ.v),(9,ptr db),(27,aZ.v),(28,.int .i64 (L.length:Int)),(29,.int .i64 (i:Int)),(57,dI),(58,.int .i64 (kk:Int)),(59,.int .i64 (i2:Int))])
     (fun(i2,m2) (H:Heap)=>(Mp H Str (fvl g1.fb) sbB m2)∧(i2≤kk)∧(∀q,mget m2 q=if dirP q=L[i]then mget (apl (((Di.chgs L[i]).take kk).take i2) Di.stays) q else none)∧Mo (Ms [(sbB+1)]) a_ H)
     (fun(i2,m2)=>kk-i2) (0,smB) ⟨rfl,rfl,rfl,rfl,rfl,rfl,rfl,rfl,rfl,rfl,trivial⟩ ?_ ?_
    ·
     exact⟨hsm,(by omega),fun q=>hdB.es q,Mo.refl _ _⟩
    rintro⟨i2,m2⟩ bI dJ eo b6 b7;obtain⟨hsm,hi2,hm2,ah⟩:=dJ;replace hp:=hp.upL ah (DL.o bg);replace vd:=vd.upL ah (DL.o aR);replace rd57:=rd57.upL ah (DFL.cons (DF.of b1.symm) DFL.nil);replace am:=am.trL ah (MIL.o (MI.r ar));have ep:=ah.size;have az:=Nx.refl (sbB+1) a_.size;refine CW.sr (fun b8=>?_);refine LR.v1 (Y.lss rfl rfl rfl) (LR.nil (b8 _ _ ?_));refine CW.s2 (fun b9 b_=>?_);refine CW.condp rfl (fun dK=>?_) (fun dK=>?_)
    ·
     have hi2l:i2<kk:=by omega
     have hi2c:i2<((Di.chgs L[i]).take kk).length:=by rw[List.length_take];omega
     obtain⟨c2,hc2⟩:∃c2,c2=((Di.chgs L[i]).take kk)[i2]:=⟨_,rfl⟩;have hcm:=chgs_mem (List.mem_of_mem_take (hc2▸List.getElem_mem hi2c:c2∈(Di.chgs L[i]).take kk));have hcl:(c2.g≠[]→dirP c2.g=L[i])∧∀j,c2.f=some j→dirP c2.n=L[i]:=⟨fun hg=>by rw[dir_g hg];exact hcm.2,fun j hj=>by rw[hB.ld c2 (hM.lg c2 hcm.1) j hj];exact hcm.2⟩;refine CW.skip (b9 _ _ (CW.s1 (fun ca=>CW.block (fun _ cb _ _=>CW.sr (fun cc=>?_)))));refine LR.e1 (g:=fun ad=> .pointer (some ad)) (Y.indexAddrF rd57 (i2) rfl u'97 s'103 rfl rfl (by first|rfl|omega) (by simp;omega)) fun dL cd=>?_;refine LR.v1 (Y.cast (v2:= .agg (fC g1.fb c2).toArray) (Y.loadN cd.pt rfl a'103 s'103 (fC_len _ _) rfl) (by rw[hc2];simp)) ?_;refine LR.z1 (Z.allocv rfl z'103) fun bJ dM dN=>?_;obtain⟨rfl,bJ,aS,dO,ce⟩:=dN;have dg:dM.size=bI.size+1:=by rw[ce];simp
     have cf:Dj (db+1) (bI.size+1):=Dj.new vd.lt;have cg:Dj (sbB+1) (bI.size+1):=Dj.new hsm.lt;have ci:Nx 0 a_.size (bI.size+1):=Nx.new ah.size;replace vd:=vd.nw aS;replace hsm:=hsm.nw aS;replace ah:=ah.trN aS;have er:=aS.size;refine LR.s1 (S.var bJ (_) (fC g1.fb c2) rfl rfl rfl rfl (fC_one _ _) s'103 (fC_len _ _) (by decide) ((splice_all2 (fC_len _ _).symm))) fun dh bj=>?_;obtain⟨bJ,ai⟩:=bj;replace ai:=ai.md1;replace vd:=vd.upL ai (DL.o cf);replace hsm:=hsm.upL ai (DL.o cg);replace ah:=ah.trL ai (MIL.o (MI.q ci));have et:=ai.size;refine LR.nil (cc _ _ ?_);refine CW.region_tail 6 rfl (by kernel_rfl) (fun T11 hT11=>?_);refine LR.m1 ?_;refine LR.n1 ?_;refine LR.v1 (Y.FA vd.pt rfl u'99 rfl s'96) ?_;refine LR.v1 (Y.FA vd.pt rfl u'96 rfl s'94) ?_;refine LR.v1 (Y.load1 (vd.pt.drop 1) rfl a'94 rfl) ?_;refine LR.v1 (Y.loadN bJ.pt rfl a'103 s'103 (fC_len _ _) rfl) ?_;refine LR.nil (hT11 _ ?_);refine LR.call rfl c'39 rfl (Wd.u rfl) rfl rfl (put_ct g1.fb sbB m2 c2 w0 _ hsm) (fun eu ev dP=>?_);obtain⟨hsm,bl⟩:=dP;replace ah:=ah.trL bl (MIL.o (MI.r az));have ew:=bl.size;refine LR.nil (cb _ _ (ca _ _ (CW.region ?_)));refine LR.v1 (Y.addi rfl rfl rfl (by omega)) ?_;refine LR.m1 (LR.nil ?_);refine QN.sub (b6 (i2+1,Chg.apM c2 m2) _ ?_ ?_) ⟨rfl,rfl,rfl,rfl,rfl,(iv (by omega)),(iv (by omega)),rfl,(iv (by omega)),(iv (by omega)),trivial⟩
     ·exact⟨hsm,(by omega),fun q=>by
       rw[mget_apM,hm2,List.take_succ_eq_append_getElem hi2c,apl_app,←hc2];by_cases hq:dirP q=L[i]
       ·rw[if_pos hq,if_pos hq];exact(mget_ap c2 _ q).symm
       ·rw[if_neg hq,if_neg hq];exact at_out (fun j hj=>hcl.2 j hj) hcl.1 hq,ah⟩
     ·first|omega|(simp only;omega)|(simp;omega)
    ·
     refine CW.exit (b_ (.exit 2) nofun _ _ (b7 (.exit 2) nofun _ _ (b5 _ _ ?_)));have hne:Di.chgs L[i]≠[]:=fun e=>by rw[e]at b3;simp at b3
     have hi2e:i2=kk:=by omega
     refine QN.sub (bh (m2,a1+1) _ ?_) ⟨rfl,rfl,rfl,rfl,rfl,(iv (by omega)),(iv (by omega)),trivial⟩;exact⟨hsm,hp,fun q=>by rw[hm2,crashD_st,hi2e,←hkk,List.take_take,Nat.min_self],by unfold crashD;rw[if_neg hne],am⟩
   ·
    refine CW.skip ?_;have hne:Di.chgs L[i]=[]:=List.eq_nil_of_length_eq_zero (by omega);refine QN.sub (bh (smB,a1) _ ?_) ⟨rfl,rfl,rfl,rfl,rfl,(iv (by omega)),(iv (by omega)),trivial⟩;exact⟨hsm,hp,fun q=>by rw[crashD_skip hne];exact hdB.es q,by rw[crashD_skip hne],am⟩
  ·
   rintro⟨m3,a2⟩ bK aJ;obtain⟨hsm,hp,hm3,ha2,ac⟩:=aJ;replace vd:=vd.upL ac (DL.cons aR (DL.o ax.symm));replace ag:=ag.trL ac (MIL.cons (bY) (MIL.o (MI.r aB)));replace hop:=hop.trL ac (MIL.cons (MI.r bZ) (MIL.o (MI.r b0)));have dQ:=ac.size;refine CW.region ?_;refine LR.m1 ?_;refine LR.m1 ?_;refine LR.m1 ?_;refine LR.n1 ?_;refine LR.v1 (Y.FA vd.pt rfl u'99 rfl s'96) ?_;refine LR.v1 (Y.FA vd.pt rfl u'96 rfl s'94) ?_;refine LR.v1 (Y.load1 (vd.pt.drop 1) rfl a'94 rfl) ?_;refine LR.call rfl c'40 rfl (Wd.u rfl) rfl rfl (mclone_ct sbB m3 w0 _ hsm) (fun ex ey dR=>?_);obtain⟨aP,rfl,hm78,aT,aG⟩:=dR;have cj:Dj (H0.size+1) (aP+1):=Dj.app (Dj.z) hp.lt aT;have bm:Dj (db+1) (aP+1):=Dj.app (Dj.z) vd.lt aT;have ck:Nx 0 aY.size (aP+1):=Nx.tr (Nx.refl 0 _) aT ag.size;have cl:Nx 0 af.size (aP+1):=Nx.tr (Nx.refl 0 _) aT hop.size;replace hp:=hp.nw aG;replace vd:=vd.nw aG;replace hsm:=hsm.nw aG;replace ag:=ag.trN aG;replace hop:=hop.trN aG;have dS:=aG.size;have bn:=hm78.le;refine LR.n1 ?_;refine LR.v1 (Y.FA vd.pt rfl u'99 rfl s'96) ?_;refine LR.v1 (Y.FA vd.pt rfl u'96 rfl s'94) ?_;refine LR.s1 (S.var1 vd 0 ([.map (some aP),.map (some sbB),svB.v]) rfl rfl rfl (rfl) s'94 (by simp) (rfl)) fun cm a5=>?_;obtain⟨vd,aa⟩:=a5;replace aa:=aa.md1;replace hp:=hp.upL aa (DL.o ax);replace hsm:=hsm.upL aa (DL.o aR.symm);replace hm78:=hm78.upL aa (DL.o bm.symm);replace ag:=ag.trL aa (MIL.cons (be) MIL.nil);replace hop:=hop.trL aa (MIL.o (MI.r bf));have dT:=aa.size;refine LR.n1 ?_;refine LR.v1 (Y.FA vd.pt rfl u'99 rfl s'97) ?_;refine LR.s1 (S.var1 vd 2 ([.map (some aP),.map (some sbB),.slice none 0 0]) rfl rfl rfl (rfl) s'97 (by simp) (rfl)) fun cn a6=>?_;obtain⟨vd,ab⟩:=a6;replace ab:=ab.md1;replace hp:=hp.upL ab (DL.o ax);replace hsm:=hsm.upL ab (DL.o aR.symm);replace hm78:=hm78.upL ab (DL.o bm.symm);replace ag:=ag.trL ab (MIL.cons (be) MIL.nil);replace hop:=hop.trL ab (MIL.o (MI.r bf));have dU:=ab.size;refine LR.nil ?_;have co:DL (H0.size+1) ((aP+1)::K1):=(DL.cons (cj) (aE));have cp:NxK K aY.size ((aP+1)::K1):=(NxK.cons (ck) (a0));replace hf:=dcrash hf (aE) hdb1 hdB hM.ast (fun c hc=>hB.ld c (hM.lg c hc)) hop vd hsm hm78 hm3 (DL.nxK hf.bk (cl));have aq:=hf.bk;refine bU _ _ (bT _ _ (CW.region ?_));refine LR.v1 (Y.addi rfl rfl rfl (by omega)) ?_;refine LR.m1 (LR.nil ?_);refine QN.sub (dB (i+1,(aP+1)::K1,{g1 with ρ:=uprk g1.ρ (aP+1) (.now L[i])},stepM picks Di a1 L[i],a2) _ ?_ ?_) ⟨rfl,rfl,rfl,rfl,(iv (by omega)),(iv (by omega)),trivial⟩
   ·exact⟨hf,hp,(by omega),by rw[List.take_succ_eq_append_getElem hil,ha];exact hst.1,by rw[List.take_succ_eq_append_getElem hil,←hst.2,←ha];exact ha2,bb,cp,co,ag⟩
   ·first|omega|(simp only;omega)|(simp;omega)
 ·
  have hie:i=L.length:=by omega
  rw[hie,List.take_length]at hM ha;obtain⟨e1,e2,e3,e4⟩:=hM.fin hL.1 (fun n hn=>Classical.byContradiction (fun h=>hn (habs0 n (hno n h)).2)) (fun q hq=>(habs0 _ (hno _ hq)).1 q rfl) hB.ld;have hDl:Di.now.length≤549755813888:=by rw[e2];omega
  refine CW.exit (dF (.exit 0) nofun _ _ (dC (.exit 0) nofun _ _ (dz _ _ ?_)));refine dx _ _ (CW.sr (fun cq=>?_));refine LR.z1 (Z.makeMp Str (fvl g.fb) rfl) fun ez cr dV=>?_;obtain⟨rfl,hall,aH,dW,cs⟩:=dV;have di:cr.size=af.size+1:=by rw[cs];simp
  have a7:DL (af.size+1) K1:=DL.newK hf.bk;have ct:=(DF.new (bf_hpk.mono hm0.size):DF _ (af.size+1));have cu:Dj bR (af.size+1):=Dj.new ows.le;have bo:Dj (H0.size+1) (af.size+1):=Dj.new hp.lt;have cv:Nx 0 H0.size (af.size+1):=Nx.new hm0.size;replace hf:=hf.nw aH;replace hpk:=hpk.nw aH;replace ows:=ows.nw aH;replace hp:=hp.nw aH;replace hm0:=hm0.trN aH;have dX:=aH.size;have bp:=hall.lt;refine LR.an ?_;refine cq _ _ (CW.s1 (fun cw=>CW.sr (fun cx=>?_)));refine LR.m1 ?_;refine LR.v1 (Y.len ows.rd rfl u'87 rfl) ?_;refine LR.m1 (LR.nil (cx _ _ ?_));refine CW.block (fun _ _ cy _=>?_)
  refine CW.loop (fun(s_:(Nat)×(Nms))=>match s_ with|(i3,ma)=>[(0,ptr b),(5,.pointer (some ⟨H0.size,0,none⟩)),(12,.map (some af.size)),(86,aZ.v),(87,.int .i64 (L.length:Int)),(88,.int .i64 (i3:Int))])
   (fun(i3,ma) (H:Heap)=>(Mp H Str (fvl g.fb) af.size ma)∧(i3≤L.length)∧(∀q,mget ma q=if dirP q∈L.take i3 then mget Di.now q else none)∧Mo (Ms [(af.size+1)]) cr H)
   (fun(i3,ma)=>L.length-i3) (0,[]) ⟨rfl,rfl,rfl,rfl,rfl,rfl,trivial⟩ ?_ ?_
  ·
   exact⟨hall,(by omega),fun q=>by simp[mget],Mo.refl _ _⟩
  rintro⟨i3,ma⟩ eA dY eB cz cA;obtain⟨hall,hi3,hma,av⟩:=dY;replace hf:=hf.upL av (DKL.cons a7 DKL.nil);replace hpk:=hpk.upL av (DFL.o ct);replace ows:=ows.upL av (DL.o cu);replace hp:=hp.upL av (DL.o bo);replace hm0:=hm0.trL av (MIL.o (MI.q cv));have dZ:=av.size;have aw:=Nx.refl (af.size+1) cr.size;refine CW.sr (fun cB=>?_);refine LR.v1 (Y.lss rfl rfl rfl) (LR.nil (cB _ _ ?_));refine CW.s2 (fun cC cD=>?_);refine CW.condp rfl (fun d0=>?_) (fun d0=>?_)
  ·
   have hil3:i3<L.length:=by omega
   have hni3:L[i3]∉L.take i3:=fun hq=>by
    have h9:=hLn;rw[←List.take_append_drop i3 L,List.nodup_append]at h9;exact h9.2.2 _ hq _ (by rw[List.drop_eq_getElem_cons hil3];exact List.mem_cons_self) rfl
   have hmem_dc:L[i3]∈g.dm.map (·.1):=(hL.2 _).1 (List.getElem_mem hil3)
   obtain⟨dc,hdc⟩:∃dc,mget g.dm L[i3]=some dc:=by
    rw[←isSome_iff_key]at hmem_dc
    cases hq:mget g.dm L[i3]with
    |none=>rw[hq]at hmem_dc;cases hmem_dc
    |some dc=>exact⟨dc,rfl⟩
   have hdb2:mget g1.dm L[i3]=some dc:=by rw[bb.2];exact hdc
   obtain⟨nbC,sbC,kcC,svC,nmC,smC,hdC⟩:=hf.dirs _ dc hdb2;refine CW.skip (cC _ _ (CW.s1 (fun cE=>CW.block (fun _ cF _ _=>CW.sr (fun cG=>?_)))));refine LR.v1 (Y.owAddr ows (i3) rfl u'87 s'9 rfl rfl (by first|rfl|omega) (by first|omega|(simp;omega)|(simp;done))) ?_;refine LR.v1 (Y.load1 (ows.pt (j:=i3) (by first|omega|(simp;omega)|(simp;done))) rfl a'9 rfl) ?_;refine LR.an ?_;refine cG _ _ (CW.region ?_);refine LR.m1 ?_;refine LR.m1 ?_;refine LR.n1 ?_;refine LR.v1 (Y.FA hf.vb.pt rfl u'73 rfl s'66) ?_;refine LR.v1 (Y.load1 (hf.vb.pt.drop 2) rfl a'66 rfl) ?_;refine LR.m1 ?_;refine LR.v1 (Y.cast (v2:=ptr dc) (look_p adO hf.hm.mo (fun _=>rfl) keyStr rfl u'66 Tryz.underlying9 z'92 rfl rfl) (by rw[hdb2];rfl)) ?_;refine LR.n1 ?_;refine LR.v1 (Y.FA hdC.vd.pt rfl u'99 rfl s'96) ?_;refine LR.v1 (Y.FA (hdC.vd.pt.drop 0) rfl u'96 rfl s'94) ?_;refine LR.v1 (Y.load1 ((hdC.vd.pt.drop 0).drop 0) rfl a'94 rfl) ?_;have hmn:=(show Mp _ Str (fvl g.fb) nbC nmC from bb.1▸hdC.hn);have bL:=hmn.lt;have cH:Dj (nbC+1) (af.size+1):=(DL.at (a7) (hf.km1 hdC.rn (by simp))).symm;refine LR.call rfl c'41 rfl (Wd.u rfl) rfl rfl (copy_ct (fvl g.fb) af.size nbC ma nmC w0 _ hall hmn (cH)) (fun d1 d2 cI=>?_);obtain⟨m103,rfl,hall,hm103,aV⟩:=cI;replace av:=av.trL aV (MIL.o (MI.r aw));have d3:=aV.size;refine LR.nil (cF _ _ (cE _ _ (CW.region ?_)));refine LR.v1 (Y.addi rfl rfl rfl (by omega)) ?_;refine LR.m1 (LR.nil ?_);refine QN.sub (cz (i3+1,m103) _ ?_ ?_) ⟨rfl,rfl,rfl,rfl,(iv (by omega)),(iv (by omega)),trivial⟩
   ·exact⟨hall,(by omega),fun q=>by
     have hmm:dirP q∈L.take (i3+1)↔dirP q∈L.take i3∨dirP q=L[i3]:=by rw[List.take_succ_eq_append_getElem hil3,List.mem_append,List.mem_singleton]
     rw[hm103,hdC.en,hma];by_cases hq:dirP q=L[i3]
     ·have h9:dirP q∉L.take i3:=by rw[hq];exact hni3
      rw[if_pos hq,if_neg h9,if_pos (hmm.2 (.inr hq))];cases mget Di.now q<;>rfl
     ·rw[if_neg hq];by_cases h9:dirP q∈L.take i3
      ·rw[if_pos h9,if_pos (hmm.2 (.inl h9))]
      ·rw[if_neg h9,if_neg (fun h=>(hmm.1 h).elim h9 hq)],av⟩
   ·first|omega|(simp only;omega)|(simp;omega)
  ·
   have hi3e:i3=L.length:=by omega
   rw[hi3e,List.take_length]at hma
   replace hma:∀q,mget ma q=mget Di.now q:=fun q=>by
    rw[hma];by_cases h:dirP q∈L
    ·rw[if_pos h]
    ·rw[if_neg h,hM.nw2 q h,((habs0 _ (hno _ h)).1 q rfl).1]
   have hmal:ma.length≤Di.now.length:=by
    have h9:=nodup_le (b:=Di.now.map (·.1)) hall.mo.nodup (fun k hk=>by rw[←isSome_iff_key]at hk⊢;rw[←hma];exact hk);rwa[List.length_map,List.length_map]at h9
   refine CW.exit (cD (.exit 4) nofun _ _ (cA (.exit 4) nofun _ _ (cy _ _ ?_)));refine cw _ _ (CW.s1 (fun cJ=>CW.sr (fun cK=>?_)));refine LR.m1 ?_;refine LR.call rfl c'42 rfl (Wd.u rfl) rfl rfl (keysN af.size w0 _) (fun d4 d5 cL=>?_);obtain⟨by_,rfl,dj,hkx2,ao⟩:=cL;replace hf:=hf.nw ao;replace hpk:=hpk.nw ao;replace hp:=hp.nw ao;replace hall:=hall.nw ao;replace hm0:=hm0.trN ao;have d6:=ao.size;have bM:=dj.le;refine LR.call rfl c'36 rfl (Wd.u rfl) rfl rfl (sortedN by_ af.size (fvl g.fb) ma w0 _ dj hall (by omega)) (fun d7 aU cM=>?_);obtain⟨cN,bq,P,rfl,owp,aW,hP,ap⟩:=cM;have cO:DL bq K1:=DL.app2 (DL.zK) hf.bk aW;have cP:Dj (H0.size+1) bq:=Dj.app (Dj.z) hp.lt aW;replace hf:=hf.nw ap;replace hpk:=hpk.nw ap;replace hp:=hp.nw ap;replace hall:=hall.nw ap;replace hm0:=hm0.trN ap;have d8:=ap.size;have bN:=owp.le;have hPe:P=Di.now.map (·.1):=rise_ext hP.1 hM.an.rise (fun q=>by rw[hP.2,←isSome_iff_key,←isSome_iff_key,hma]);have hPl:P.length=Di.now.length:=by rw[hPe,List.length_map]
   refine LR.v1 (Y.len owp.rd rfl u'87 rfl) ?_;refine LR.m1 (LR.nil (cK _ _ ?_));refine CW.block (fun _ _ cQ _=>?_)
   refine CW.loop (fun(s_:(Nat)×(List Nat)×(Gh)×(List Fdt)×(Nat))=>match s_ with|(j,K4,g4,fs4,a4)=>[(0,ptr b),(5,.pointer (some ⟨H0.size,0,none⟩)),(12,.map (some af.size)),(107,cN.v),(108,.int .i64 (P.length:Int)),(109,.int .i64 (j:Int))])
    (fun(j,K4,g4,fs4,a4) (H:Heap)=>(PDk K4 g4 H b {Di with fs:=fs4})∧(Var 86 H H0.size [pv.v,.int .i64 (a4:Int)])∧(j≤P.length)∧((fs4,a4)=(Di.now.take j).foldl (crashF picks) (D.fs,a1))∧(g4.fb=g.fb)∧(NxK K1 aU.size K4)∧(DL (H0.size+1) K4)∧Mo (Ms (K1++[(H0.size+1)])) aU H)
    (fun(j,K4,g4,fs4,a4)=>P.length-j) (0,K1,g1,D.fs,a1) ⟨rfl,rfl,rfl,rfl,rfl,rfl,trivial⟩ ?_ ?_
   ·
    exact⟨(by have h9:=hM.same.2.2.1;rw[←h9];exact hf),hp,(by omega),rfl,bb.1,NxK.refl _ _,aE,Mo.refl _ _⟩
   rintro⟨j,K4,g4,fs4,a4⟩ eC d9 eD br cR;obtain⟨hf,hp,hj,hF,bO,ae,aj,ak⟩:=d9;have bs:=DFL.appK (bc) (bf_hpk.mono hm0.size) ae;have aK:NxK K H0.size K4:=NxK.tr (bd) ae hm0.size;replace hpk:=hpk.upL ak (DFL.app bc (DFL.o bD));replace hall:=hall.upL ak (DL.app a7 (DL.o bo.symm));replace owp:=owp.upL ak (DL.app cO (DL.o cP.symm));replace hm0:=hm0.trL ak (MIL.app (MIL.ofK (bd) (by intro k hk;simp[hk])) (MIL.o (MI.q df)));have d_:=ak.size;have aq:=hf.bk;have aA:=aj;have aL:=ae;have aC:=Nx.refl (H0.size+1) aU.size;have hFl:=crashF_len picks (Di.now.take j) (D.fs,a1);have hFa:=crashF_at picks (Di.now.take j) (D.fs,a1);have hFf:=crashF_file picks D.fs (Di.now.take j) (D.fs,a1) (fun i=> .inl rfl);rw[←hF]at hFl hFa hFf;simp only[List.length_take]at hFl hFa hFf;refine CW.sr (fun cS=>?_);refine LR.v1 (Y.lss rfl rfl rfl) (LR.nil (cS _ _ ?_));refine CW.s2 (fun cT cU=>?_);refine CW.condp rfl (fun cV=>?_) (fun cV=>?_)
   ·
    have hjl:j<P.length:=by omega
    have hjn:j<Di.now.length:=by omega
    have hPj:P[j]=Di.now[j].1:=by simp only[hPe,List.getElem_map]
    have hgj:=mget_of_mem hM.an.nodup (show(Di.now[j].1,Di.now[j].2)∈Di.now from List.getElem_mem hjn);have hid:=hf.ids.1 _ _ hgj;have hbi:g4.fb.getD Di.now[j].2 0=g.fb.getD Di.now[j].2 0:=by rw[bO]
    obtain⟨nvD,svD,wvD,kwD,lwD,hfiD⟩:=hf.fil _ hid;have hlwD:lwD.length=(fget fs4 Di.now[j].2).w.length:=by have h9:=congrArg List.length hfiD.lw;rw[List.length_map]at h9;exact h9
    refine CW.skip (cT _ _ (CW.s1 (fun bt=>CW.block (fun _ bu _ _=>CW.sr (fun cW=>?_)))));refine LR.v1 (Y.owAddr owp (j) rfl u'87 s'9 rfl rfl (by first|rfl|omega) (by first|omega|(simp;omega)|(simp;done))) ?_;refine LR.v1 (Y.load1 (owp.pt (j:=j) (by first|omega|(simp;omega)|(simp;done))) rfl a'9 rfl) ?_;refine LR.an ?_;refine cW _ _ (CW.sr (fun cX=>?_));refine LR.m1 ?_;refine LR.m1 ?_;refine LR.v1 (Y.cast (v2:=fvl g.fb Di.now[j].2) (look_p (fun i=>⟨g.fb.getD i 0,0,none⟩) hall.mo (fun _=>rfl) keyStr rfl u'94 Tryz.underlying9 z'101 rfl rfl) (by rw[hPj,hma,hgj];rfl)) ?_;refine LR.an ?_;refine cX _ _ (CW.sr (fun cY=>?_));refine LR.m1 ?_;refine LR.n1 ?_;refine LR.v1 (Y.fieldAddr (hfiD.atb hbi).pt rfl u'112 rfl rfl s'110 (by decide) rfl) ?_;refine LR.v1 (Y.load1 ((hfiD.atb hbi).pt.drop 2) rfl a'110 rfl) ?_;refine LR.v1 (Y.cast (v2:= .int .i64 ((fget fs4 Di.now[j].2).w.length:Int)) (Y.len hfiD.hw.rd rfl u'110 rfl) (by rw[hlwD])) ?_;refine LR.v1 (Y.gtr rfl rfl rfl) (LR.nil (cY _ _ ?_));refine CW.condp rfl (fun a8=>?_) (fun a8=>?_)
    ·
     have hwne:(fget fs4 Di.now[j].2).w≠[]:=fun e=>by rw[e]at a8;simp at a8
     have hfe:fget fs4 Di.now[j].2=fget D.fs Di.now[j].2:=(hFf _).resolve_right hwne;refine CW.region ?_;refine LR.v1 (Y.cast (v2:=fvl g4.fb Di.now[j].2) (Y.move rfl rfl) (by rw[bO])) ?_;refine LR.m1 ?_;refine LR.call rfl c'43 rfl (Wd.u rfl) rfl rfl (lose_ct K4 g4 b {Di with fs:=fs4} G H0.size a4 pv picks Di.now[j].2 w0 _ hf hp hpk (bf_hpk.mono (by omega)) (bD) (aA) (bs) hid (by show(fget fs4 _).w.length≤_;rw[hfe];have:=hB.w Di.now[j].2;omega) (by show ∀y∈(fget fs4 _).w,_;rw[hfe];intro y hy;have:=hB.wd _ y hy;omega) (by show ∀q,(onAll ((fget fs4 _).w.take q) (fget fs4 _).stays).length≤_;rw[hfe];intro q;have:=hB.pf Di.now[j].2 q;omega) (by show waysF (fget fs4 _).w≤_;rw[hfe];exact hwy _) (by omega) hpw) (fun ea eb cZ=>?_);have bv:=hp.lt;obtain⟨a9,c0,rfl,hf,aM,hp,bw,aX⟩:=cZ;have bz:DL (H0.size+1) a9:=DL.appK (aA) bv aM;have bA:NxK K1 aU.size a9:=NxK.tr (aL) aM ak.size;replace ak:=ak.trL aX (MIL.app (MIL.ofK (aL) (by intro k hk;simp[hk])) (MIL.o (MI.r aC)));have ec:=aX.size;have aq:=hf.bk;refine LR.nil (bu _ _ (bt _ _ (CW.region ?_)));refine LR.v1 (Y.addi rfl rfl rfl (by omega)) ?_;refine LR.m1 (LR.nil ?_);refine QN.sub (br (j+1,a9,c0,fs4.set Di.now[j].2 ⟨wayW (fget fs4 Di.now[j].2).w (fget fs4 Di.now[j].2).stays (pickN picks a4 (waysF (fget fs4 Di.now[j].2).w)),wayW (fget fs4 Di.now[j].2).w (fget fs4 Di.now[j].2).stays (pickN picks a4 (waysF (fget fs4 Di.now[j].2).w)),[]⟩,a4+1) _ ?_ ?_) ⟨rfl,rfl,rfl,rfl,(iv (by omega)),(iv (by omega)),trivial⟩
     ·exact⟨hf,hp,(by omega),by rw[List.take_succ_eq_append_getElem hjn,List.foldl_append,←hF];show _=crashF picks (fs4,a4) Di.now[j];unfold crashF;simp only;rw[if_neg hwne],bw.1.trans bO,bA,bz,ak⟩
     ·first|omega|(simp only;omega)|(simp;omega)
    ·
     refine CW.skip (bu _ _ (bt _ _ (CW.region ?_)));refine LR.v1 (Y.addi rfl rfl rfl (by omega)) ?_;refine LR.m1 (LR.nil ?_);refine QN.sub (br (j+1,K4,g4,fs4,a4) _ ?_ ?_) ⟨rfl,rfl,rfl,rfl,(iv (by omega)),(iv (by omega)),trivial⟩
     ·exact⟨hf,hp,(by omega),by rw[List.take_succ_eq_append_getElem hjn,List.foldl_append,←hF];show _=crashF picks (fs4,a4) Di.now[j];unfold crashF;simp only;rw[if_pos (List.eq_nil_of_length_eq_zero (by omega))],bO,aL,aA,ak⟩
     ·first|omega|(simp only;omega)|(simp;omega)
   ·
    have hje:j=Di.now.length:=by omega
    rw[hje,List.take_length]at hF;have hAe:(fs4,a4)=D.crashA picks:=by rw[hF];unfold Dk.crashA;rw[e2,ha,e4]
    refine CW.exit (cU (.exit 6) nofun _ _ (cR (.exit 6) nofun _ _ (cQ _ _ ?_)));refine cJ _ _ (CW.sr (fun c_=>?_));refine LR.m1 ?_;refine LR.m1 ?_;refine LR.n1 ?_;refine LR.v1 (Y.FA hf.vb.pt rfl u'73 rfl s'3) ?_;refine LR.s1 (pd_left hf 0 rfl rfl rfl s'3 (by omega)) fun dk bB=>?_;obtain⟨hf,aN⟩:=bB;replace hp:=hp.upL aN (aA);replace hm0:=hm0.trL aN (MIL.ofK (aK) (by intro k hk;simp[hk]));refine LR.n1 ?_;refine LR.v1 (Y.FA hf.vb.pt rfl u'73 rfl s'4) ?_;refine LR.s1 (pd_alive hf rfl rfl rfl rfl s'4) fun dl bC=>?_;obtain⟨hf,aO⟩:=bC;replace hp:=hp.upL aO (aA);replace hm0:=hm0.trL aO (MIL.ofK (aK) (by intro k hk;simp[hk]));refine LR.nil (c_ _ _ (CW.sr (fun da=>?_)));refine LR.m1 ?_;refine LR.n1 ?_;refine LR.v1 (Y.FA hp.pt rfl u'86 rfl s'3) ?_;refine LR.v1 (Y.load1 (hp.pt.drop 1) rfl a'3 rfl) ?_;refine LR.an ?_;refine da _ _ ?_;refine CW.ret (hret .ret (.inr rfl) _ _ _ (res1 rfl rfl) ?_)
    exact⟨_,_,by rw[←hAe],by
     have h9:(D.crash picks)={{{Di with fs:=fs4}with left:=0}with dead:=false}:=by
      unfold Dk.crash;rw[←hAe,←e1];obtain⟨q1,q2,q3,q4,q5,q6⟩:=hM.same;obtain⟨c1,c2,c3,c4,c5,c6,c7,c8,c9⟩:=Di;simp only at q1 q2 q3 q4 q5 q6 e1 e2 e3;subst q1 q2 q4 e3;simp only[Dk.mk.injEq,true_and,and_true];rw[e2,e1]
     rw[h9];exact hf,aK,hm0⟩
end SimP

namespace SimQ
open E Go.RowKit SimA SimB SimC SimD SimE SimF SimG SimH SimI SimJ SimK SimL SimM SimN SimP
def Fsb(n:Nat)(x:Fdt):Prop:=x.now.length≤n∧x.stays.length≤n∧x.w.length≤n∧(∀y∈x.w,y.d.length≤n)∧∀j,(onAll (x.w.take j) x.stays).length≤n
theorem Fsb.mono{n m:Nat}{x:Fdt}(h:Fsb n x)(hm:n≤m):Fsb m x:=⟨Nat.le_trans h.1 hm,Nat.le_trans h.2.1 hm,Nat.le_trans h.2.2.1 hm,fun y hy=>Nat.le_trans (h.2.2.2.1 y hy) hm,fun j=>Nat.le_trans (h.2.2.2.2 j) hm⟩
theorem Fsb.nil(n:Nat):Fsb n ⟨[],[],[]⟩:=⟨Nat.zero_le _,Nat.zero_le _,Nat.zero_le _,nofun,fun j=>by simp[onAll]⟩
theorem Fsb.flat{n:Nat}{l:List UInt8}(h:l.length≤n):Fsb n ⟨l,l,[]⟩:=⟨h,h,Nat.zero_le _,nofun,fun j=>by simpa[onAll]using h⟩
def Inn(U:List Pth)(l:Nms):Prop:=∀q,(mget l q).isSome=true→q∈U
structure Bs (n:Nat) (D:Dk):Prop where
 an:Asc D.now
 ast:Asc D.stays
 lg:D.log.length≤n
 op:D.ops≤n
 fl:D.fs.length≤n
 f:∀i,Fsb n (fget D.fs i)
 un:∃U:List Pth,U.length≤n∧Inn U D.now∧Inn U D.stays∧∀c∈D.log,∀i,c.f=some i→c.n∈U
 ld:∀c∈D.log,∀i,c.f=some i→dirP c.n=c.dir
theorem Bs.mono{n m:Nat}{D:Dk}(h:Bs n D)(hm:n≤m):Bs m D:=⟨h.an,h.ast,Nat.le_trans h.lg hm,Nat.le_trans h.op hm,Nat.le_trans h.fl hm,fun i=>(h.f i).mono hm,by obtain⟨U,h1,h2⟩:=h.un;exact⟨U,Nat.le_trans h1 hm,h2⟩,h.ld⟩
theorem usedL_le{fs:List Fdt}{n:Nat}(h:∀i,(fget fs i).now.length≤n):∀l:Nms,usedL fs l≤l.length*n
 |[]=>by simp[usedL]
 |x::l=>by
  have h1:=usedL_le h l;have h2:=h x.2;unfold usedL at h1⊢;rw[List.map_cons,List.sum_cons,List.length_cons,Nat.add_mul];omega
theorem inn_len{U:List Pth}{l:Nms}(hA:Asc l)(h:Inn U l):l.length≤U.length:=by
 have:=nodup_le hA.nodup (fun k hk=>h k (isSome_iff_key.2 hk));rwa[List.length_map]at this
theorem Bs.bd{n:Nat}{D:Dk}(h:Bs n D)(hn:n≤1073741824):Bd 274877906944 D:=by
 obtain⟨U,h1,h2,h3,h4⟩:=h.un;have e1:=inn_len h.an h2;have e2:=inn_len h.ast h3;have e3:=usedL_le (fun i=>(h.f i).1) D.now;have e4:D.now.length*n≤1073741824*1073741824:=Nat.mul_le_mul (by omega) hn;exact⟨h.an,h.ast,by unfold Dk.used;omega,by have:=h.lg;omega,by have:=h.op;omega,fun i=>by have:=(h.f i).1;omega,fun i=>by have:=(h.f i).2.1;omega,fun i=>by have:=(h.f i).2.2.1;omega,fun i y hy=>by have:=(h.f i).2.2.2.1 y hy;omega,by omega,by omega,by have:=h.fl;omega,fun i j=>by have:=(h.f i).2.2.2.2 j;omega,h.ld⟩
theorem ways_bd{n:Nat}:∀{ws:List Wr},(∀y∈ws,y.d.length≤n)→(ws.map Wr.ways).sum≤ws.length*(2*n+1)
 |[],_=>by simp
 |w::ws,h=>by
  have h1:=ways_bd (ws:=ws) (fun y hy=>h y (List.mem_cons_of_mem _ hy));have h2:=h w List.mem_cons_self;have h3:w.ways≤2*n+1:=by unfold Wr.ways;omega
  rw[List.map_cons,List.sum_cons,List.length_cons,Nat.add_mul];omega
theorem Bs.wy{n:Nat}{D:Dk}(h:Bs n D)(hn:n≤536870912)(i:Nat):waysF (fget D.fs i).w≤2305843009213693952:=by
 unfold waysF;have h1:=ways_bd (h.f i).2.2.2.1;have h2:(fget D.fs i).w.length*(2*n+1)≤536870912*1073741825:=Nat.mul_le_mul (by have:=(h.f i).2.2.1;omega) (by omega);omega
theorem Bs.empty(cap most:Nat):Bs 0 (Dk.empty cap most):=
 ⟨List.Pairwise.nil,List.Pairwise.nil,Nat.le_refl _,Nat.le_refl _,Nat.le_refl _,fun i=>by show Fsb 0 (List.getD [] i _);simpa using Fsb.nil 0,⟨[],Nat.le_refl _,nofun,nofun,nofun⟩,nofun⟩
theorem Bs.begin{n:Nat}{D:Dk}(h:Bs n D):Bs (n+1) D.begin.2:=by
 obtain⟨e1,e2,e3,e4,e5,e6,e7⟩:=begin_same D;have h:=h.mono (Nat.le_succ n);exact⟨by rw[e4];exact h.an,by rw[e5];exact h.ast,by rw[e6];exact h.lg,by have:=Bs.op ‹Bs n D›;omega,by rw[e3];exact h.fl,by rw[e3];exact h.f,by rw[e4,e5,e6];exact h.un,by rw[e6];exact h.ld⟩
theorem inn_ap{U:List Pth}{l:Nms}{c:Chg}(h:Inn U l)(hc:∀i,c.f=some i→c.n∈U):Inn U (c.ap l):=fun q hq=>by
 rw[mget_ap]at hq;unfold Chg.at at hq
 cases hf:c.f with
 |none=>
  rw[hf]at hq;simp only at hq;split at hq
  ·cases hq
  ·exact h q hq
 |some i=>
  rw[hf]at hq;simp only at hq;split at hq
  ·rename_i e;rw[e];exact hc i hf
  ·split at hq
   ·cases hq
   ·exact h q hq
theorem inn_apl{U:List Pth}:∀{cs:List Chg} {l:Nms},Inn U l→(∀c∈cs,∀i,c.f=some i→c.n∈U)→Inn U (apl cs l)
 |[],l,h,_=>h
 |c::cs,l,h,hc=>inn_apl (cs:=cs) (inn_ap h (hc c List.mem_cons_self)) (fun d hd=>hc d (List.mem_cons_of_mem _ hd))
theorem Bs.put{n:Nat}{D:Dk}(h:Bs n D)(i:Nat){x:Fdt}(hx:Fsb n x):Bs n (D.putF i x):=
 ⟨h.an,h.ast,h.lg,h.op,by rw[fl_put];exact h.fl,fun j=>by
  by_cases hi:i<D.fs.length
  ·by_cases e:j=i
   ·subst e;rw[fget_put hi];exact hx
   ·show Fsb n ((D.fs.set i x).getD j _)
    rw[List.getD_eq_getElem?_getD,List.getElem?_set_ne (Ne.symm e),←List.getD_eq_getElem?_getD];exact h.f j
  ·show Fsb n ((D.fs.set i x).getD j _)
   rw[List.set_eq_of_length_le (by omega)];exact h.f j,h.un,h.ld⟩
theorem Bs.change{n:Nat}{D:Dk}(h:Bs n D)(c:Chg)(hd:∀i,c.f=some i→dirP c.n=c.dir):Bs (n+1) (D.change c):=by
 obtain⟨U,h1,h2,h3,h4⟩:=h.un;refine⟨asc_ap h.an c,h.ast,by show(D.log++[c]).length≤_;have:=h.lg;simp;omega,Nat.le_succ_of_le h.op,Nat.le_succ_of_le h.fl,fun i=>(h.f i).mono (Nat.le_succ _),⟨c.n::U,by simp;omega,inn_ap (fun q hq=>List.mem_cons_of_mem _ (h2 q hq)) (fun _ _=>List.mem_cons_self),fun q hq=>List.mem_cons_of_mem _ (h3 q hq),fun d hd2 i hi=>?_⟩,fun d hd2 i hi=>?_⟩
 ·rcases List.mem_append.1 hd2 with hd2|hd2
  ·exact List.mem_cons_of_mem _ (h4 d hd2 i hi)
  ·rw[List.mem_singleton.1 hd2];exact List.mem_cons_self
 ·rcases List.mem_append.1 hd2 with hd2|hd2
  ·exact h.ld d hd2 i hi
  ·rw[List.mem_singleton.1 hd2]at hi⊢;exact hd i hi
theorem Bs.addf{n:Nat}{D:Dk}(h:Bs n D):Bs (n+1) ({D with fs:=D.fs++[⟨[],[],[]⟩]}:Dk):=
 ⟨h.an,h.ast,Nat.le_succ_of_le h.lg,Nat.le_succ_of_le h.op,by have:=h.fl;simp;omega,fun i=>by
  show Fsb (n+1) ((D.fs++[(⟨[],[],[]⟩:Fdt)]).getD i ⟨[],[],[]⟩);rw[List.getD_eq_getElem?_getD,List.getElem?_append];split
  ·rw[←List.getD_eq_getElem?_getD];exact(h.f i).mono (Nat.le_succ _)
  ·by_cases e:i-D.fs.length=0
   ·rw[e];exact Fsb.nil _
   ·rw[List.getElem?_eq_none (by simp;omega)];exact Fsb.nil _,(h.mono (Nat.le_succ _)).un,h.ld⟩
theorem Bs.make{n:Nat}{D:Dk}(h:Bs n D)(p:Pth):Bs (n+2) (D.make p).1:=by
 unfold Dk.make;split
 ·exact h.mono (by omega)
 ·refine h.addf.change _ (fun i _=>?_)
  simp[Chg.dir]
theorem Fsb.laid{n:Nat}{x:Fdt}(h:Fsb n x)(w:Wr):Fsb (n+w.d.length+1) ⟨w.on x.now w.d.length,x.stays,x.w++[w]⟩:=by
 obtain⟨h1,h2,h3,h4,h5⟩:=h;have h6:=on_le w x.now w.d.length;refine⟨by show(w.on x.now w.d.length).length≤_;omega,by show x.stays.length≤_;omega,by show(x.w++[w]).length≤_;simp;omega,fun y hy=>?_,fun j=>?_⟩
 ·rcases List.mem_append.1 hy with hy|hy
  ·have:=h4 y hy;omega
  ·rw[List.mem_singleton.1 hy];omega
 ·show(onAll ((x.w++[w]).take j) x.stays).length≤_
  rw[List.take_append];by_cases hj:j≤x.w.length
  ·rw[show j-x.w.length=0 by omega,List.take_zero,List.append_nil];have:=h5 j;omega
  ·obtain⟨k,hk⟩:∃k,j-x.w.length=k+1:=⟨j-x.w.length-1,by omega⟩
   rw[hk]
   have e:onAll (x.w.take j++[w].take (k+1)) x.stays=w.on (onAll (x.w.take j) x.stays) w.d.length:=by
    unfold onAll;rw[List.foldl_append,List.take_succ_cons,List.take_nil];rfl
   rw[e];have:=on_le w (onAll (x.w.take j) x.stays) w.d.length;have:=h5 j;omega
theorem Bs.write{n:Nat}{D:Dk}(h:Bs n D)(p:Pth)(w:Wr):Bs (n+w.d.length+3) (D.write p w):=by
 unfold Dk.write;have h1:=h.make p;exact(h1.mono (by omega)).put _ (((h1.f _).laid w).mono (by omega))
theorem Bs.lay{n:Nat}{D:Dk}(h:Bs n D)(p:Pth)(w:Wr):Bs (n+w.d.length+4) (D.lay p w).2:=by
 unfold Dk.lay;have h1:=h.begin;simp only;split
 ·exact h1.mono (by omega)
 ·simp only;split
  ·exact(h1.write p w).mono (by omega)
  ·exact h1.mono (by omega)
theorem Bs.sync{n:Nat}{D:Dk}(h:Bs n D)(p:Pth):Bs (n+1) (D.sync p).2:=by
 unfold Dk.sync;have h1:=h.begin;simp only;split
 ·exact h1
 ·simp only;split
  ·exact h1.put _ (Fsb.flat (h1.f _).1)
  ·exact h1
theorem Bs.rename{n:Nat}{D:Dk}(h:Bs n D)(a b:Pth):Bs (n+2) (D.rename a b).2:=by
 unfold Dk.rename;have h1:=h.begin;simp only;split
 ·exact h1.mono (by omega)
 ·simp only;split
  ·rename_i h2
   refine h1.change _ (fun i _=>?_)
   have h3:nameB a=true∧dirP a=dirP b:=by
    have:=h2.1;unfold Dk.renE at this;split at this
    ·cases this
    ·rename_i h4;split at this
     ·cases this
     ·rename_i h5;exact⟨by cases hn:nameB a with
       |true=>rfl
       |false=>exact absurd (.inl hn) h4,by simpa using h5⟩
   unfold Chg.dir;rw[if_neg (name_ne h3.1)];exact h3.2.symm
  ·exact h1.mono (by omega)
theorem Bs.syncDir{n:Nat}{D:Dk}(h:Bs n D)(p:Pth):Bs (n+1) (D.syncDir p).2:=by
 unfold Dk.syncDir;have h1:=h.begin;simp only;split
 ·exact h1
 ·simp only;split
  ·obtain⟨U,e1,e2,e3,e4⟩:=h1.un
   refine⟨h1.an,asc_merge h1.ast _,Nat.le_trans (List.length_filter_le _ _) h1.lg,h1.op,h1.fl,h1.f,⟨U,e1,e2,fun q hq=>?_,fun c hc=>e4 c (List.mem_filter.1 hc).1⟩,fun c hc=>h1.ld c (List.mem_filter.1 hc).1⟩;have hq:(mget (merge D.begin.2.now D.begin.2.stays p) q).isSome=true:=hq;rw[mget_merge h1.an]at hq;split at hq
   ·exact e2 q hq
   ·exact e3 q hq
  ·exact h1
theorem part_len(w:Wr)(b:List UInt8)(k:Nat)(hk:k<w.ways):(w.part b k).length≤(w.on b w.d.length).length:=by
 unfold Wr.part;have h:=on_len w b
 have h2:∀m,m≤w.d.length→(w.on b m).length=(if w.b=true then b.length else 0)+m:=fun m hm=>by
  unfold Wr.on;rw[List.length_append,List.length_take,Nat.min_eq_left hm];split<;>simp
 unfold Wr.ways at hk;split
 ·rw[h2 _ (Nat.min_le_right _ _),h];omega
 ·rw[List.length_append,h2 _ (by omega),List.length_replicate,h];omega
theorem wayW_len{n:Nat}:∀(ws:List Wr) (b:List UInt8) (k:Nat),(∀j,(onAll (ws.take j) b).length≤n)→(wayW ws b k).length≤n
 |[],b,k,h=>by simpa[onAll,wayW]using h 0
 |w::ws,b,k,h=>by
  have h1:(w.on b w.d.length).length≤n:=by simpa[onAll]using h 1
  unfold wayW;split
  ·simpa[onAll]using h 0
  ·split
   ·exact Nat.le_trans (part_len w b (k-1) (by unfold Wr.ways at*;omega)) h1
   ·exact wayW_len ws _ _ (fun j=>by simpa[onAll]using h (j+1))
theorem crashD_in{U:List Pth}{picks:List Int}{D:Dk}(hU:∀c∈D.log,∀i,c.f=some i→c.n∈U):∀(L:List Pth) (s:Nms×Nat),Inn U s.1→Asc s.1→Inn U (L.foldl (crashD picks D) s).1∧Asc (L.foldl (crashD picks D) s).1
 |[],s,h,ha=>⟨h,ha⟩
 |x::L,s,h,ha=>by
  rw[List.foldl_cons];refine crashD_in hU L _ ?_ ?_
  ·rw[crashD_st];exact inn_apl h (fun c hc=>hU c (chgs_mem (List.mem_of_mem_take hc)).1)
  ·rw[crashD_st];exact asc_apl ha _
end SimQ

namespace SimR
open E Go.RowKit SimA SimB SimC SimD SimE SimF SimG SimH SimI SimJ SimK SimL SimM SimN SimP SimQ
theorem mx_of{W:World}(h:W.ShapedOpen Tryz.prog):∃m,MX m W.heap∧BF (fun b=>b=0) W.heap.size:=by
 obtain⟨m,hm⟩:=cell_of_shapedOpen_int (g:=0) (t:=3) (zero:= #[.int .i64 0]) h (by decide) (by kernel_rfl) rfl (by kernel_rfl) (by kernel_rfl) Tryz.underlying3;have hc:E.cell W.heap ⟨0,0,none⟩=some (.int .i64 m):=by rw[←(At.cell (w0:=W) ⟨rfl,rfl,rfl,rfl,Nat.le_refl _⟩ _)];exact hm
 refine⟨m,⟨⟨rfl,fun j c hj=>?_⟩,rfl⟩,fun b hb=>?_⟩
 ·cases j with
  |zero=>cases hj;exact hc
  |succ j=>cases hj
 ·have:=World.block_lt_of_cell? W _ hm;simp only at hb;omega
section
variable {P : Program} {w0 : World} {n : Nat} {l : FL} {H : Heap} {o : Oper}
theorem _root_.Go.Proofs.YtdliddjkacbggaaGreatDoor.E.Y.bneq{x y:Operand}{t u:TypeId}{a b:Bool}(ho:o.op= .binOp .neq t x y u)(ht:P.underlying t=some .bool)(hx:opv l x=some (.bool a))(hy:opv l y=some (.bool b)):Y P w0 n l H o (.bool (decide (a≠b))):=by
 intro ac w hf ha;have h:=run_equalIn_bool' w 9999 t a b ht;have h2:(a==b)=decide (a=b):=by cases a<;>cases b<;>rfl
 rw[h2]at h;simp[execOp,ho,hf.eval hx,hf.eval hy,binOp,eqGuard,Op.equal,Op.maxDepth,h]
end
theorem DFL.of{k:Nat}{K:List Nat}(d:DL k K):DFL (fun b=>b+1=k) K:=fun j hj=>DF.of (d j hj)
def wiN(a:Int)(n:Nat):Nat:=(a%(n:Int)).toNat
theorem wiN_lt{a:Int}{n:Nat}(h:0<n):wiN a n<n:=by
 unfold wiN;have:=Int.emod_lt_of_pos a (show(0:Int)<n by omega);have:=Int.emod_nonneg a (show(n:Int)≠0 by omega);omega
theorem wiN_neg{a:Int}{n:Nat}(h:0<n)(h2:a.tmod n<0):((wiN a n:Nat):Int)=a.tmod n+n:=by
 unfold wiN;have h3:=Int.emod_nonneg a (show(n:Int)≠0 by omega);rw[Int.toNat_of_nonneg h3];rw[Int.tmod_eq_emod]at h2⊢;split at h2
 ·omega
 ·rename_i h4;rw[if_neg h4];simp
theorem wiN_pos{a:Int}{n:Nat}(h:0<n)(h2:¬a.tmod n<0):((wiN a n:Nat):Int)=a.tmod n:=by
 unfold wiN;have h3:=Int.emod_nonneg a (show(n:Int)≠0 by omega);have h5:=Int.emod_lt_of_pos a (show(0:Int)<n by omega);rw[Int.toNat_of_nonneg h3];rw[Int.tmod_eq_emod]at h2⊢;split at h2
 ·rename_i h4;rw[if_pos h4];simp
 ·rename_i h4
  simp only[Int.natAbs_natCast]at h2;omega
end SimR

namespace WalD
open E Go.RowKit SimA SimB SimC SimD SimE SimF SimG SimH SimI SimQ SimR WalA WalB WalC
set_option maxRecDepth 100000 in
theorem inf34:Inf Tryz.prog 34 5 1 1:=⟨Tryz.underlying34,_,_,rfl,rfl,rfl,rfl,rfl⟩
section
variable {P : Program} {w0 : World} {n : Nat} {l : FL} {H H1 : Heap} {o : Oper}
theorem Y.fieldAddrX{x:Operand}{s:TypeId}{k off sz2:Nat}{ad:Addr}{cs:List Value}{fs:Array Field}{fd:Field}(h:Pt H1 ad cs)(ho:o.op= .fieldAddr s x k)(hu:∀w,(underlying s).run P w= .ok (.struct fs) w)(hk:fs[k]?=some fd)(hof:fd.offset=off)
 (hsz:∀w,(sizeOf fd.type).run P w= .ok sz2 w) (hz:sz2≠0) (hx:opv l x=some (.pointer (some ad))):Y P w0 n l H o (.pointer (some (ad.add off))):=by
 intro ac w hf ha;simp[execOp,ho,hf.eval hx,Instr.fieldAt,Instr.sureAddr,fieldPlace,hu,hk,hof,hsz,hz]
end
def newP(p:Pth):Pth:=p++[46,110,101,119]
abbrev Stp:=Dk→Nat×Dk
def runD:List Stp→Dk→Nat×Dk
 |[],D=>(0,D)
 |f::fs,D=>if(f D).1=0 then runD fs (f D).2 else f D
def stp(Fs:List Stp)(i:Nat):Stp:=Fs.getD i (fun D=>(0,D))
theorem runD_app:∀(a b:List Stp) (D:Dk),runD (a++b) D=if(runD a D).1=0 then runD b (runD a D).2 else runD a D
 |[],b,D=>by simp[runD]
 |f::a,b,D=>by
  rw[List.cons_append,runD,runD];by_cases h:(f D).1=0
  ·rw[if_pos h,if_pos h,runD_app a b]
  ·rw[if_neg h,if_neg h,if_neg h]
theorem runD_one(f:Stp)(D:Dk):runD [f] D=f D:=by
 unfold runD runD;split
 ·rename_i h;exact Prod.ext h.symm rfl
 ·rfl
theorem runD_take{Fs:List Stp}{i:Nat}{D:Dk}(h:i<Fs.length)(h0:(runD (Fs.take i) D).1=0):runD (Fs.take (i+1)) D=stp Fs i (runD (Fs.take i) D).2:=by
 rw[List.take_succ_eq_append_getElem h,runD_app,if_pos h0,runD_one];unfold stp;rw[List.getD_eq_getElem?_getD,List.getElem?_eq_getElem h];rfl
theorem runD_stop{Fs:List Stp}{i:Nat}{D:Dk}(h:(runD (Fs.take i) D).1≠0):runD Fs D=runD (Fs.take i) D:=by
 conv=>lhs;rw[←List.take_append_drop i Fs]
 rw[runD_app,if_neg h]
theorem bs_run{k:Nat}:∀{fs:List Stp} {N:Nat} {D:Dk},(∀f∈fs,∀N D,Bs N D→Bs (N+k) (f D).2)→Bs N D→Bs (N+k*fs.length) (runD fs D).2
 |[],N,D,_,h=>by simpa[runD]using h
 |f::fs,N,D,hf,h=>by
  have h1:=hf f List.mem_cons_self N D h;unfold runD;split
  ·have:=bs_run (fs:=fs) (fun g hg=>hf g (List.mem_cons_of_mem _ hg)) h1
   rw[List.length_cons];exact this.mono (by rw[Nat.mul_add];omega)
  ·rw[List.length_cons];exact h1.mono (by rw[Nat.mul_add];omega)
theorem bs_runT{k:Nat}{fs:List Stp}{N:Nat}{D:Dk}(i:Nat)(hf:∀f∈fs,∀N D,Bs N D→Bs (N+k) (f D).2)(h:Bs N D):Bs (N+k*fs.length) (runD (fs.take i) D).2:=by
 have:=bs_run (fs:=fs.take i) (fun f hm=>hf f (List.mem_of_mem_take hm)) h;exact this.mono (Nat.add_le_add_left (Nat.mul_le_mul_left _ (by rw[List.length_take];omega)) _)
def frS(p:Pth)(l:List Rec):List Stp:=[fun D=>D.lay (newP p) ⟨false,encW l⟩,fun D=>D.sync (newP p),fun D=>D.rename (newP p) p,fun D=>D.syncDir (dirP p)]
def apS(p:Pth)(n:Nat)(r:Rec):List Stp:=[fun D=>D.lay p ⟨true,layW n r⟩,fun D=>D.sync p,fun D=>D.lay p ⟨true,[67]⟩,fun D=>D.sync p]
theorem frS_bs(p:Pth)(l:List Rec):∀f∈frS p l,∀N D,Bs N D→Bs (N+((encW l).length+20)) (f D).2:=by
 intro f hf N D h;simp only[frS,List.mem_cons,List.not_mem_nil,or_false]at hf;rcases hf with rfl|rfl|rfl|rfl
 ·exact(h.lay (newP p) ⟨false,encW l⟩).mono (by simp only;omega)
 ·exact(h.sync _).mono (by omega)
 ·exact(h.rename _ _).mono (by omega)
 ·exact(h.syncDir _).mono (by omega)
theorem apS_bs(p:Pth)(n:Nat)(r:Rec):∀f∈apS p n r,∀N D,Bs N D→Bs (N+(r.length+20)) (f D).2:=by
 intro f hf N D h;simp only[apS,List.mem_cons,List.not_mem_nil,or_false]at hf;rcases hf with rfl|rfl|rfl|rfl
 ·exact(h.lay p ⟨true,layW n r⟩).mono (by simp only[layW_len];omega)
 ·exact(h.sync _).mono (by omega)
 ·exact(h.lay p ⟨true,[67]⟩).mono (by simp only[List.length_singleton];omega)
 ·exact(h.sync _).mono (by omega)
def freshD(D:Dk)(p:Pth)(l:List Rec):Nat×Dk:=runD (frS p l) D
theorem bs_fresh{N:Nat}{D:Dk}(h:Bs N D)(p:Pth)(l:List Rec):Bs (N+4*((encW l).length+20)) (freshD D p l).2:=(bs_run (frS_bs p l) h).mono (by simp[frS];omega)
theorem dirP_le(p:Pth):(dirP p).length≤p.length:=by
 unfold dirP headP;split
 ·exact List.length_take_le' _ _
 ·exact Nat.zero_le _
theorem newP_len(p:Pth):(newP p).length=p.length+4:=by simp[newP]
abbrev FnV:=Nat×List Value
abbrev fFn(x:FnV):List Value:=[.func (.func x.1) #[] x.2.toArray]
theorem fFn_len(x:FnV):(fFn x).length=1:=rfl
theorem fFn_one(x:FnV):∀u∈fFn x,u.oneCell'=true:=by intro u hu;simp only[List.mem_singleton]at hu;subst hu;rfl
def CloD(w0:World)(b:Nat)(f:Stp)(v:Value)(K:List Nat)(H:Heap)(D:Dk):Prop:=
 Clo Tryz.prog w0 v [] H (fun r H2=>∃(K2:List Nat) (g2:Gh),r= .int .i64 ((f D).1:Int)∧PDk K2 g2 H2 b (f D).2∧NxK K H.size K2∧Mo (Ms K) H H2)
theorem first_ct(K:List Nat)(g:Gh)(b:Nat)(D:Dk)(v:Value)(l:List FnV)(Fs:List Stp)(F:Nat→Prop)(w0:World)(H0:Heap)
 (hf:PDk K g H0 b D) (hl:Rd F H0 fFn 1 v l) (bf_hl:BF F H0.size) (dfl:DFL F K) (hll:l.length=Fs.length) (hst:∀(i:Nat) (h:i<l.length) (K':List Nat) (g':Gh) (H':Heap),PDk K' g' H' b (runD (Fs.take i) D).2→NxK K H0.size K'→Mo (Ms K) H0 H'→CloD w0 b (stp Fs i) (.func (.func l[i].1) #[] l[i].2.toArray) K' H' (runD (Fs.take i) D).2):
 Ct Tryz.prog w0 31 #[v] H0 (fun r H2=>∃K2:List Nat,∃g2:Gh,r= .int .i64 ((runD Fs D).1:Int)∧(PDk K2 g2 H2 b (runD Fs D).2)∧(NxK K H0.size K2)∧Mo (Ms K) H0 H2):=by
 refine Ct.enter (args:=[v]) Tryz.func31 rfl rfl rfl ?_;intro Q0 hret;have hm0:Mo (Ms K) H0 H0:=Mo.refl _ _;have aa:=NxK.refl K H0.size;have ac:=hf.bk;have hlm:=hl.len;refine CW.sr (fun au=>?_);refine LR.an ?_;refine au _ _ (CW.seq (fun K2 av aw=>CW.sr (fun ax=>?_)));refine LR.m1 ?_;refine LR.v1 (Y.len hl rfl u'146 rfl) ?_;refine LR.m1 (LR.nil (ax _ _ ?_));refine CW.block (fun _ _ ay az=>?_)
 refine CW.loop (fun(s_:(Nat)×(List Nat)×(Gh))=>match s_ with|(i,Ki,gi)=>[(6,v),(7,.int .i64 (l.length:Int)),(8,.int .i64 (i:Int))])
  (fun(i,Ki,gi) (H:Heap)=>(PDk Ki gi H b (runD (Fs.take i) D).2)∧(i≤l.length)∧((runD (Fs.take i) D).1=0)∧(NxK K H0.size Ki)∧Mo (Ms K) H0 H)
  (fun(i,Ki,gi)=>l.length-i) (0,K,g) ⟨rfl,rfl,rfl,trivial⟩ ?_ ?_
 ·
  exact⟨hf,(by omega),rfl,NxK.refl _ _,Mo.refl _ _⟩
 rintro⟨i,Ki,gi⟩ aP aA K5 aB aq;obtain⟨hf,hi,h0,ae,ab⟩:=aA;have ah:NxK K H0.size Ki:=NxK.tr (aa) ae hm0.size;replace hl:=hl.upL ab (dfl);replace hm0:=hm0.trL ab (MIL.ofK (aa) (by intro k hk;simp[hk]));have aQ:=ab.size;have ac:=hf.bk;have ar:=ae;refine CW.sr (fun aC=>?_);refine LR.v1 (Y.lss rfl rfl rfl) (LR.nil (aC _ _ ?_));refine CW.s2 (fun aD aE=>?_);refine CW.condp rfl (fun c9=>?_) (fun c9=>?_)
 ·
  have hil:i<l.length:=by omega
  have htk:=runD_take (Fs:=Fs) (D:=D) (i:=i) (by omega) h0;refine CW.skip (aD _ _ (CW.s2 (fun aF aG=>CW.block (fun _ aH _ aI=>CW.sr (fun aj=>?_)))));refine LR.e1 (g:=fun ad=> .pointer (some ad)) (Y.iF hl (i) rfl u'146 s'79 rfl rfl) fun aJ ak=>?_;refine LR.v1 (Y.load1 ak.pt rfl a'79 rfl) ?_;refine LR.an ?_;refine aj _ _ (CW.sr (fun al=>?_));refine LR.m1 ?_;refine LR.calld rfl rfl rfl (Wd.u rfl) rfl rfl (hst i hil Ki gi _ hf (ah) hm0) (fun aR aS aK=>?_);obtain⟨ai,aL,rfl,hf,af,ag⟩:=aK;have aM:NxK K H0.size ai:=NxK.tr (ah) af hm0.size;have aN:NxK K H0.size ai:=NxK.tr (ar) af ab.size;replace hm0:=hm0.trL ag (MIL.ofK (ah) (by intro k hk;simp[hk]));replace ab:=ab.trL ag (MIL.ofK (ar) (by intro k hk;simp[hk]));have aT:=ag.size;have ac:=hf.bk;refine LR.an ?_;refine al _ _ (CW.sr (fun am=>?_));refine LR.m1 ?_;refine LR.v1 (Y.neq rfl rfl rfl) (LR.nil (am _ _ ?_));refine CW.condp rfl (fun aO=>?_) (fun aO=>?_)
  ·
   have hne:(runD (Fs.take (i+1)) D).1≠0:=by rw[htk];omega
   have hst2:=runD_stop hne;rw[htk]at hst2;refine CW.seq (fun ai ao _=>CW.region ?_);refine LR.m1 ?_;refine LR.an ?_;refine ao _ _ ?_;refine CW.ret (aI .ret nofun (by simp) _ _ (aG .ret nofun _ _ (aq .ret nofun _ _ (az .ret nofun (by simp) _ _ (aw .ret nofun _ _ (hret .ret (.inr rfl) _ _ _ (res1 rfl rfl) ?_))))));exact⟨_,_,by rw[hst2],by rw[hst2];exact hf,aM,hm0⟩
  ·
   refine CW.skip (aH _ _ (aF _ _ (CW.region ?_)));refine LR.v1 (Y.addi rfl rfl rfl (by omega)) ?_;refine LR.m1 (LR.nil ?_);refine QN.sub (aB (i+1,ai,aL) _ ?_ ?_) ⟨rfl,(iv (by omega)),(iv (by omega)),trivial⟩
   ·exact⟨by rw[htk];exact hf,(by omega),by rw[htk];omega,aN,ab⟩
   ·first|omega|(simp only;omega)|(simp;omega)
 ·
  refine CW.exit (aE (.exit 0) nofun _ _ (aq (.exit 0) nofun _ _ (ay _ _ ?_)));refine av _ _ (CW.sr (fun ap=>?_));refine LR.an ?_;refine ap _ _ ?_;refine CW.ret (hret .ret (.inr rfl) _ _ _ (res1 rfl rfl) ?_);have hil:i=Fs.length:=by omega
  rw[hil,List.take_length]at hf h0;exact⟨_,_,by rw[h0];rfl,hf,ah,hm0⟩
structure LgS (K:List Nat) (H:Heap) (mx_:Int) (b c lb:Nat) (p:Pth) (n:Nat) (br:Bool):Prop where
 mx:MX mx_ H
 bmx:BF (fun b=>b=0) H.size
 dmx:DFL (fun b=>b=0) K
 cv:Var 30 H c [ptr lb]
 lg:Var 76 H lb [ptr b,Str p,.int .i64 (n:Int),.bool br]
 dc:DL (c+1) K
 dl:DL (lb+1) K
theorem LgS.up{K K2:List Nat}{H H2:Heap}{mx_:Int}{b c lb n:Nat}{p:Pth}{br:Bool}(h:LgS K H mx_ b c lb p n br)(s:Mo (Ms K) H H2)(x:NxK K H.size K2):LgS K2 H2 mx_ b c lb p n br:=
 ⟨h.mx.upL s h.dmx,fun b hb=>by have:=h.bmx b hb;have:=s.size;omega,DFL.appK h.dmx h.bmx x,h.cv.upL s h.dc,h.lg.upL s h.dl,DL.appK h.dc h.cv.lt x,DL.appK h.dl h.lg.lt x⟩
structure RwS {α:Type} (K:List Nat) (F:Nat→Prop) (H:Heap) (f:α→List Value) (v:Value) (l:List α):Prop where
 rd:Rd F H f 1 v l
 bf:BF F H.size
 df:DFL F K
theorem RwS.up{α:Type}{K K2:List Nat}{F:Nat→Prop}{H H2:Heap}{f:α→List Value}{v:Value}{l:List α}(h:RwS K F H f v l)(s:Mo (Ms K) H H2)(x:NxK K H.size K2):RwS K2 F H2 f v l:=
 ⟨h.rd.upL s h.df,fun b hb=>by have:=h.bf b hb;have:=s.size;omega,DFL.appK h.df h.bf x⟩
structure VaS (K:List Nat) (H:Heap) (e:TypeId) (c:Nat) (cs:List Value):Prop where
 v:Var e H c cs
 d:DL (c+1) K
theorem VaS.up{K K2:List Nat}{H H2:Heap}{e:TypeId}{c:Nat}{cs:List Value}(h:VaS K H e c cs)(s:Mo (Ms K) H H2)(x:NxK K H.size K2):VaS K2 H2 e c cs:=⟨h.v.upL s h.d,DL.appK h.d h.v.lt x⟩
set_option maxHeartbeats 2000000 in
theorem async_ct(mx_:Int)(K:List Nat)(g:Gh)(b:Nat)(D:Dk)(c lb:Nat)(p:Pth)(n:Nat)(br:Bool)(w0:World)(H0:Heap)
 (hf:PDk K g H0 b D) (mx:MX mx_ H0) (bf_mx:BF (fun b=>b=0) H0.size) (dmx:DFL (fun b=>b=0) K) (hc:Var 30 H0 c [ptr lb]) (hlg:Var 76 H0 lb [ptr b,Str p,.int .i64 (n:Int),.bool br]) (dc:DL (c+1) K) (dl:DL (lb+1) K) (hl:p.length≤4294967280) (hB:Bd 274877906944 D):
 Ct Tryz.prog w0 29 #[ptr c] H0 (fun r H2=>∃K2:List Nat,∃g2:Gh,r= .int .i64 ((D.sync p).1:Int)∧(PDk K2 g2 H2 b (D.sync p).2)∧(NxK K H0.size K2)∧Mo (Ms K) H0 H2):=by
 refine Ct.enter (args:=[ptr c]) Tryz.func29 rfl rfl rfl ?_;intro Q0 hret;have hm0:Mo (Ms K) H0 H0:=Mo.refl _ _;have aa:=NxK.refl K H0.size;have ad:=hf.bk;have ae:=hc.lt;have ac:=hlg.lt;refine CW.sr (fun ag=>?_);refine LR.an ?_;refine ag _ _ (CW.seq (fun K2 ah _=>?_));refine CW.region_tail 8 rfl (by kernel_rfl) (fun T1 hT1=>?_);refine LR.v1 (Y.load1 hc.pt rfl a'30 rfl) ?_;refine LR.n1 ?_;refine LR.v1 (Y.FA hlg.pt rfl u'76 rfl s'26) ?_;refine LR.v1 (Y.load1 hlg.pt rfl a'26 rfl) ?_;refine LR.v1 (Y.load1 hc.pt rfl a'30 rfl) ?_;refine LR.n1 ?_;refine LR.v1 (Y.FA hlg.pt rfl u'76 rfl s'9) ?_;refine LR.v1 (Y.load1 (hlg.pt.drop 1) rfl a'9 rfl) ?_;refine LR.nil (hT1 _ ?_);refine LR.call rfl c'30 rfl (Wd.u rfl) rfl rfl (sync_ct mx_ K g b D p w0 _ hf mx (bf_mx.mono (by omega)) (dmx) hl hB) (fun al am ai=>?_);obtain⟨aj,ao,rfl,hf,ab,af⟩:=ai;have ak:NxK K H0.size aj:=NxK.tr (aa) ab hm0.size;replace hm0:=hm0.trL af (MIL.ofK (aa) (by intro k hk;simp[hk]));refine LR.an ?_;refine ah _ _ ?_;refine CW.ret (hret .ret (.inr rfl) _ _ _ (res1 rfl rfl) ?_);exact⟨_,_,rfl,hf,ak,hm0⟩
set_option maxHeartbeats 2000000 in
theorem alay_ct(mx_:Int)(K:List Nat)(g:Gh)(b:Nat)(D:Dk)(c lb:Nat)(p:Pth)(n:Nat)(br:Bool)(c3:Nat)(s:SV)(rc:List UInt8)(F:Nat→Prop)(w0:World)(H0:Heap)
 (hf:PDk K g H0 b D) (mx:MX mx_ H0) (bf_mx:BF (fun b=>b=0) H0.size) (dmx:DFL (fun b=>b=0) K) (hc:Var 30 H0 c [ptr lb]) (hlg:Var 76 H0 lb [ptr b,Str p,.int .i64 (n:Int),.bool br]) (dc:DL (c+1) K) (dl:DL (lb+1) K) (hc3:Var 34 H0 c3 [s.v]) (d3:DL (c3+1) K) (hr:Rd F H0 fB 1 s.v rc) (bf_hr:BF F H0.size) (dfr:DFL F K) (hrl:rc.length≤4294967000) (hl:p.length≤4294967280) (hB:Bd 274877906944 D):
 Ct Tryz.prog w0 32 #[ptr c,ptr c3] H0 (fun r H2=>∃K2:List Nat,∃g2:Gh,r= .int .i64 ((D.lay p ⟨true,layW n rc⟩).1:Int)∧(PDk K2 g2 H2 b (D.lay p ⟨true,layW n rc⟩).2)∧(NxK K H0.size K2)∧Mo (Ms K) H0 H2):=by
 refine Ct.enter (args:=[ptr c,ptr c3]) Tryz.func32 rfl rfl rfl ?_;intro Q0 hret;have hm0:Mo (Ms K) H0 H0:=Mo.refl _ _;have ab:=NxK.refl K H0.size;have ap:=hf.bk;have aq:=hc.lt;have al:=hlg.lt;have am:=hc3.lt;refine CW.sr (fun ax=>?_);refine LR.an ?_;refine ax _ _ (CW.seq (fun K2 ay _=>?_));refine CW.region_any (fun Hq=>Mo (Ms K) H0 Hq) [] rfl ?_;have aa:Mo (Ms K) H0 H0:=Mo.refl _ _;have az:=NxK.refl K H0.size;refine LH.t1 0 rfl (fun Hq hq=>Y.load1 (hc.upL hq (dc)).pt rfl a'30 rfl) aa ?_;refine LH.n1 1 rfl aa ?_;refine LH.t1 2 rfl (fun Hq hq=>Y.fieldAddr (hlg.upL hq (dl)).pt rfl u'76 rfl rfl s'26 (by decide) rfl) aa ?_;refine LH.t1 3 rfl (fun Hq hq=>Y.load1 (hlg.upL hq (dl)).pt rfl a'26 rfl) aa ?_;refine LH.t1 4 rfl (fun Hq hq=>Y.load1 (hc.upL hq (dc)).pt rfl a'30 rfl) aa ?_;refine LH.n1 5 rfl aa ?_;refine LH.t1 6 rfl (fun Hq hq=>Y.fieldAddr (hlg.upL hq (dl)).pt rfl u'76 rfl rfl s'9 (by decide) rfl) aa ?_;refine LH.t1 7 rfl (fun Hq hq=>Y.load1 ((hlg.upL hq (dl)).pt.drop 1) rfl a'9 rfl) aa ?_;refine LH.t1 8 rfl (fun Hq hq=>Y.load1 (hc.upL hq (dc)).pt rfl a'30 rfl) aa ?_;refine LH.n1 9 rfl aa ?_;refine LH.t1 10 rfl (fun Hq hq=>Y.fieldAddr (hlg.upL hq (dl)).pt rfl u'76 rfl rfl s'3 (by decide) rfl) aa ?_;refine LH.t1 11 rfl (fun Hq hq=>Y.load1 ((hlg.upL hq (dl)).pt.drop 2) rfl a'3 rfl) aa ?_;refine LH.t1 12 rfl (fun Hq hq=>Y.load1 (hc3.upL hq (d3)).pt rfl a'34 rfl) aa ?_;refine LH.o1 13 ?_;refine LO.call rfl rfl c'34 rfl (Wd.u rfl) rfl rfl (wlay_ct n s rc w0 _ hr.any hrl) (fun aF ag aA=>?_);obtain⟨aB,ae,rfl,af,ah,ac⟩:=aA;have aC:DL ae K:=DL.app2 (DL.zK) hf.bk ah;have aD:Nx 0 H0.size ae:=Nx.tr (Nx.refl 0 _) ah aa.size;replace hf:=hf.nw ac;replace mx:=mx.nw ac;replace hm0:=hm0.trN ac;replace aa:=aa.trN ac;have aG:=ac.size;have ai:=af.le;refine⟨.inr aa,LH.narrow (SH2:=fun Hq=>Mo (Ms (K++[ae])) ag Hq) (fun Hq hq=>aa.trL hq (MIL.app (MIL.ofK (az) (by intro k hk;simp[hk])) (MIL.o (MI.q aD)))) ?_⟩;have aa:Mo (Ms (K++[ae])) ag ag:=Mo.refl _ _;have aj:=NxK.refl K ag.size;have ar:=Nx.refl ae ag.size;refine LH.o1 14 ?_;refine LO.call rfl rfl c'33 rfl (Wd.u rfl) rfl rfl (append_ct mx_ K g b D p aB (layW n rc) _ w0 _ hf mx (bf_mx.mono (by omega)) (dmx) af.rd (BF.of af.le) (DFL.of (aC)) hl hB (by rw[layW_len];omega)) (fun aH au aE=>?_);obtain⟨ao,aI,rfl,hf,ad,ak⟩:=aE;have av:NxK K H0.size ao:=NxK.tr (ab) ad hm0.size;have aw:NxK K ag.size ao:=NxK.tr (aj) ad aa.size;replace hm0:=hm0.trL ak (MIL.ofK (ab) (by intro k hk;simp[hk]));replace aa:=aa.trL ak (MIL.ofK (aj) (by intro k hk;simp[hk]));refine⟨.inr aa,LH.narrow (SH2:=fun Hq=>Mo (Ms (ao++[ae])) au Hq) (fun Hq hq=>aa.trL hq (MIL.app (MIL.ofK (aw) (by intro k hk;simp[hk])) (MIL.o (MI.r ar)))) ?_⟩;have aa:Mo (Ms (ao++[ae])) au au:=Mo.refl _ _;refine LH.t1 15 rfl (fun Hq hq=>Y.assign rfl rfl) aa ?_;refine LH.done (by kernel_rfl) ?_;refine ay _ _ ?_;refine CW.ret (hret .ret (.inr rfl) _ _ _ (res1 rfl rfl) ?_);exact⟨_,_,rfl,hf,av,hm0⟩
set_option maxHeartbeats 2000000 in
theorem amark_ct(mx_:Int)(K:List Nat)(g:Gh)(b:Nat)(D:Dk)(c lb:Nat)(p:Pth)(n:Nat)(br:Bool)(w0:World)(H0:Heap)
 (hf:PDk K g H0 b D) (mx:MX mx_ H0) (bf_mx:BF (fun b=>b=0) H0.size) (dmx:DFL (fun b=>b=0) K) (hc:Var 30 H0 c [ptr lb]) (hlg:Var 76 H0 lb [ptr b,Str p,.int .i64 (n:Int),.bool br]) (dc:DL (c+1) K) (dl:DL (lb+1) K) (hl:p.length≤4294967280) (hB:Bd 274877906944 D):
 Ct Tryz.prog w0 35 #[ptr c] H0 (fun r H2=>∃K2:List Nat,∃g2:Gh,r= .int .i64 ((D.lay p ⟨true,[67]⟩).1:Int)∧(PDk K2 g2 H2 b (D.lay p ⟨true,[67]⟩).2)∧(NxK K H0.size K2)∧Mo (Ms K) H0 H2):=by
 refine Ct.enter (args:=[ptr c]) Tryz.func35 rfl rfl rfl ?_;intro Q0 hret;have hm0:Mo (Ms K) H0 H0:=Mo.refl _ _;have ab:=NxK.refl K H0.size;have aj:=hf.bk;have ak:=hc.lt;have ah:=hlg.lt;refine CW.sr (fun av=>?_);refine LR.an ?_;refine av _ _ (CW.seq (fun K2 aw _=>?_));refine CW.region_any (fun Hq=>Mo (Ms K) H0 Hq) [] rfl ?_;have aa:Mo (Ms K) H0 H0:=Mo.refl _ _;have ax:=NxK.refl K H0.size;refine LH.t1 0 rfl (fun Hq hq=>Y.load1 (hc.upL hq (dc)).pt rfl a'30 rfl) aa ?_;refine LH.n1 1 rfl aa ?_;refine LH.t1 2 rfl (fun Hq hq=>Y.fieldAddr (hlg.upL hq (dl)).pt rfl u'76 rfl rfl s'26 (by decide) rfl) aa ?_;refine LH.t1 3 rfl (fun Hq hq=>Y.load1 (hlg.upL hq (dl)).pt rfl a'26 rfl) aa ?_;refine LH.t1 4 rfl (fun Hq hq=>Y.load1 (hc.upL hq (dc)).pt rfl a'30 rfl) aa ?_;refine LH.n1 5 rfl aa ?_;refine LH.t1 6 rfl (fun Hq hq=>Y.fieldAddr (hlg.upL hq (dl)).pt rfl u'76 rfl rfl s'9 (by decide) rfl) aa ?_;refine LH.t1 7 rfl (fun Hq hq=>Y.load1 ((hlg.upL hq (dl)).pt.drop 1) rfl a'9 rfl) aa ?_;refine LH.o1 8 ?_;refine LO.z rfl (Z.litw _ ([(67:UInt8)]) rfl inf34 rfl rfl rfl (by decide) (by decide) fB_len fB_one (rfl)) (Wd.u rfl) rfl rfl (fun aq ae ay=>?_);obtain⟨af,ac,az,al⟩:=ay;have ar:ae.size=H0.size+1:=by rw[al];simp
 have aA:DL (H0.size+1) K:=DL.newK hf.bk;have aB:Nx 0 H0.size (H0.size+1):=Nx.new aa.size;replace hf:=hf.nw ac;replace mx:=mx.nw ac;replace hm0:=hm0.trN ac;replace aa:=aa.trN ac;have aF:=ac.size;obtain⟨aC,rfl⟩:∃s:SV,aq=s.v:=⟨toSV aq,af.sv.symm⟩;refine⟨.inr aa,LH.narrow (SH2:=fun Hq=>Mo (Ms (K++[(H0.size+1)])) ae Hq) (fun Hq hq=>aa.trL hq (MIL.app (MIL.ofK (ax) (by intro k hk;simp[hk])) (MIL.o (MI.q aB)))) ?_⟩;have aa:Mo (Ms (K++[(H0.size+1)])) ae ae:=Mo.refl _ _;have au:=NxK.refl K ae.size;have aD:=Nx.refl (H0.size+1) ae.size;refine LH.o1 9 ?_;refine LO.call rfl rfl c'33 rfl (Wd.u rfl) rfl rfl (append_ct mx_ K g b D p aC [67] _ w0 _ hf mx (bf_mx.mono (by omega)) (dmx) af.rd (BF.of af.le) (DFL.of (aA)) hl hB (by decide)) (fun aG am aE=>?_);obtain⟨ai,aH,rfl,hf,ad,ag⟩:=aE;have ao:NxK K H0.size ai:=NxK.tr (ab) ad hm0.size;have ap:NxK K ae.size ai:=NxK.tr (au) ad aa.size;replace hm0:=hm0.trL ag (MIL.ofK (ab) (by intro k hk;simp[hk]));replace aa:=aa.trL ag (MIL.ofK (au) (by intro k hk;simp[hk]));refine⟨.inr aa,LH.narrow (SH2:=fun Hq=>Mo (Ms (ai++[(H0.size+1)])) am Hq) (fun Hq hq=>aa.trL hq (MIL.app (MIL.ofK (ap) (by intro k hk;simp[hk])) (MIL.o (MI.r aD)))) ?_⟩;have aa:Mo (Ms (ai++[(H0.size+1)])) am am:=Mo.refl _ _;refine LH.t1 10 rfl (fun Hq hq=>Y.assign rfl rfl) aa ?_;refine LH.done (by kernel_rfl) ?_;refine aw _ _ ?_;refine CW.ret (hret .ret (.inr rfl) _ _ _ (res1 rfl rfl) ?_);exact⟨_,_,rfl,hf,ao,hm0⟩
set_option maxHeartbeats 2000000 in
theorem cwrite_ct(mx_:Int)(K:List Nat)(g:Gh)(b:Nat)(D:Dk)(c lb:Nat)(p:Pth)(n:Nat)(br:Bool)(c7:Nat)(c3:Nat)(s:SV)(l:List (SV×Rec))(F:Nat→Prop)(w0:World)(H0:Heap)
 (hf:PDk K g H0 b D) (mx:MX mx_ H0) (bf_mx:BF (fun b=>b=0) H0.size) (dmx:DFL (fun b=>b=0) K) (hc:Var 30 H0 c [ptr lb]) (hlg:Var 76 H0 lb [ptr b,Str p,.int .i64 (n:Int),.bool br]) (dc:DL (c+1) K) (dl:DL (lb+1) K) (hc7:Var 9 H0 c7 [Str (newP p)]) (d7:DL (c7+1) K) (hc3:Var 22 H0 c3 [s.v]) (d3:DL (c3+1) K) (hr:Rd F H0 fP 1 s.v l) (bf_hr:BF F H0.size) (dfr:DFL F K) (hx:∀x∈l,Rd F H0 fB 1 x.1.v x.2) (bf_hx:BF F H0.size) (dfx:DFL F K) (hrl:∀x∈l,x.2.length≤1048576) (hel:(encN 0 (recs l)).length≤274877900000) (hl:p.length≤4294960000) (hB:Bd 274877906944 D):
 Ct Tryz.prog w0 44 #[ptr c,ptr c7,ptr c3] H0 (fun r H2=>∃K2:List Nat,∃g2:Gh,r= .int .i64 ((D.lay (newP p) ⟨false,encW (recs l)⟩).1:Int)∧(PDk K2 g2 H2 b (D.lay (newP p) ⟨false,encW (recs l)⟩).2)∧(NxK K H0.size K2)∧Mo (Ms K) H0 H2):=by
 refine Ct.enter (args:=[ptr c,ptr c7,ptr c3]) Tryz.func44 rfl rfl rfl ?_;intro Q0 hret;have hm0:Mo (Ms K) H0 H0:=Mo.refl _ _;have aa:=NxK.refl K H0.size;have aq:=hf.bk;have ar:=hc.lt;have al:=hlg.lt;have am:=hc7.lt;have ao:=hc3.lt;refine CW.sr (fun az=>?_);refine LR.an ?_;refine az _ _ (CW.seq (fun K2 aA _=>?_));refine CW.region_any (fun Hq=>Mo (Ms K) H0 Hq) [] rfl ?_;have ab:Mo (Ms K) H0 H0:=Mo.refl _ _;have aB:=NxK.refl K H0.size;refine LH.t1 0 rfl (fun Hq hq=>Y.load1 (hc.upL hq (dc)).pt rfl a'30 rfl) ab ?_;refine LH.n1 1 rfl ab ?_;refine LH.t1 2 rfl (fun Hq hq=>Y.fieldAddr (hlg.upL hq (dl)).pt rfl u'76 rfl rfl s'26 (by decide) rfl) ab ?_;refine LH.t1 3 rfl (fun Hq hq=>Y.load1 (hlg.upL hq (dl)).pt rfl a'26 rfl) ab ?_;refine LH.t1 4 rfl (fun Hq hq=>Y.load1 (hc7.upL hq (d7)).pt rfl a'9 rfl) ab ?_;refine LH.t1 5 rfl (fun Hq hq=>Y.load1 (hc3.upL hq (d3)).pt rfl a'22 rfl) ab ?_;refine LH.o1 6 ?_;refine LO.call rfl rfl c'46 rfl (Wd.u rfl) rfl rfl (encode_ct s l w0 _ hr.any (fun x h=>(hx x h).any) hrl (by omega)) (fun aG ag aC=>?_);obtain⟨aD,ae,rfl,af,ah,ac⟩:=aC;have aE:DL ae K:=DL.app2 (DL.zK) hf.bk ah;have au:Nx 0 H0.size ae:=Nx.tr (Nx.refl 0 _) ah ab.size;replace hf:=hf.nw ac;replace mx:=mx.nw ac;replace hm0:=hm0.trN ac;replace ab:=ab.trN ac;have aH:=ac.size;have ai:=af.le;refine⟨.inr ab,LH.narrow (SH2:=fun Hq=>Mo (Ms (K++[ae])) ag Hq) (fun Hq hq=>ab.trL hq (MIL.app (MIL.ofK (aB) (by intro k hk;simp[hk])) (MIL.o (MI.q au)))) ?_⟩;have ab:Mo (Ms (K++[ae])) ag ag:=Mo.refl _ _;have aj:=NxK.refl K ag.size;have av:=Nx.refl ae ag.size;refine LH.o1 7 ?_;refine LO.call rfl rfl c'45 rfl (Wd.u rfl) rfl rfl (write_ct mx_ K g b D (newP p) aD (encW (recs l)) _ w0 _ hf mx (bf_mx.mono (by omega)) (dmx) af.rd (BF.of af.le) (DFL.of (aE)) (by rw[newP_len];omega) hB (by unfold encW;rw[List.length_append];have h8:W8.length=8:=rfl;omega)) (fun aI aw aF=>?_);obtain⟨ap,aJ,rfl,hf,ad,ak⟩:=aF;have ax:NxK K H0.size ap:=NxK.tr (aa) ad hm0.size;have ay:NxK K ag.size ap:=NxK.tr (aj) ad ab.size;replace hm0:=hm0.trL ak (MIL.ofK (aa) (by intro k hk;simp[hk]));replace ab:=ab.trL ak (MIL.ofK (aj) (by intro k hk;simp[hk]));refine⟨.inr ab,LH.narrow (SH2:=fun Hq=>Mo (Ms (ap++[ae])) aw Hq) (fun Hq hq=>ab.trL hq (MIL.app (MIL.ofK (ay) (by intro k hk;simp[hk])) (MIL.o (MI.r av)))) ?_⟩;have ab:Mo (Ms (ap++[ae])) aw aw:=Mo.refl _ _;refine LH.t1 8 rfl (fun Hq hq=>Y.assign rfl rfl) ab ?_;refine LH.done (by kernel_rfl) ?_;refine aA _ _ ?_;refine CW.ret (hret .ret (.inr rfl) _ _ _ (res1 rfl rfl) ?_);exact⟨_,_,rfl,hf,ax,hm0⟩
set_option maxHeartbeats 2000000 in
theorem csync_ct(mx_:Int)(K:List Nat)(g:Gh)(b:Nat)(D:Dk)(c lb:Nat)(p:Pth)(n:Nat)(br:Bool)(c7:Nat)(w0:World)(H0:Heap)
 (hf:PDk K g H0 b D) (mx:MX mx_ H0) (bf_mx:BF (fun b=>b=0) H0.size) (dmx:DFL (fun b=>b=0) K) (hc:Var 30 H0 c [ptr lb]) (hlg:Var 76 H0 lb [ptr b,Str p,.int .i64 (n:Int),.bool br]) (dc:DL (c+1) K) (dl:DL (lb+1) K) (hc7:Var 9 H0 c7 [Str (newP p)]) (d7:DL (c7+1) K) (hl:p.length≤4294960000) (hB:Bd 274877906944 D):
 Ct Tryz.prog w0 47 #[ptr c,ptr c7] H0 (fun r H2=>∃K2:List Nat,∃g2:Gh,r= .int .i64 ((D.sync (newP p)).1:Int)∧(PDk K2 g2 H2 b (D.sync (newP p)).2)∧(NxK K H0.size K2)∧Mo (Ms K) H0 H2):=by
 refine Ct.enter (args:=[ptr c,ptr c7]) Tryz.func47 rfl rfl rfl ?_;intro Q0 hret;have hm0:Mo (Ms K) H0 H0:=Mo.refl _ _;have aa:=NxK.refl K H0.size;have ad:=hf.bk;have ae:=hc.lt;have ab:=hlg.lt;have ac:=hc7.lt;refine CW.sr (fun ag=>?_);refine LR.an ?_;refine ag _ _ (CW.seq (fun K2 ah _=>?_));refine CW.region_tail 5 rfl (by kernel_rfl) (fun T1 hT1=>?_);refine LR.v1 (Y.load1 hc.pt rfl a'30 rfl) ?_;refine LR.n1 ?_;refine LR.v1 (Y.FA hlg.pt rfl u'76 rfl s'26) ?_;refine LR.v1 (Y.load1 hlg.pt rfl a'26 rfl) ?_;refine LR.v1 (Y.load1 hc7.pt rfl a'9 rfl) ?_;refine LR.nil (hT1 _ ?_);refine LR.call rfl c'30 rfl (Wd.u rfl) rfl rfl (sync_ct mx_ K g b D (newP p) w0 _ hf mx (bf_mx.mono (by omega)) (dmx) (by rw[newP_len];omega) hB) ?_;rintro v8 H8 ⟨K8,g8,rfl,hf,af,ai⟩;have aj:NxK K H0.size K8:=NxK.tr (aa) af hm0.size;replace hm0:=hm0.trL ai (MIL.ofK (aa) (by intro k hk;simp[hk]));refine LR.an ?_;refine ah _ _ ?_;refine CW.ret (hret .ret (.inr rfl) _ _ _ (res1 rfl rfl) ?_);exact⟨_,_,rfl,hf,aj,hm0⟩
set_option maxHeartbeats 2000000 in
theorem cren_ct(mx_:Int)(K:List Nat)(g:Gh)(b:Nat)(D:Dk)(c lb:Nat)(p:Pth)(n:Nat)(br:Bool)(c7:Nat)(w0:World)(H0:Heap)
 (hf:PDk K g H0 b D) (mx:MX mx_ H0) (bf_mx:BF (fun b=>b=0) H0.size) (dmx:DFL (fun b=>b=0) K) (hc:Var 30 H0 c [ptr lb]) (hlg:Var 76 H0 lb [ptr b,Str p,.int .i64 (n:Int),.bool br]) (dc:DL (c+1) K) (dl:DL (lb+1) K) (hc7:Var 9 H0 c7 [Str (newP p)]) (d7:DL (c7+1) K) (hl:p.length≤4294960000) (hB:Bd 274877906944 D):
 Ct Tryz.prog w0 48 #[ptr c,ptr c7] H0 (fun r H2=>∃K2:List Nat,∃g2:Gh,r= .int .i64 ((D.rename (newP p) p).1:Int)∧(PDk K2 g2 H2 b (D.rename (newP p) p).2)∧(NxK K H0.size K2)∧Mo (Ms K) H0 H2):=by
 refine Ct.enter (args:=[ptr c,ptr c7]) Tryz.func48 rfl rfl rfl ?_;intro Q0 hret;have hm0:Mo (Ms K) H0 H0:=Mo.refl _ _;have aa:=NxK.refl K H0.size;have ae:=hf.bk;have af:=hc.lt;have ac:=hlg.lt;have ad:=hc7.lt;refine CW.sr (fun ah=>?_);refine LR.an ?_;refine ah _ _ (CW.seq (fun K2 ai _=>?_));refine CW.region_tail 9 rfl (by kernel_rfl) (fun T1 hT1=>?_);refine LR.v1 (Y.load1 hc.pt rfl a'30 rfl) ?_;refine LR.n1 ?_;refine LR.v1 (Y.FA hlg.pt rfl u'76 rfl s'26) ?_;refine LR.v1 (Y.load1 hlg.pt rfl a'26 rfl) ?_;refine LR.v1 (Y.load1 hc7.pt rfl a'9 rfl) ?_;refine LR.v1 (Y.load1 hc.pt rfl a'30 rfl) ?_;refine LR.n1 ?_;refine LR.v1 (Y.FA hlg.pt rfl u'76 rfl s'9) ?_;refine LR.v1 (Y.load1 (hlg.pt.drop 1) rfl a'9 rfl) ?_;refine LR.nil (hT1 _ ?_);refine LR.call rfl c'49 rfl (Wd.u rfl) rfl rfl (rename_ct mx_ K g b D (newP p) p w0 _ hf mx (bf_mx.mono (by omega)) (dmx) (by rw[newP_len];omega) (by omega) hB) (fun am ao aj=>?_);obtain⟨ak,ap,rfl,hf,ab,ag⟩:=aj;have al:NxK K H0.size ak:=NxK.tr (aa) ab hm0.size;replace hm0:=hm0.trL ag (MIL.ofK (aa) (by intro k hk;simp[hk]));refine LR.an ?_;refine ai _ _ ?_;refine CW.ret (hret .ret (.inr rfl) _ _ _ (res1 rfl rfl) ?_);exact⟨_,_,rfl,hf,al,hm0⟩
set_option maxHeartbeats 2000000 in
theorem csd_ct(mx_:Int)(K:List Nat)(g:Gh)(b:Nat)(D:Dk)(c lb:Nat)(p:Pth)(n:Nat)(br:Bool)(w0:World)(H0:Heap)
 (hf:PDk K g H0 b D) (mx:MX mx_ H0) (bf_mx:BF (fun b=>b=0) H0.size) (dmx:DFL (fun b=>b=0) K) (hc:Var 30 H0 c [ptr lb]) (hlg:Var 76 H0 lb [ptr b,Str p,.int .i64 (n:Int),.bool br]) (dc:DL (c+1) K) (dl:DL (lb+1) K) (hl:p.length≤4294960000) (hB:Bd 274877906944 D):
 Ct Tryz.prog w0 50 #[ptr c] H0 (fun r H2=>∃K2:List Nat,∃g2:Gh,r= .int .i64 ((D.syncDir (dirP p)).1:Int)∧(PDk K2 g2 H2 b (D.syncDir (dirP p)).2)∧(NxK K H0.size K2)∧Mo (Ms K) H0 H2):=by
 refine Ct.enter (args:=[ptr c]) Tryz.func50 rfl rfl rfl ?_;intro Q0 hret;have hm0:Mo (Ms K) H0 H0:=Mo.refl _ _;have aa:=NxK.refl K H0.size;have ai:=hf.bk;have aj:=hc.lt;have ag:=hlg.lt;refine CW.sr (fun ao=>?_);refine LR.an ?_;refine ao _ _ (CW.seq (fun K2 ap _=>?_));refine CW.region_any (fun Hq=>Mo (Ms K) H0 Hq) [] rfl ?_;have ab:Mo (Ms K) H0 H0:=Mo.refl _ _;have aq:=NxK.refl K H0.size;refine LH.t1 0 rfl (fun Hq hq=>Y.load1 (hc.upL hq (dc)).pt rfl a'30 rfl) ab ?_;refine LH.n1 1 rfl ab ?_;refine LH.t1 2 rfl (fun Hq hq=>Y.fieldAddr (hlg.upL hq (dl)).pt rfl u'76 rfl rfl s'26 (by decide) rfl) ab ?_;refine LH.t1 3 rfl (fun Hq hq=>Y.load1 (hlg.upL hq (dl)).pt rfl a'26 rfl) ab ?_;refine LH.t1 4 rfl (fun Hq hq=>Y.load1 (hc.upL hq (dc)).pt rfl a'30 rfl) ab ?_;refine LH.n1 5 rfl ab ?_;refine LH.t1 6 rfl (fun Hq hq=>Y.fieldAddr (hlg.upL hq (dl)).pt rfl u'76 rfl rfl s'9 (by decide) rfl) ab ?_;refine LH.t1 7 rfl (fun Hq hq=>Y.load1 ((hlg.upL hq (dl)).pt.drop 1) rfl a'9 rfl) ab ?_;refine LH.o1 8 ?_;refine LO.call rfl rfl c'52 rfl (Wd.u rfl) rfl rfl (dir_ct mx_ p w0 _ mx (bf_mx.mono (by omega)) (by omega)) (fun aw ae ar=>?_);obtain⟨rfl,ac⟩:=ar;replace hf:=hf.nw ac;replace mx:=mx.nw ac;replace hm0:=hm0.trN ac;replace ab:=ab.trN ac;have ax:=ac.size;refine⟨.inr ab,LH.narrow (SH2:=fun Hq=>Mo (Ms K) ae Hq) (fun Hq hq=>ab.trL hq (MIL.ofK (aq) (by intro k hk;simp[hk]))) ?_⟩;have ab:Mo (Ms K) ae ae:=Mo.refl _ _;have am:=NxK.refl K ae.size;refine LH.o1 9 ?_;refine LO.call rfl rfl c'51 rfl (Wd.u rfl) rfl rfl (syncDir_ct mx_ K g b D (dirP p) w0 _ hf mx (bf_mx.mono (by omega)) (dmx) (by have:=dirP_le p;omega) hB) (fun ay ak au=>?_);obtain⟨ah,az,rfl,hf,ad,af⟩:=au;have av:NxK K H0.size ah:=NxK.tr (aa) ad hm0.size;have al:NxK K ae.size ah:=NxK.tr (am) ad ab.size;replace hm0:=hm0.trL af (MIL.ofK (aa) (by intro k hk;simp[hk]));replace ab:=ab.trL af (MIL.ofK (am) (by intro k hk;simp[hk]));refine⟨.inr ab,LH.narrow (SH2:=fun Hq=>Mo (Ms ah) ak Hq) (fun Hq hq=>ab.trL hq (MIL.ofK (al) (by intro k hk;simp[hk]))) ?_⟩;have ab:Mo (Ms ah) ak ak:=Mo.refl _ _;refine LH.t1 10 rfl (fun Hq hq=>Y.assign rfl rfl) ab ?_;refine LH.done (by kernel_rfl) ?_;refine ap _ _ ?_;refine CW.ret (hret .ret (.inr rfl) _ _ _ (res1 rfl rfl) ?_);exact⟨_,_,rfl,hf,av,hm0⟩
end WalD
end Go.Proofs.YtdliddjkacbggaaGreatDoor
