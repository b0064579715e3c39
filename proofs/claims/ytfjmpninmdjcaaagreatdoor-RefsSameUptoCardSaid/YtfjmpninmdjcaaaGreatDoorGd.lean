/-
  Contracts of functions of the program, and plain laws: put together of several texts.
-/
import Derived.Test.YtfjmpninmdjcaaaGreatDoorGc
import Derived.Test.YtfjmpninmdjcaaaGreatDoorGa
import Derived.Test.YtfjmpninmdjcaaaGreatDoorGb
set_option linter.unusedVariables false
set_option linter.unusedSimpArgs false
set_option linter.unusedSectionVars false
set_option linter.defProp false
set_option maxHeartbeats 8000000
set_option maxRecDepth 20000
namespace Go.Proofs.YtfjmpninmdjcaaaGreatDoor

namespace gy
open E Go.RowKit eJ eN eW e3 ey eX eY fF fG pB fO fY gg gx
set_option maxRecDepth 100000 in
theorem jY:c6 Tryz.prog 44 71 33 48:=⟨Tryz.underlying44,_,_,rfl,rfl,rfl,rfl,rfl⟩
set_option maxRecDepth 100000 in
theorem jZ:c6 Tryz.prog 45 62 2 40:=⟨Tryz.underlying45,_,_,rfl,rfl,rfl,rfl,rfl⟩
theorem xq{a:bA}{i:Nat}{x:UInt8}(h:a.k.1[i]?=some x):((bM a).drop 0)[i]?=some (.int .u8 x.toNat):=by
 rw[List.drop_zero,bM,List.getElem?_append_left (by rw[bB];have:=(List.getElem?_eq_some_iff.1 h).1;rw[a.k.2]at this;exact this),b7,List.getElem?_map,h];rfl
def od(l:List bA):Prop:=l.Pairwise (fun a b=>blt a.k.1 b.k.1)
theorem od.of{l:List bA}(h:dc (cl l)):od l:=by unfold dc cl at h;rw[List.pairwise_map]at h;exact h
theorem EI(a b:bA)(w0:World)(I:Heap)
 :
 aC Tryz.prog w0 61 #[gZ a,gZ b] I (fun r d=>r= .int .i64 (Lib.compareBytes a.k.1 b.k.1)∧ak I d):=by
 refine aC.aK [gZ a,gZ b] Tryz.func61 ?_;intro O M;have j:ak I I:=V.refl _ _;refine G.L (fun ac=>?_);refine o.aO cr ?_;rintro v2 d ⟨rfl,k,A,S,ad⟩;have Q:d.size=I.size+1:=by rw[ad];simp
 replace j:=j.L A;have T:=A.size;replace k:Var 68 d I.size (bM a):=k;refine o.aO cr ?_;rintro v3 t ⟨rfl,n,q,au,E⟩;have R:t.size=d.size+1:=by rw[E];simp
 replace k:=k.M q;replace j:=j.L q;have am:=q.size;replace n:Var 68 t d.size (bM b):=n;refine o.aj ?_;refine ac (G.t1 (fun H=>?_));refine iV 4 (fun P L=>?_);refine o.v1 (Y.ai k.N rfl eS rfl a_) ?_;refine o.aK (g:=fun v=>v) (Y.pk (F:=fun c=>c=I.size) (f:=a1) (xs:=a.k.1) k.N rfl k.lt (a.k.2) (fun i x h=>⟨xq h,rfl⟩) (0) (32) rfl (fun w=> .inl (k8 w)) cL rfl (.inl ⟨rfl,rfl⟩) (.inl ⟨rfl,rfl⟩) (by omega) (by omega) (by decide)) fun v6 B=>?_;rw[List.drop_zero,List.take_of_length_le (by rw[a.k.2];omega)]at B;refine o.v1 (Y.ai n.N rfl eS rfl a_) ?_;refine o.aK (g:=fun v=>v) (Y.pk (F:=fun c=>c=d.size) (f:=a1) (xs:=b.k.1) n.N rfl n.lt (b.k.2) (fun i x h=>⟨xq h,rfl⟩) (0) (32) rfl (fun w=> .inl (k8 w)) cL rfl (.inl ⟨rfl,rfl⟩) (.inl ⟨rfl,rfl⟩) (by omega) (by omega) (by decide)) fun W C=>?_;rw[List.drop_zero,List.take_of_length_le (by rw[b.k.2];omega)]at C;refine o.nil (L _ ?_);refine aV BZ (Cw _ _ a.k.1 b.k.1 w0 _ B.any C.any) ?_;rintro v9 N ⟨rfl,K⟩;replace j:=j.L K;refine o.aj ?_;refine H ?_;refine G.ret (M ?_);exact⟨rfl,j⟩
theorem xe(w0:World)(H:Heap)(x y:bA):fa Tryz.prog w0 (.func (.func 61) #[] #[]) [gZ x,gZ y] H (fun r d=>r= .int .i64 (Lib.compareBytes x.k.1 y.k.1)∧ak H d):=
 fa.of (caps:=[]) BY (EI x y w0 H)
theorem AI(v1:Value)(l:List bA)(x:bA)(w0:World)(I:Heap)
 (A:bw I bM 33 v1 l) (bb:l.length≤1000000) (ao:od l):
 aC Tryz.prog w0 60 #[v1,gZ x,.func (.func 61) #[] #[]] I (fun r Z=>∃at_:Nat,∃fd:Bool,r= .tuple #[.int .i64 (at_:Int),.bool fd]∧(at_≤l.length∧(∀j (h:j<l.length),j<at_→blt l[j].k.1 x.k.1)∧(∀j (h:j<l.length),at_≤j→¬blt l[j].k.1 x.k.1))∧(fd=true↔∃h:at_<l.length,l[at_].k=x.k)∧ak I Z):=by
 refine aC.aK [v1,gZ x,.func (.func 61) #[] #[]] Tryz.func60 ?_;intro aN X;have C:ak I I:=V.refl _ _;replace A:=A.bt;refine G.L (fun aB=>?_);refine o.aO cr ?_;rintro v4 L ⟨rfl,E,M,aS,aE⟩;have a8:L.size=I.size+1:=by rw[aE];simp
 replace A:=A.M M;replace C:=C.L M;have aV:=M.size;replace E:Var 68 L I.size (bM x):=E;refine o.aR 2 ?_;refine aB (G.L (fun aF=>?_));refine o.W ?_;refine o.v1 (ba A cq) ?_;refine o.aj ?_;refine aF (G.L (fun aH=>?_));refine o.aR 3 ?_;refine aH (G.t1 (fun aI=>G.aB (fun _ aa _=>?_)))
 refine G.bd (fun(aL:(Nat)×(Nat))=>match aL with|(i,j)=>[(0,v1),(2,.func (.func 61) #[] #[]),(4,.pointer (some ⟨I.size,0,none⟩)),(8,.int .i64 (l.length:Int)),(9,.int .i64 (i:Int)),(10,.int .i64 (j:Int))])
  (fun(i,j) (H:Heap)=>(i≤j∧j≤l.length)∧(∀q (h:q<l.length),q<i→blt l[q].k.1 x.k.1)∧(∀q (h:q<l.length),j≤q→¬blt l[q].k.1 x.k.1)∧ak L H)
  (fun(i,j)=>j-i) (0,l.length) ⟨rfl,rfl,rfl,rfl,rfl,rfl,trivial⟩ ?_ ?_
 ·
  exact⟨(by omega),fun q h U=>by omega,fun q h U=>by omega,V.refl _ _⟩
 rintro⟨i,j⟩ S ab aM ap ae;obtain⟨a_,N,U,B⟩:=ab;replace A:=A.M B;replace E:=E.M B;replace C:=C.L B;have aX:=B.size;refine G.t2 (fun af ag=>G.L (fun ah=>?_));refine o.ax 2 ?_;refine o.v1 bG (o.nil (ah ?_));refine aT (fun ai=>?_) (fun ai=>?_)
 ·
  refine G.skip (af (G.aB (fun T _ _=>G.L (fun ay=>?_))));refine o.ax 2 ?_;refine o.v1 (Y.cast (v2:= .int .i64 ((i+j:Nat):Int)) bD (fJ (by omega))) ?_;refine o.v1 (Y.hx rfl gl tP rfl) ?_;refine o.v1 (Y.cast (v2:= .int .u64 (((i+j)/2:Nat):Int)) (Y.ph (1) rfl rfl rfl (by first|rfl|omega) (by omega)) (by rw[ts,UInt64.toNat_ofNat',Nat.mod_eq_of_lt (by omega)])) ?_;refine o.v1 (Y.vE rfl tP gl rfl (IntWalk.i64_in _ (by omega))) ?_;refine o.aj ?_;refine ay (G.t1 (fun az=>?_));refine iV 6 (fun aO aJ=>?_);refine o.ax 3 ?_;refine o.bR (Y.mS A ((i+j)/2) rfl cq cf rfl rfl (by first|rfl|omega) (by omega)) fun aQ au=>?_;refine o.v1 (aW au.N hF cf (cZ _)) ?_;refine o.v1 (aW E.N hF cf (cZ _)) ?_;refine o.nil (aJ _ ?_);refine o.kl rfl rfl rfl cR rfl rfl (xe w0 _ _ x) (fun aY aZ aj=>?_);obtain⟨rfl,Q⟩:=aj;replace B:=B.L Q;have a1:=Q.size;refine o.v1 bG (o.nil (az ?_));refine aT (fun K=>?_) (fun K=>?_)
  ·
   refine G.region ?_;refine o.W ?_;refine o.v1 bD ?_;refine o.aj ?_;refine T ?_;refine aP.sub (ap ((i+j)/2+1,j) _ ?_ ?_) ⟨rfl,rfl,rfl,(aD (by omega)),(aD (by omega)),(aD (by omega)),trivial⟩
   ·exact⟨(by omega),fun q h P=>by
     by_cases n:q=(i+j)/2
     ·subst n;exact oE.1 K
     ·exact np (List.pairwise_iff_getElem.1 ao q ((i+j)/2) h (by omega) (by omega)) (oE.1 K),U,B⟩
   ·first|omega|(simp only;omega)|(simp;omega)
  ·
   refine G.region ?_;refine o.aR 2 ?_;refine T ?_;refine aP.sub (ap (i,(i+j)/2) _ ?_ ?_) ⟨rfl,rfl,rfl,(aD (by omega)),(aD (by omega)),(aD (by omega)),trivial⟩
   ·exact⟨(by omega),N,fun q h P W=>by
     by_cases n:q=(i+j)/2
     ·subst n;exact absurd (oE.2 W) K
     ·exact absurd (oE.2 (np (List.pairwise_iff_getElem.1 ao ((i+j)/2) q (by omega) h (by omega)) W)) K,B⟩
   ·first|omega|(simp only;omega)|(simp;omega)
 ·
  refine G.exit (ag (ae (aa ?_)));refine aI (G.t1 (fun R=>?_));refine dC (fun t=>ak S t) [] ?_;have k:=ak.refl S;refine O.W 0 rfl k ?_;refine O.W 1 rfl k ?_;refine O.W 2 rfl k ?_;refine O.t1 3 rfl (fun t n=>bG) k ?_;refine O.W 4 rfl k ?_;refine O.bj (d:=39) rfl (fun an=>?_) (fun an=>?_)
  ·
   refine O.bQ 5 rfl (fun t n=>fp) bh k ?_;refine O.bQ 6 rfl (fun t n=>fp) bh k ?_;refine O.bQ 7 rfl (fun t n=>fp) bh k ?_;refine O.e (g:=fun ad=> .pointer (some ad)) 8 (by kernel_rfl) rfl (by kernel_rfl) (by kernel_rfl) (by kernel_rfl) (Y.mS A (_) rfl cq cf rfl rfl rfl (by first|omega|(simp;omega)|(simp;done))) bh rfl rfl k (fun aR am=>?_);refine O.bQ 9 rfl (fun t n=>aW (am.N.M n) hF cf (cZ _)) bh k ?_;refine O.bQ 10 rfl (fun t n=>aW (E.N.M n) hF cf (cZ _)) bh k ?_;refine O.aY 11 ?_;refine dD.kl rfl rfl rfl rfl bh rfl rfl (xe w0 _ _ x) (fun a6 aA aq=>?_);obtain⟨rfl,ac⟩:=aq;replace C:=C.L ac;have a7:=ac.size;have ar:=k.L ac;refine O.cn ar ?_;have F:=ak.refl aA;refine O.bQ 12 rfl (fun t n=>b9) bh F ?_;refine O.t1 13 rfl (fun t n=>eh) F ?_;refine O.t1 14 rfl (fun t n=>ev) F ?_;refine O.t1 15 rfl (fun t n=>ev) F ?_;refine cD ?_;have aK:=F;refine R ?_;refine G.ret (X ?_);exact⟨i,_,rfl,⟨by omega,N,fun q h P=>U q h (by omega)⟩,⟨fun h=>⟨by omega,Subtype.ext (r0.1 (of_decide_eq_true h))⟩,fun⟨_,h⟩=>decide_eq_true (r0.2 (by rw[h]))⟩,C⟩
  ·
   refine O.g1 5 rfl rfl rfl rfl k ?_;refine O.g1 6 rfl rfl rfl rfl k ?_;refine O.g1 7 rfl rfl rfl rfl k ?_;refine O.g1 8 rfl rfl rfl rfl k ?_;refine O.g1 9 rfl rfl rfl rfl k ?_;refine O.g1 10 rfl rfl rfl rfl k ?_;refine O.g1 11 rfl rfl rfl rfl k ?_;refine O.g1 12 rfl rfl rfl rfl k ?_;refine O.t1 13 rfl (fun t n=>dI) k ?_;refine O.t1 14 rfl (fun t n=>ev) k ?_;refine O.t1 15 rfl (fun t n=>ev) k ?_;refine cD ?_;have aK:=k;refine R ?_;refine G.ret (X ?_);exact⟨i,_,rfl,⟨by omega,N,fun q h P=>U q h (by omega)⟩,⟨fun h=>(by cases h),fun⟨h,_⟩=>(by omega)⟩,C⟩
abbrev rq(z:aM×List cA):Value:=z.1.v
abbrev lF:aM×List cA:=(cO,[])
theorem sN{β:Type}{m:List (aH×β)}{k:aH}{b:β}{p:aH×β}(h:p∈fK m k b):p.2=b∨p∈m:=by
 unfold fK at h;split at h
 ·obtain⟨q,d,e⟩:=List.mem_map.1 h
  split at e
  ·rw[←e];exact .inl rfl
  ·rw[←e];exact .inr d
 ·rcases List.mem_append.1 h with h|h
  ·exact .inr h
  ·rw[List.mem_singleton.1 h];exact .inl rfl
theorem Eh{l:List e5}{m:List (aH×(aM×List cA))}{j:Nat}(aA:((cm l).map (·.1)).Nodup)(h:∀q,(aL m q).map (·.2)=aL (cm (l.take j)) q)(i:j<l.length):∀q,(aL (fK m l[j].n (l[j].v,l[j].l)) q).map (·.2)=aL (cm (l.take (j+1))) q:=by
 intro q;have e:cm (l.take (j+1))=cm (l.take j)++[(l[j].n,l[j].l)]:=by unfold cm;rw[List.take_succ_eq_append_getElem i,List.map_append];rfl
 have o:aL (cm (l.take j)) l[j].n=none:=by
  cases n:aL (cm (l.take j)) l[j].n with
  |none=>rfl
  |some z=>
   have k:=gP.1 (show(aL (cm (l.take j)) l[j].n).isSome=true by rw[n];rfl)
   have U:(cm l).map (·.1)=(cm (l.take j)).map (·.1)++l[j].n::(cm (l.drop (j+1))).map (·.1):=by
    conv=>lhs;rw[←List.take_append_drop j l,List.drop_eq_getElem_cons i]
    unfold cm;rw[List.map_append,List.map_append,List.map_cons,List.map_cons]
   rw[U,List.nodup_append]at aA;exact absurd rfl (aA.2.2 _ k _ List.mem_cons_self)
 rw[kU,e,ru.sK];by_cases d:q=l[j].n
 ·rw[if_pos d,d,o,if_pos rfl];rfl
 ·rw[if_neg d,if_neg d,h];simp
theorem yn{aS:Nat→Prop}{H:Heap}{m:List (aH×(aM×List cA))}{k:aH}{z:aM×List cA}(h:∀p∈m,Rd aS H dm 65 p.2.1.v p.2.2)(d:z=(aL m k).getD lF):Rd aS H dm 65 z.1.v z.2:=by
 cases i:aL m k with
 |none=>rw[i]at d;rw[d];exact Rd.nil _ _ _ _
 |some y=>rw[i]at d;rw[d];exact h _ (E.o1 i)
theorem Eb{m:List (aH×(aM×List cA))}{k:aH}{z:aM×List cA}{n:Nat}(h:∀p∈m,p.2.2.length≤n)(d:z=(aL m k).getD lF):z.2.length≤n:=by
 cases i:aL m k with
 |none=>rw[i]at d;rw[d];exact Nat.zero_le _
 |some y=>rw[i]at d;rw[d];exact h _ (E.o1 i)
theorem Eg{m:List (aH×(aM×List cA))}{d:ke}{y:bF}{s:aM}{z:aM×List cA}(h:∀q,(aL m q).map (·.2)=aL d q)(c9:dc d)(hw:¬y.w=bz)(j:z=(aL m y.n).getD lF):∀q,(aL (fK m y.n (s,hX (z.2++[⟨y.J,y.w,y.y⟩]))) q).map (·.2)=aL (hl d y) q:=by
 intro q
 have e:(aL d y.n).getD []=z.2:=by
  rw[←h]
  cases k:aL m y.n with
  |none=>rw[k]at j;rw[j];rfl
  |some w=>rw[k]at j;rw[j];rfl
 unfold hl;rw[if_neg hw,kU,o0 _ _ _ _ c9,e];by_cases i:q=y.n
 ·rw[if_pos i,if_pos i];rfl
 ·rw[if_neg i,if_neg i,h]
theorem Ee{m:List (aH×(aM×List cA))}{i:ke}{y:bF}(h:∀q,(aL m q).map (·.2)=aL i q)(hw:y.w=bz):∀q,(aL (d_ m y.n) q).map (·.2)=aL (hl i y) q:=by
 intro q;unfold hl;rw[if_pos hw,jg,jg];by_cases d:q=y.n
 ·rw[if_pos d,if_pos d];rfl
 ·rw[if_neg d,if_neg d,h]
def h3(m:List (aH×cX))(x:aH):cw:=⟨x,(aL m x).getD bz⟩
def ij(m:List (aH×(aM×List cA)))(x:aH):e5:=⟨x,((aL m x).getD lF).1,((aL m x).getD lF).2⟩
theorem sI{β:Type}(f:aH→β):∀(out:List aH) (q:aH),aL (out.map (fun x=>(x,f x))) q=if q∈out then some (f q)else none
 |[],q=>by simp[aL]
 |x::out,q=>by
  rw[List.map_cons,aL,sI f out q];by_cases d:q=x
  ·subst d;simp
  ·simp[d]
theorem wI{β:Type}{f:aH→β}{out:List aH}(h:jL out):dc (out.map (fun x=>(x,f x))):=by
 unfold dc;rw[List.pairwise_map];exact h
theorem Dm{m:List (aH×cX)}{u:dP}{out:List aH}(hu:dc u)(j:∀q,aL m q=aL u q)(i:jL out)(hm:∀k,k∈out↔k∈m.map (·.1)):bN (out.map (h3 m))=u:=by
 have e:bN (out.map (h3 m))=out.map (fun x=>(x,(aL m x).getD bz)):=by simp[bN,h3]
 rw[e];refine sh (wI i) hu (fun q=>?_);rw[sI,←j];by_cases h:q∈out
 ·rw[if_pos h]
  have U:=gP.2 ((hm q).1 h);obtain⟨z,d⟩:=Option.isSome_iff_exists.1 U;rw[d];rfl
 ·rw[if_neg h]
  cases d:aL m q with
  |none=>rfl
  |some z=>exact absurd ((hm q).2 (gP.1 (by rw[d];rfl))) h
theorem Dl{m:List (aH×cX)}{w:List (aH×(aM×List cA))}{u:dP}{d:ke}{out:List aH}(r:dc d)(t:d.map (·.1)=u.map (·.1))(B:∀q,aL m q=aL u q)(hw:∀q,(aL w q).map (·.2)=aL d q)(A:jL out)(hm:∀k,k∈out↔k∈m.map (·.1)):cm (out.map (ij w))=d:=by
 have e:cm (out.map (ij w))=out.map (fun x=>(x,((aL w x).getD lF).2)):=by simp[cm,ij]
 rw[e];refine sh (wI A) r (fun q=>?_)
 have o:q∈out↔(aL d q).isSome=true:=by
  rw[hm,←gP,B,gP,←t,gP]
 rw[sI];by_cases h:q∈out
 ·rw[if_pos h]
  obtain⟨z,j⟩:=Option.isSome_iff_exists.1 (o.1 h);rw[j];have i:=hw q;rw[j]at i
  cases n:aL w q with
  |none=>rw[n]at i;cases i
  |some y=>rw[n]at i;rw[←i];rfl
 ·rw[if_neg h]
  cases j:aL d q with
  |none=>rfl
  |some z=>exact absurd (o.2 (by rw[j];rfl)) h
theorem EW(y:bA)(s:aM):(bM y).set 32 s.v=bM ⟨y.k,s,y.d⟩:=by
 unfold bM;rw[List.set_append,if_neg (by rw[bB];omega),bB];rfl
theorem vN{l:List bA}{x:bA}{p:Nat}(d:∀j (h:j<l.length),j<p→blt l[j].k.1 x.k.1)(n:p<l.length)(U:l[p].k=x.k):cl (l.set p x)=dZ (cl l) x.k.1 x.d:=by
 rw[Dz (k:=p) (by simpa[cl]using n) (fun j h i=>by have:=d j (by simpa[cl]using h) i;simpa[cl]using this) (by simp[cl,U])];simp[cl,List.map_set]
theorem CY{l:List bA}{x:bA}{p:Nat}(i:∀j (h:j<l.length),j<p→blt l[j].k.1 x.k.1)(n:∀j (h:j<l.length),p≤j→¬blt l[j].k.1 x.k.1)(A:p≤l.length)(U:¬ ∃h:p<l.length,l[p].k=x.k):cl (l.take p++x::l.drop p)=dZ (cl l) x.k.1 x.d:=by
 rw[sj (k:=p) (by simpa[cl]using A) (fun j h t=>by have:=i j (by simpa[cl]using h) t;simpa[cl]using this) (fun h=>by
  have d:p<l.length:=by simpa[cl]using h
  have o:=n p d (Nat.le_refl _);have q:¬l[p].k=x.k:=fun e=>U ⟨d,e⟩;simp only[cl,List.getElem_map];refine Classical.byContradiction (fun r=>q (Subtype.ext (lS o r))))]
 simp[cl,List.map_take,List.map_drop]
theorem yH{F aS:Nat→Prop}{H:Heap}{l:List bA}{x:bA}(p:Nat)(h:∀y∈l,Rd F H a1 1 y.v.v y.d)(d:∀b,F b→aS b)(i:Rd aS H a1 1 x.v.v x.d):∀y∈l.set p x,Rd aS H a1 1 y.v.v y.d:=by
 intro y hy;rcases List.mem_or_eq_of_mem_set hy with hy|hy
 ·exact(h y hy).imp (fun b _ e=>d b e)
 ·rw[hy];exact i
theorem DV{F aS:Nat→Prop}{H:Heap}{l:List bA}{x:bA}(p:Nat)(h:∀y∈l,Rd F H a1 1 y.v.v y.d)(d:∀b,F b→aS b)(i:Rd aS H a1 1 x.v.v x.d):∀y∈l.take p++x::l.drop p,Rd aS H a1 1 y.v.v y.d:=by
 intro y hy;rcases List.mem_append.1 hy with hy|hy
 ·exact(h y (List.mem_of_mem_take hy)).imp (fun b _ e=>d b e)
 ·rcases List.mem_cons.1 hy with hy|hy
  ·rw[hy];exact i
  ·exact(h y (List.mem_of_mem_drop hy)).imp (fun b _ e=>d b e)
theorem zT{el:List bA}{l:jJ}{n:Nat}:(gA l (el.take n)).length≤l.length+n:=by
 have d:=rG (el.take n) l;have U:(el.take n).length≤n:=by rw[List.length_take];exact Nat.min_le_left _ _
 omega
set_option maxHeartbeats 16000000 in
theorem Aj(s:c2)(t:b0)(F fV:Nat→Prop)(w0:World)(I:Heap)
 (ao:e4 F I s) (fk:bg F I.size) (M:e6 fV I t) (eb:bg fV I.size) (ok:s.m.Ok) (av:eE s.m t=0) (fO:lf t):
 aC Tryz.prog w0 24 #[ed s,eg t] I (fun r bj=>∃fP:c2,r=ed fP∧(e4 (fun b=>I.size≤b) bj fP)∧(fP.m=s.m.ap t)∧ak I bj):=by
 refine aC.enter (args:=[ed s,eg t]) Tryz.func24 rfl rfl rfl ?_;intro k1 kT;have B:ak I I:=V.refl _ _;have nh:=ok.ap av;have gM:=p0 av;have ni:=fO.a6;have nj:=fO.ml;have nk:=fO.el;have z3:=ok.iM;refine G.L (fun f0=>?_);refine o.aO cr ?_;rintro v2 bj ⟨rfl,aY,eY,mA,f1⟩;have f2:bj.size=I.size+1:=by rw[f1];simp
 replace ao:=ao.M eY;replace M:=M.M eY;replace B:=B.L eY;have mC:=eY.size;replace aY:Var 47 bj I.size (bS s):=aY;refine o.aO cr ?_;rintro v3 X ⟨rfl,E,et,mD,f3⟩;have f4:X.size=bj.size+1:=by rw[f3];simp
 replace ao:=ao.M et;replace M:=M.M et;replace aY:=aY.M et;replace B:=B.L et;have mF:=et.size;replace E:Var 32 X bj.size (df t):=E;refine o.aO (cQ jq) ?_;rintro v4 ho ⟨rfl,C,dL,mG,f5⟩;have f6:ho.size=X.size+1:=by rw[f5];simp
 have iu:T 0 I.size (X.size+1):=T.new B.size;replace ao:=ao.M dL;replace M:=M.M dL;replace aY:=aY.M dL;replace E:=E.M dL;replace B:=B.L dL;have mH:=dL.size;refine o.nil (f0 (G.L (fun f7=>?_)));refine o.v1 (aW aY.N fg dx (b8 _)) ?_;refine aV vj (zf s F w0 _ ao (fk.mono B.size) ok) (fun mI N f8=>?_);obtain⟨s2,bc,aS,rfl,K,A,fJ,kF,hg,fH,dP,dv⟩:=f8;have iv:=ay.app (ay.z) (eb.mono B.size) fJ;have gS:af (X.size+1) bc:=af.app (af.z) C.lt fJ;have gT:T 0 I.size bc:=T.L (T.refl 0 _) fJ B.size;replace ao:=ao.M dv;replace M:=M.M dv;replace aY:=aY.M dv;replace E:=E.M dv;replace C:=C.M dv;replace B:=B.L dv;have mJ:=dv.size;have gh:=A.le;have dc:=kF;have fp:ay _ (X.size+1):=ay.iZ hg (by first|exact mY|exact mZ|omega);have m3:=K.g.len;have fG:∀c,aS c→I.size≤c:=fun c e=>by have db:=hg c e;omega
 refine o.aO (cQ jq) ?_;rintro v5 hp ⟨rfl,d,cH,mK,f9⟩;have ly:hp.size=N.size+1:=by rw[f9];simp
 have fq:=(ay.new (fk.mono B.size):ay _ (N.size+1));have cS:=(ay.new (eb.mono B.size):ay _ (N.size+1));have fr:af (I.size+1) (N.size+1):=af.new aY.lt;have c1:af (bj.size+1) (N.size+1):=af.new E.lt;have c3:af (X.size+1) (N.size+1):=af.new C.lt;have c5:af bc (N.size+1):=af.new A.le;have a5:=(ay.new (dc.mono (by omega)):ay _ (N.size+1));have bT:T 0 I.size (N.size+1):=T.new B.size;replace ao:=ao.M cH;replace M:=M.M cH;replace aY:=aY.M cH;replace E:=E.M cH;replace C:=C.M cH;replace A:=A.M cH;replace K:=K.M cH;replace B:=B.L cH;have mL:=cH.size;refine o.s1 (dy d (_) (bS s2) (iG _) dx (b8 _) ((c0 (b8 _).symm))) fun eN ix=>?_;obtain⟨d,b4⟩:=ix;replace b4:=b4.bp;replace ao:=ao.ab b4 (az.J fq);replace M:=M.ab b4 (az.J cS);replace aY:=aY.ab b4 (ah.J fr);replace E:=E.ab b4 (ah.J c1);replace C:=C.ab b4 (ah.J c3);replace A:=A.ab b4 (ah.J c5);replace K:=K.ab b4 (az.J a5);replace B:=B.bl b4 (ag.J (aq.q bT));have mM:=b4.size;refine o.nil (f7 ?_)
 refine G.cut (fun(aR:(List UInt8))=>[(2,.pointer (some ⟨I.size,0,none⟩)),(3,.pointer (some ⟨bj.size,0,none⟩)),(4,.pointer (some ⟨X.size,0,none⟩)),(5,.pointer (some ⟨N.size,0,none⟩))])
  (fun(aR:(List UInt8)) (H:Heap)=>(Var 47 H N.size (bS {s2 with al:=aR}))∧(aR=if t.bE=true then t.al else s2.al)∧V (aE [(N.size+1)]) eN H) (fun _ hc _=>?_) ?_
 ·
  have eO:V (aE [(N.size+1)]) eN eN:=V.refl _ _;have hG:=T.refl (N.size+1) eN.size;refine G.L (fun ku=>?_);refine o.v1 (Y.ai E.N rfl bx rfl cW) ?_;refine o.v1 (ar E.N dr) (o.nil (ku ?_));refine cI (fun fz=>?_) (fun fz=>?_)
  ·
   refine G.region ?_;refine o.v1 (Y.ai E.N rfl bx rfl bO) ?_;refine o.v1 (ar (E.N.drop 1) bL) ?_;refine o.v1 (Y.ai d.N rfl ca rfl bO) ?_;refine o.s1 (dh d 0 (bS {s2 with al:=t.al}) (rfl) bO (by rw[b8];omega) ((yV _))) fun gc iy=>?_;obtain⟨d,eV⟩:=iy;replace eV:=eV.bp;replace eO:=eO.aJ eV (ag.J (aq.r hG));have mN:=eV.size;refine o.nil ?_;refine aP.sub (hc (t.al) _ ?_) ⟨rfl,rfl,rfl,rfl,trivial⟩;exact⟨d,by rw[if_pos fz],eO⟩
  ·
   refine G.skip ?_;refine aP.sub (hc (s2.al) _ ?_) ⟨rfl,rfl,rfl,rfl,trivial⟩;exact⟨d,by rw[if_neg (by simp[fz])],eO⟩
 ·
  intro aR eF hB;obtain⟨d,kH,cz⟩:=hB;replace ao:=ao.ab cz (az.J fq);replace M:=M.ab cz (az.J cS);replace aY:=aY.ab cz (ah.J fr);replace E:=E.ab cz (ah.J c1);replace C:=C.ab cz (ah.J c3);replace A:=A.ab cz (ah.J c5);replace K:=K.ab cz (az.J a5);replace B:=B.bl cz (ag.J (aq.q bT));have l9:=cz.size
  refine G.cut (fun(cL:(cY)×(Nat→Prop))=>match cL with|(bd,cP)=>[(2,.pointer (some ⟨I.size,0,none⟩)),(3,.pointer (some ⟨bj.size,0,none⟩)),(4,.pointer (some ⟨X.size,0,none⟩)),(5,.pointer (some ⟨N.size,0,none⟩))])
   (fun(bd,cP) (H:Heap)=>(Var 47 H N.size (bS {s2 with al:=aR,q:=bd}))∧(∀u:Unit,Rd cP H c4 33 bd.cM.v bd.a6)∧(bg cP H.size)∧(ay cP (N.size+1))∧(ay cP bc)∧(ay cP (X.size+1))∧(∀c,cP c→I.size≤c)∧(bd.p=if t.ao=true then(if t.q.k=0 then hN else t.q.p)else s.m.q)∧V (aE [(N.size+1)]) eF H) (fun _ fA _=>?_) ?_
  ·
   have bX:V (aE [(N.size+1)]) eF eF:=V.refl _ _;have fe:=T.refl (N.size+1) eF.size;refine G.L (fun kv=>?_);refine o.v1 (Y.ai E.N rfl bx rfl cW) ?_;refine o.v1 (ar (E.N.drop 3) dr) (o.nil (kv ?_));refine cI (fun eZ=>?_) (fun eZ=>?_)
   ·
    refine G.L (fun ge=>?_);refine o.v1 (Y.ai E.N rfl bx rfl cT) ?_;refine o.v1 (Y.cast (v2:=eo t.q) (aW ((E.N.drop 4).take 70) h8 cT (by rw[jc];exact ef _)) (b6 (jc t))) ?_;refine o.v1 (Y.ai d.N rfl ca rfl cT) ?_;refine o.s1 (S.var d (_) (bS {s2 with al:=aR,q:=t.q}) rfl rfl rfl rfl ((kp _)) cT (ef _) (by rw[b8];exact Nat.le_of_ble_eq_true rfl) ((q6 _))) fun lY iA=>?_;obtain⟨d,cw⟩:=iA;replace cw:=cw.bp;replace M:=M.ab cw (az.J cS);replace E:=E.ab cw (ah.J c1);replace C:=C.ab cw (ah.J c3);replace A:=A.ab cw (ah.J c5);replace B:=B.bl cw (ag.J (aq.q bT));replace bX:=bX.aJ cw (ag.J (aq.r fe));have eu:=cw.size;refine o.nil (ge (G.L (fun kx=>?_)));refine o.v1 (Y.ai E.N rfl bx rfl cT) ?_;refine o.v1 (Y.ai (E.N.drop 4) rfl bu rfl en) ?_;refine o.v1 (ar E.N.HN ff) ?_;refine aV vl (y6 t.q.cM.v t.q.a6 w0 _ M.q.any (by omega)) (fun U l_ ky=>?_);obtain⟨hd,er,rfl,ey,eR,eT⟩:=ky;have iB:af (X.size+1) er:=af.app (af.z) C.lt eR;have iC:af bc er:=af.app (af.z) A.le eR;have gl:af (N.size+1) er:=af.app (af.z) d.lt eR;have iD:T 0 I.size er:=T.L (T.refl 0 _) eR B.size;replace E:=E.M eT;replace d:=d.M eT;replace bX:=bX.bc eT;have lZ:=eT.size;have k3:=ey.le;refine o.v1 (Y.ai d.N rfl ca rfl cT) ?_;refine o.v1 (Y.ai (d.N.drop 3) rfl bu rfl en) ?_;refine o.s1 (dh d 69 (bS {s2 with al:=aR,q:={t.q with cM:=hd}}) (rfl) en (by rw[b8];omega) ((tE _ _))) fun l0 iH=>?_;obtain⟨d,dB⟩:=iH;replace dB:=dB.bp;replace E:=E.ab dB (ah.J c1);replace ey:=ey.ab dB (ah.J gl.symm);replace bX:=bX.aJ dB (ag.J (aq.r fe));have l1:=dB.size;refine o.nil (kx (G.L (fun kz=>?_)));refine o.v1 (Y.ai E.N rfl bx rfl cT) ?_;refine o.v1 (Y.ai (E.N.drop 4) rfl bu rfl b1) ?_;refine o.v1 (ar E.N.n2 cd) ?_;refine o.v1 b9 (o.nil (kz ?_));refine aT (fun kA=>?_) (fun kA=>?_)
    ·
     refine G.region ?_;refine o.v1 (Y.build (v:=eo hN) rfl rfl (by intro w;kernel_rfl)) ?_;refine o.v1 (Y.ai d.N rfl ca rfl cT) ?_;refine o.s1 (S.var d (_) (bS {s2 with al:=aR,q:=hN}) rfl rfl rfl rfl ((kp _)) cT (ef _) (by rw[b8];exact Nat.le_of_ble_eq_true rfl) ((q6 _))) fun l2 iJ=>?_;obtain⟨d,eX⟩:=iJ;replace eX:=eX.bp;replace bX:=bX.aJ eX (ag.J (aq.r fe));have l3:=eX.size;refine o.nil ?_;refine aP.sub (fA (hN,fun _=>False) _ ?_) ⟨rfl,rfl,rfl,rfl,trivial⟩;exact⟨d,(fun _=>Rd.nil _ _ _ _),(fun b e=>e.elim),(fun b e=>e.elim),(fun b e=>e.elim),(fun b e=>e.elim),(fun c e=>e.elim),by rw[if_pos eZ,if_pos (by omega)];rfl,bX⟩
    ·
     refine G.skip ?_;refine aP.sub (fA ({t.q with cM:=hd},fun b=>b+1=er) _ ?_) ⟨rfl,rfl,rfl,rfl,trivial⟩;exact⟨d,(fun _=>ey.rd),bg.of ey.le,(ay.of (gl.symm)),(ay.of (iC.symm)),(ay.of (iB.symm)),(fun c e=>by have db:=(iD);unfold T at db;omega),by rw[if_pos eZ,if_neg (by omega)];rfl,bX⟩
   ·
    refine G.skip ?_;refine aP.sub (fA (s2.q,aS) _ ?_) ⟨rfl,rfl,rfl,rfl,trivial⟩;exact⟨d,(fun _=>K.q),(dc.mono (by omega)),(a5),(fH),(fp),fG,by rw[if_neg (by simp[eZ])];exact congrArg dU.q dP,bX⟩
  ·
   rintro⟨bd,cP⟩ k2 hC;obtain⟨d,aJ,gi,fa,kY,k0,a9,kQ,cC⟩:=hC;replace ao:=ao.ab cC (az.J fq);replace M:=M.ab cC (az.J cS);replace aY:=aY.ab cC (ah.J fr);replace E:=E.ab cC (ah.J c1);replace C:=C.ab cC (ah.J c3);replace A:=A.ab cC (ah.J c5);replace K:=K.ab cC (az.J a5);replace B:=B.bl cC (ag.J (aq.q bT));have l4:=cC.size;refine G.L (fun d0=>?_);refine o.v1 (aW aY.N fg dx (b8 _)) ?_;refine aV vm (y4 s F w0 _ ao (fk.mono B.size)) (fun ma aj kB=>?_);obtain⟨bH,rfl,P,be,cv⟩:=kB;have d1:=ay.app (ay.z) (eb.mono B.size) be;have d2:af (bj.size+1) (bH+1):=af.app (af.z) E.lt be;have gm:af (X.size+1) (bH+1):=af.app (af.z) C.lt be;have gn:af bc (bH+1):=af.app (af.z) A.le be;have ft:=ay.app (ay.z) (dc.mono (by omega)) be;have dZ:af (N.size+1) (bH+1):=af.app (af.z) d.lt be;have d3:=ay.app (ay.z) (gi.mono (by omega)) be;have gp:T 0 I.size (bH+1):=T.L (T.refl 0 _) be B.size;replace M:=M.M cv;replace E:=E.M cv;replace C:=C.M cv;replace A:=A.M cv;replace K:=K.M cv;replace d:=d.M cv;replace aJ:=fun u=>(aJ u).M cv;replace B:=B.L cv;have gs:=cv.size;have d4:=P.le;have kU:=xk s.bb ok.e9.nodup;refine o.aj ?_;refine d0 (G.L (fun d5=>?_));refine o.aO (Z.nO aI rq rfl) fun mb e2 gt=>?_;obtain⟨rfl,L,cc,l5,d6⟩:=gt;have k9:e2.size=aj.size+1:=by rw[d6];simp
   have gq:=(ay.new (eb.mono B.size):ay _ (aj.size+1));have gv:af (bj.size+1) (aj.size+1):=af.new E.lt;have gw:af (X.size+1) (aj.size+1):=af.new C.lt;have gx:af bc (aj.size+1):=af.new A.le;have fu:=(ay.new (dc.mono (by omega)):ay _ (aj.size+1));have dI:af (N.size+1) (aj.size+1):=af.new d.lt;have gy:=(ay.new (gi.mono (by omega)):ay _ (aj.size+1));have eU:af (bH+1) (aj.size+1):=af.new P.le;have gz:T 0 I.size (aj.size+1):=T.new B.size;replace M:=M.M cc;replace E:=E.M cc;replace C:=C.M cc;replace A:=A.M cc;replace K:=K.M cc;replace d:=d.M cc;replace aJ:=fun u=>(aJ u).M cc;replace P:=P.M cc;replace B:=B.L cc;have l6:=cc.size;have d7:=L.lt;refine o.aj ?_;refine d5 (G.t1 (fun d8=>G.L (fun d9=>?_)));refine o.v1 (Y.ai d.N rfl ca rfl fS) ?_;refine o.v1 (ar (d.N.drop 2) ht) ?_;refine o.v1 (ba K.g fD) ?_;refine o.W (o.nil (d9 ?_));refine G.aB (fun _ iK _=>?_)
   refine G.bd (fun(cL:(Nat)×(List (aH×(aM×List cA))))=>match cL with|(j,W)=>[(3,.pointer (some ⟨bj.size,0,none⟩)),(4,.pointer (some ⟨X.size,0,none⟩)),(5,.pointer (some ⟨N.size,0,none⟩)),(6,.map (some bH)),(7,.map (some aj.size)),(46,s2.cu.v),(47,.int .i64 (s2.bW.length:Int)),(48,.int .i64 (j:Int))])
    (fun(j,W) (H:Heap)=>(j≤s2.bW.length)∧(de H aI rq aj.size W)∧(∀p∈W,∃y∈s2.bW,p.2=(y.v,y.l))∧(∀q,(aL W q).map (·.2)=aL (cm (s2.bW.take j)) q)∧V (aE [(aj.size+1)]) e2 H)
    (fun(j,W)=>s2.bW.length-j) (0,[]) ⟨rfl,rfl,rfl,rfl,rfl,rfl,rfl,rfl,trivial⟩ ?_ ?_
   ·
    exact⟨(by omega),L,(fun p h=>by cases h),(fun q=>rfl),V.refl _ _⟩
   rintro⟨j,W⟩ co kC mc jI jJ;obtain⟨mW,L,fN,fE,aZ⟩:=kC;replace M:=M.ab aZ (az.J gq);replace E:=E.ab aZ (ah.J gv);replace C:=C.ab aZ (ah.J gw);replace A:=A.ab aZ (ah.J gx);replace K:=K.ab aZ (az.J fu);replace d:=d.ab aZ (ah.J dI);replace aJ:=fun u=>(aJ u).ab aZ (az.J gy);replace P:=P.ab aZ (ah.J eU);replace B:=B.bl aZ (ag.J (aq.q gz));have l7:=aZ.size;have hH:=T.refl (aj.size+1) e2.size;refine G.L (fun jK=>?_);refine o.v1 bG (o.nil (jK ?_));refine G.t2 (fun jL jM=>?_);refine aT (fun kE=>?_) (fun kE=>?_)
   ·
    refine G.skip (jL (G.t1 (fun jN=>G.aB (fun jO _ _=>G.L (fun jP=>?_)))));have bl:j<s2.bW.length:=by omega
    obtain⟨y,bk⟩:∃q,q=s2.bW[j]:=⟨_,rfl⟩;have ew:y∈s2.bW:=by rw[bk];exact List.getElem_mem bl
    refine o.bR (Y.bJ K.g (j) rfl fD fl rfl rfl) fun l8 jQ=>?_;refine o.v1 (Y.cast (v2:= .agg (ei y).toArray) (aW jQ.N lP fl (fI _)) (by rw[bk])) ?_;refine o.aO (cQ pz) ?_;rintro v9 hs ⟨rfl,dT,fF,me,kf⟩;have lE:hs.size=co.size+1:=by rw[kf];simp
    have em:af (aj.size+1) (co.size+1):=af.new L.lt;have gW:T 0 e2.size (co.size+1):=T.new aZ.size;replace L:=L.M fF;replace aZ:=aZ.bc fF;have lG:=fF.size;refine o.s1 (dy dT (_) (ei y) (jw y) fl (fI _) ((c0 (fI _).symm))) fun k_ hV=>?_;obtain⟨dT,dY⟩:=hV;replace dY:=dY.bp;replace L:=L.ab dY (ah.J em);replace aZ:=aZ.aJ dY (ag.J (aq.q gW));have lH:=dY.size;refine o.nil (jP (G.region ?_));refine o.W ?_;refine o.v1 (Y.ai dT.N rfl fW rfl bO) ?_;refine o.v1 (ar dT.N bL) ?_;refine o.v1 (Y.ai dT.N rfl fW rfl gR) ?_;refine o.v1 (ar (dT.N.drop 1) h9) ?_;refine o.s1 (S.l8 ((y.v,y.l)) L gr rfl pr Tryz.underlying9 rfl rfl rfl) fun la hW=>?_;obtain⟨L,eC⟩:=hW;replace eC:=eC.bp;replace aZ:=aZ.aJ eC (ag.J (aq.r hH));have lI:=eC.size;refine o.nil (jO (jN (G.region ?_)));refine o.v1 bD ?_;refine o.W (o.nil ?_);refine aP.sub (jI (j+1,fK W y.n (y.v,y.l)) _ ?_ ?_) ⟨rfl,rfl,rfl,rfl,rfl,rfl,(aD (by omega)),(aD (by omega)),trivial⟩
    ·exact⟨(by omega),L,(fun p bE=>by rcases sN bE with h|h;exact⟨y,ew,h⟩;exact fN p h),(by rw[bk];exact Eh (by rw[show cm s2.bW=s.m.dJ from congrArg dU.dJ dP];exact ok.c9.nodup) fE bl),aZ⟩
    ·first|omega|(simp only;omega)|(simp;omega)
   ·
    obtain rfl:j=s2.bW.length:=by omega
    rw[List.take_length,show cm s2.bW=s.m.dJ from congrArg dU.dJ dP]at fE;have kJ:∀p∈W,p.2.2.length≤100:=fun p bE=>by obtain⟨y,hy,e⟩:=fN p bE;rw[e];exact ok.bW (y.n,y.l) (by rw[←show cm s2.bW=s.m.dJ from congrArg dU.dJ dP];exact List.mem_map.2 ⟨y,hy,rfl⟩)
    refine G.exit (jM (jJ (iK ?_)));refine d8 (G.t1 (fun jR=>G.L (fun bR=>?_)));refine o.v1 (Y.ai E.N rfl bx rfl ek) ?_;refine o.v1 (ar (E.N.drop 2) ez) ?_;refine o.v1 (ba M.m dG) ?_;refine o.W (o.nil (bR ?_));refine G.aB (fun _ jS _=>?_)
    refine G.bd (fun(cL:(Nat)×(List (aH×cX))×(List (aH×(aM×List cA)))×(Nat→Prop))=>match cL with|(i,aF,an,bp)=>[(3,.pointer (some ⟨bj.size,0,none⟩)),(4,.pointer (some ⟨X.size,0,none⟩)),(5,.pointer (some ⟨N.size,0,none⟩)),(6,.map (some bH)),(7,.map (some aj.size)),(59,t.eL.v),(60,.int .i64 (t.ml.length:Int)),(61,.int .i64 (i:Int))])
     (fun(i,aF,an,bp) (H:Heap)=>(i≤t.ml.length)∧(de H aI bs bH aF)∧(∀q,aL aF q=aL ((t.ml.take i).foldl dK s.m.b5) q)∧(de H aI rq aj.size an)∧(∀p∈an,Rd bp H dm 65 p.2.1.v p.2.2)∧(bg bp H.size)∧(ay bp (bH+1))∧(ay bp (aj.size+1))∧(ay bp (N.size+1))∧(ay bp bc)∧(ay bp (X.size+1))∧(∀c,bp c→I.size≤c)∧(∀q,(aL an q).map (·.2)=aL ((t.ml.take i).foldl hl s.m.dJ) q)∧(∀p∈an,p.2.2.length≤100)∧V (aE [(bH+1),(aj.size+1)]) co H)
     (fun(i,aF,an,bp)=>t.ml.length-i) (0,lD s.bb,W,aS) ⟨rfl,rfl,rfl,rfl,rfl,rfl,rfl,rfl,trivial⟩ ?_ ?_
    ·
     exact⟨(by omega),P,kU,L,(fun p bE=>by obtain⟨y,hy,e⟩:=fN p bE;rw[e];exact K.n y hy),(dc.mono (by omega)),(ft),(fu),(a5),(fH),(fp),fG,fE,kJ,V.refl _ _⟩
    rintro⟨i,aF,an,bp⟩ cp kg mf gB es;obtain⟨mU,P,dR,L,Q,fm,fR,fc,dV,fT,fU,a3,e3,fM,ae⟩:=kg;replace M:=M.ab ae (az.cons d1 (az.J gq));replace E:=E.ab ae (ah.cons d2 (ah.J gv));replace C:=C.ab ae (ah.cons gm (ah.J gw));replace A:=A.ab ae (ah.cons gn (ah.J gx));replace K:=K.ab ae (az.cons ft (az.J fu));replace d:=d.ab ae (ah.cons dZ (ah.J dI));replace aJ:=fun u=>(aJ u).ab ae (az.cons d3 (az.J gy));replace B:=B.bl ae (ag.cons (aq.q gp) (ag.J (aq.q gz)));have lJ:=ae.size;have hI:=T.refl (bH+1) co.size;have fX:=T.refl (aj.size+1) co.size;refine G.L (fun jT=>?_);refine o.v1 bG (o.nil (jT ?_));refine G.t2 (fun jU jV=>?_);refine aT (fun kh=>?_) (fun kh=>?_)
    ·
     refine G.skip (jU (G.t1 (fun gE=>G.aB (fun gF _ _=>G.L (fun ex=>?_)))));have bl:i<t.ml.length:=by omega
     obtain⟨y,bk⟩:∃q,q=t.ml[i]:=⟨_,rfl⟩;have ew:y∈t.ml:=by rw[bk];exact List.getElem_mem bl
     refine o.bR (Y.bJ M.m (i) rfl dG dM rfl rfl) fun lK jW=>?_;refine o.v1 (Y.cast (v2:= .agg (dt y).toArray) (aW jW.N iE dM (e0 _)) (by rw[bk])) ?_;refine o.aO (cQ mi) fun mO ki kj=>?_;obtain⟨rfl,bh,cj,lL,jX⟩:=kj;have qb:ki.size=cp.size+1:=by rw[jX];simp
     have jg:af (X.size+1) (cp.size+1):=af.new C.lt;have jh:af bc (cp.size+1):=af.new A.le;have ji:=(ay.new (dc.mono (by omega)):ay _ (cp.size+1));have jj:af (N.size+1) (cp.size+1):=af.new d.lt;have gG:af (bH+1) (cp.size+1):=af.new P.le;have jk:af (aj.size+1) (cp.size+1):=af.new L.lt;have jl:=(ay.new (fm.mono (by omega)):ay _ (cp.size+1));have jm:T 0 I.size (cp.size+1):=T.new B.size;have jn:T 0 co.size (cp.size+1):=T.new ae.size;replace C:=C.M cj;replace A:=A.M cj;replace K:=K.M cj;replace d:=d.M cj;replace P:=P.M cj;replace L:=L.M cj;replace Q:=fun p aa=>(Q p aa).M cj;replace B:=B.L cj;replace ae:=ae.bc cj;have lM:=cj.size;refine o.s1 (dy bh (_) (dt y) (kO y) dM (e0 _) ((c0 (e0 _).symm))) fun lb hY=>?_;obtain⟨bh,bJ⟩:=hY;replace bJ:=bJ.bp;replace C:=C.ab bJ (ah.J jg);replace A:=A.ab bJ (ah.J jh);replace K:=K.ab bJ (az.J ji);replace d:=d.ab bJ (ah.J jj);replace P:=P.ab bJ (ah.J gG);replace L:=L.ab bJ (ah.J jk);replace Q:=fun p aa=>(Q p aa).ab bJ (az.J jl);replace B:=B.bl bJ (ag.J (aq.q jm));replace ae:=ae.aJ bJ (ag.J (aq.q jn));have lN:=bJ.size;refine o.nil (ex (G.L (fun jo=>?_)));refine o.W ?_;refine o.v1 (aW bh.N iE dM (e0 _)) ?_;refine aV vn (xv bH aF y w0 _ P) (fun m9 m_ kk=>?_);obtain⟨rfl,P,cn⟩:=kk;replace C:=C.ab cn (ah.J gm);replace A:=A.ab cn (ah.J gn);replace K:=K.ab cn (az.J ft);replace d:=d.ab cn (ah.J dZ);replace L:=L.ab cn (ah.J eU.symm);replace Q:=fun p aa=>(Q p aa).ab cn (az.J fR);replace bh:=bh.ab cn (ah.J gG.symm);replace B:=B.bl cn (ag.J (aq.q gp));replace ae:=ae.aJ cn (ag.J (aq.r hI));have lO:=cn.size;refine o.nil (jo (G.L (fun jr=>?_)));refine o.v1 (Y.ai bh.N rfl cy rfl a_) ?_;refine o.v1 (Y.cast (v2:=bs y.w) (aW ((bh.N.drop 33).take 32) b_ a_ (by rw[e1];exact bB _)) (b6 (e1 _))) ?_;refine aV kK (kZ y.w w0 _) (fun na e5 kl=>?_);obtain⟨rfl,bZ⟩:=kl;replace C:=C.M bZ;replace A:=A.M bZ;replace K:=K.M bZ;replace d:=d.M bZ;replace P:=P.M bZ;replace L:=L.M bZ;replace Q:=fun p aa=>(Q p aa).M bZ;replace bh:=bh.M bZ;replace B:=B.L bZ;replace ae:=ae.bc bZ;have lQ:=bZ.size;refine o.nil (jr ?_);refine aT (fun fC=>?_) (fun fC=>?_)
     ·
      refine G.region ?_;refine o.W ?_;refine o.v1 (Y.ai bh.N rfl cy rfl bO) ?_;refine o.v1 (ar bh.N bL) ?_;refine o.rm (Z.p7 L gr rfl pr Tryz.underlying9 rfl rfl) cR rfl (fun ld lg hZ=>?_);obtain⟨rfl,L,dz⟩:=hZ;replace dz:=dz.bp;replace P:=P.ab dz (ah.J eU);replace Q:=fun p aa=>(Q p aa).ab dz (az.J fc);replace ae:=ae.aJ dz (ag.J (aq.r fX));have lR:=dz.size;refine o.nil (gF (gE (G.region ?_)));refine o.v1 bD ?_;refine o.W (o.nil ?_);refine aP.sub (gB (i+1,j2 aF y,d_ an y.n,bp) _ ?_ ?_) ⟨rfl,rfl,rfl,rfl,rfl,rfl,(aD (by omega)),(aD (by omega)),trivial⟩
      ·exact⟨(by omega),P,(fun q=>by rw[kq bl,←bk,sJ,o2 (kr ok.e9),dR]),L,(fun p bE=>Q p (qz bE).1),(fm.mono (by omega)),fR,fc,dV,fT,fU,(by omega),by rw[kq bl,←bk];exact Ee e3 (by simpa using fC),(fun p bE=>fM p (qz bE).1),ae⟩
      ·first|omega|(simp only;omega)|(simp;omega)
     ·
      refine dC (fun cb=>ak e5 cb) [9] ?_;have bq:ak e5 e5:=V.refl _ _;obtain⟨z,eu⟩:∃z,z=(aL an y.n).getD lF:=⟨_,rfl⟩;have m8:=Eb fM eu;refine O.W 0 rfl bq ?_;refine O.t1 1 rfl (fun cb K=>Y.ai (bh.N.M K) rfl cy rfl bO) bq ?_;refine O.t1 2 rfl (fun cb K=>ar (bh.N.M K) bL) bq ?_;refine O.W 3 rfl bq ?_;refine O.t1 4 rfl (fun cb K=>Y.ai (bh.N.M K) rfl cy rfl bO) bq ?_;refine O.t1 5 rfl (fun cb K=>ar (bh.N.M K) bL) bq ?_;refine O.t1 6 rfl (fun cb K=>Y.cast (v2:=z.1.v) (Y.lookup (z0:=lF) (L.M K).fj gr rfl pr Tryz.underlying9 zI rfl rfl) (by rw[eu])) bq ?_;refine O.t1 7 rfl (fun cb K=>aW (bh.N.M K) iE dM (e0 _)) bq ?_;refine O.aY 8 ?_;refine ch BV (Ex z.1.v z.2 y w0 _ (yn Q eu).any (by omega)) (fun id kn ko=>?_);obtain⟨hf,cK,rfl,eB,br,dw⟩:=ko;have js:af (X.size+1) cK:=af.app (af.z) C.lt br;have jt:af bc cK:=af.app (af.z) A.le br;have ju:af (N.size+1) cK:=af.app (af.z) d.lt br;have jv:af (bH+1) cK:=af.app (af.z) P.le br;have gH:af (aj.size+1) cK:=af.app (af.z) L.lt br;have jx:T 0 I.size cK:=T.L (T.refl 0 _) br B.size;have h2:T 0 e5.size cK:=T.L (T.refl 0 _) br bq.size;replace K:=K.M dw;replace P:=P.M dw;replace L:=L.M dw;replace Q:=fun p aa=>(Q p aa).M dw;replace ae:=ae.bc dw;replace bq:=bq.L dw;have lS:=dw.size;have k5:=eB.le;refine⟨.inr bq,O.narrow (SH2:=fun cb=>V (aE [cK]) kn cb) (fun cb K=>(V.aJ (ks:=[]) (bq.j1 []) K (ag.J (aq.q h2))).nil) ?_⟩;refine O.aY 9 ?_;refine gJ rfl (S.l8 ((hf,hX (z.2++[⟨y.J,y.w,y.y⟩]))) L gr rfl pr Tryz.underlying9 rfl rfl rfl) (fun lh h4=>?_);obtain⟨L,dj⟩:=h4;replace dj:=dj.bp;replace P:=P.ab dj (ah.J eU);replace Q:=fun p aa=>(Q p aa).ab dj (az.J fc);replace eB:=eB.ab dj (ah.J gH.symm);replace ae:=ae.aJ dj (ag.J (aq.r fX));have lT:=dj.size;refine⟨.inl rfl,?_⟩;refine cD ?_;refine gF (gE (G.region ?_));refine o.v1 bD ?_;refine o.W (o.nil ?_);refine aP.sub (gB (i+1,j2 aF y,fK an y.n (hf,hX (z.2++[⟨y.J,y.w,y.y⟩])),fun b=>bp b∨b+1=cK) _ ?_ ?_) ⟨rfl,rfl,rfl,rfl,rfl,rfl,(aD (by omega)),(aD (by omega)),trivial⟩
      ·exact⟨(by omega),P,(fun q=>by rw[kq bl,←bk,sJ,o2 (kr ok.e9),dR]),L,(fun p bE=>by rcases sN bE with h|h;rw[h];exact eB.rd.imp (fun b _ e=> .inr e);exact(Q p h).imp (fun b _ e=> .inl e)),bg.eG (fm.mono (by omega)) eB.le,ay.eG (fR) (jv),ay.eG (fc) (gH),ay.eG (dV) (ju),ay.eG (fT) (jt),ay.eG (fU) (js),mB a3 (jx),by rw[kq bl,←bk];exact Eg e3 (ql ok.c9) (by simpa using fC) eu,(fun p bE=>by rcases sN bE with h|h;rw[h];exact qt _;exact fM p h),ae⟩
      ·first|omega|(simp only;omega)|(simp;omega)
    ·
     obtain rfl:i=t.ml.length:=by omega
     rw[List.take_length]at dR e3;have m0:=sH P.fj.nodup (kr ok.e9).nodup dR;have m4:=gM.g_;refine G.exit (jV (es (jS ?_)));refine jR (G.L (fun jy=>?_));refine o.v1 (Y.ai d.N rfl ca rfl hb) ?_;refine o.s1 (dh d 1 (bS {s2 with al:=aR,q:=bd,ej:=cO,bb:=[]}) (rfl) hb (by rw[b8];omega) ((tD cO []))) fun lj h5=>?_;obtain⟨d,bw⟩:=h5;replace bw:=bw.bp;replace M:=M.ab bw (az.J cS);replace E:=E.ab bw (ah.J c1);replace C:=C.ab bw (ah.J c3);replace A:=A.ab bw (ah.J c5);replace K:=K.ab bw (az.J a5);replace aJ:=fun u=>(aJ u).ab bw (az.J fa);replace P:=P.ab bw (ah.J dZ.symm);replace L:=L.ab bw (ah.J dI.symm);replace Q:=fun p aa=>(Q p aa).ab bw (az.J dV);replace B:=B.bl bw (ag.J (aq.q bT));have lU:=bw.size;refine o.v1 (Y.ai d.N rfl ca rfl fS) ?_;refine o.s1 (dh d 2 (bS {s2 with al:=aR,q:=bd,ej:=cO,bb:=[],cu:=cO,bW:=[]}) (rfl) fS (by rw[b8];omega) ((q5 cO []))) fun iF h6=>?_;obtain⟨d,bC⟩:=h6;replace bC:=bC.bp;replace M:=M.ab bC (az.J cS);replace E:=E.ab bC (ah.J c1);replace C:=C.ab bC (ah.J c3);replace A:=A.ab bC (ah.J c5);replace K:=K.ab bC (az.J a5);replace aJ:=fun u=>(aJ u).ab bC (az.J fa);replace P:=P.ab bC (ah.J dZ.symm);replace L:=L.ab bC (ah.J dI.symm);replace Q:=fun p aa=>(Q p aa).ab bC (az.J dV);replace B:=B.bl bC (ag.J (aq.q bT));have lW:=bC.size;refine o.nil (jy (G.t1 (fun jz=>G.L (fun jB=>?_))));refine o.W ?_;refine aV vo (wV bH w0 _) (fun nc nd kt=>?_);obtain⟨eW,rfl,b5,fL,bF⟩:=kt;have h7:af (X.size+1) (eW+1):=af.app (af.z) C.lt fL;have h_:af bc (eW+1):=af.app (af.z) A.le fL;have fZ:af (N.size+1) (eW+1):=af.app (af.z) d.lt fL;replace M:=M.M bF;replace E:=E.M bF;replace C:=C.M bF;replace A:=A.M bF;replace K:=K.M bF;replace d:=d.M bF;replace aJ:=fun u=>(aJ u).M bF;replace P:=P.M bF;replace L:=L.M bF;replace Q:=fun p aa=>(Q p aa).M bF;replace B:=B.L bF;have g0:=bF.size;have k7:=b5.le;refine aV BW (G_ eW bH bs aF w0 _ b5 P (by omega)) (fun ih bo g1=>?_);obtain⟨g2,g3,ab,rfl,on,jC,dQ,bt⟩:=g1;have hL:af (N.size+1) g3:=af.app (af.z) d.lt jC;replace M:=M.M bt;replace E:=E.M bt;replace C:=C.M bt;replace A:=A.M bt;replace K:=K.M bt;replace d:=d.M bt;replace aJ:=fun u=>(aJ u).M bt;replace P:=P.M bt;replace L:=L.M bt;replace Q:=fun p aa=>(Q p aa).M bt;replace b5:=b5.M bt;replace B:=B.L bt;have g4:=bt.size;have k8:=on.le;have kM:=nT (tg dQ.1) (fun k kI=>(dQ.2 k).1 kI);rw[List.length_map]at kM;refine o.v1 (ba on.rd jG) ?_;refine o.W (o.nil (jB ?_));refine G.aB (fun _ jD _=>?_)
     refine G.bd (fun(cL:(Nat)×(aM)×(Nat)×(aM)×(Nat))=>match cL with|(ai,k4,bU,iq,bP)=>[(3,.pointer (some ⟨bj.size,0,none⟩)),(4,.pointer (some ⟨X.size,0,none⟩)),(5,.pointer (some ⟨N.size,0,none⟩)),(6,.map (some bH)),(7,.map (some aj.size)),(88,g2.v),(89,.int .i64 (ab.length:Int)),(90,.int .i64 (ai:Int))])
      (fun(ai,k4,bU,iq,bP) (H:Heap)=>(ai≤ab.length)∧(Var 47 H N.size (bS {s2 with al:=aR,q:=bd,ej:=k4,bb:=(ab.take ai).map (h3 aF),cu:=iq,bW:=(ab.take ai).map (ij an)}))∧(aU bU 71 H du 33 k4.v ((ab.take ai).map (h3 aF)))∧(aU bP 62 H ei 2 iq.v ((ab.take ai).map (ij an)))∧(T 0 bo.size bU)∧(T 0 bo.size bP)∧(af (N.size+1) bU)∧(af (N.size+1) bP)∧(af bU bP)∧V (aE [(N.size+1)]) bo H)
      (fun(ai,k4,bU,iq,bP)=>ab.length-ai) (0,cO,0,cO,0) ⟨rfl,rfl,rfl,rfl,rfl,rfl,rfl,rfl,trivial⟩ ?_ ?_
     ·
      exact⟨(by omega),d,aU.nil hT ll,aU.nil fI jw,T.refl _ _,T.refl _ _,af.z,af.z,af.z,V.refl _ _⟩
     rintro⟨ai,k4,bU,iq,bP⟩ dA g5 ii jE jF;obtain⟨m1,d,aQ,aO,dW,eG,hz,hA,hK,R⟩:=g5;have hM:af (X.size+1) bU:=af.app (af.z) C.lt dW;have hO:af bc bU:=af.app (af.z) A.le dW;have dE:af (aj.size+1) bU:=af.app (af.z) L.lt dW;have hP:T 0 I.size bU:=T.L (T.refl 0 _) dW B.size;have hQ:af (X.size+1) bP:=af.app (af.z) C.lt eG;have hR:af bc bP:=af.app (af.z) A.le eG;have cE:T 0 I.size bP:=T.L (T.refl 0 _) eG B.size;replace M:=M.ab R (az.J cS);replace E:=E.ab R (ah.J c1);replace C:=C.ab R (ah.J c3);replace A:=A.ab R (ah.J c5);replace K:=K.ab R (az.J a5);replace aJ:=fun u=>(aJ u).ab R (az.J fa);replace P:=P.ab R (ah.J dZ.symm);replace L:=L.ab R (ah.J dI.symm);replace Q:=fun p aa=>(Q p aa).ab R (az.J dV);replace b5:=b5.ab R (ah.J fZ.symm);replace on:=on.ab R (ah.J hL.symm);replace B:=B.bl R (ag.J (aq.q bT));have g6:=R.size;have hv:=aQ.le;have hx:=aO.le;have fh:=hz;have eJ:=hA;have f_:=hK;have fY:=T.refl (N.size+1) bo.size;have ga:=dW;have gf:=eG;refine G.L (fun iW=>?_);refine o.v1 bG (o.nil (iW ?_));refine G.t2 (fun iZ i_=>?_);refine aT (fun g7=>?_) (fun g7=>?_)
     ·
      refine G.skip (iZ (G.t1 (fun jb=>G.aB (fun jd _ _=>G.L (fun je=>?_)))));have bl:ai<ab.length:=by omega
      obtain⟨x,hex⟩:∃x,x=ab[ai]:=⟨_,rfl⟩;have hk:(ab.take (ai+1)).map (h3 aF)=(ab.take ai).map (h3 aF)++[h3 aF x]:=by rw[List.take_succ_eq_append_getElem bl,List.map_append,←hex];rfl
      have hn:(ab.take (ai+1)).map (ij an)=(ab.take ai).map (ij an)++[ij an x]:=by rw[List.take_succ_eq_append_getElem bl,List.map_append,←hex];rfl
      have m5:(ab.take ai).length=ai:=by rw[List.length_take];omega
      refine o.v1 (mh on (ai) jG bO) ?_;refine o.v1 (Y.cast (v2:=aI x) (ar (on.N (j:=ai) (by first|omega|(simp;omega)|(simp;done))) bL) (by rw[hex])) ?_;refine o.aj ?_;refine je (G.L (fun jf=>?_));refine o.v1 (Y.ai d.N rfl ca rfl hb) ?_;refine o.v1 (ar (d.N.drop 1) iw) ?_;refine o.ax 3 ?_;refine o.v1 (Y.lookup (z0:=bz) P.fj gr rfl k6 Tryz.underlying9 nb rfl rfl) ?_;refine o.v1 (Y.build (v:= .agg (du (h3 aF x)).toArray) rfl rfl (by intro w;exact rT _ _)) ?_;refine o.aO (cU _ ([h3 aF x]) jY hT ll (rfl)) fun g8 gk jH=>?_;obtain⟨kV,dD,lk,hU⟩:=jH;have lz:gk.size=dA.size+1:=by rw[hU];simp
      replace L:=L.M dD;replace d:=d.M dD;replace aQ:=aQ.M dD;replace aO:=aO.M dD;replace R:=R.bc dD;have g9:=dD.size;refine o.aO (dO aQ kV.rd jY (by simp;omega) (by simp;omega)) fun gI lX fb=>?_;obtain⟨dJ,aQ,bY,dg⟩:=fb;replace bY:T bU gk.size dJ:=bY;replace dg:=dg.md;have fi:af (N.size+1) dJ:=af.app (fh) d.lt bY;have gg:af bP dJ:=af.app (f_.symm) aO.le bY;have iL:T 0 bo.size dJ:=T.L (ga) bY R.size;replace L:=L.ab dg (ah.J dE);replace d:=d.ab dg (ah.J fh);replace aO:=aO.ab dg (ah.J f_.symm);replace R:=R.aJ dg (ag.J (aq.q ga));have mQ:=dg.size;have hv:=aQ.le;obtain⟨fy,rfl⟩:∃s:aM,gI=s.v:=⟨cg gI,aQ.bm.symm⟩;refine o.v1 (Y.ai d.N rfl ca rfl hb) ?_;refine o.s1 (dh d 1 (bS {s2 with al:=aR,q:=bd,ej:=fy,bb:=(ab.take ai).map (h3 aF)++[h3 aF x],cu:=iq,bW:=(ab.take ai).map (ij an)}) (rfl) hb (by rw[b8];omega) ((tD _ _))) fun ib ic=>?_;obtain⟨d,am⟩:=ic;replace am:=am.bp;replace L:=L.ab am (ah.J dI.symm);replace aQ:=aQ.ab am (ah.J fi.symm);replace aO:=aO.ab am (ah.J eJ.symm);replace R:=R.aJ am (ag.J (aq.r fY));have aw:=am.size;refine o.nil (jf (G.region ?_));refine o.v1 (Y.ai d.N rfl ca rfl fS) ?_;refine o.v1 (ar (d.N.drop 2) ht) ?_;refine o.ax 3 ?_;refine o.v1 (Y.lookup (z0:=lF) L.fj gr rfl pr Tryz.underlying9 zI rfl rfl) ?_;refine o.v1 (Y.build (v:= .agg (ei (ij an x)).toArray) rfl rfl (by intro w;kernel_rfl)) ?_;refine o.aO (cU _ ([ij an x]) jZ fI jw (rfl)) fun he bf j0=>?_;obtain⟨kW,ec,ln,ee⟩:=j0;have lA:bf.size=ib.size+1:=by rw[ee];simp
      replace d:=d.M ec;replace aQ:=aQ.M ec;replace aO:=aO.M ec;replace R:=R.bc ec;have mS:=ec.size;refine o.aO (dO aO kW.rd jZ (by simp;omega) (by simp;omega)) fun dd mT j1=>?_;obtain⟨ea,aO,eh,dF⟩:=j1;replace eh:T bP bf.size ea:=eh;replace dF:=dF.md;have gj:af (N.size+1) ea:=af.app (eJ) d.lt eh;have iM:af dJ ea:=af.app (gg.symm) aQ.le eh;have gO:T 0 bo.size ea:=T.L (gf) eh R.size;replace d:=d.ab dF (ah.J eJ);replace aQ:=aQ.ab dF (ah.J gg.symm);replace R:=R.aJ dF (ag.J (aq.q gf));have mX:=dF.size;have hx:=aO.le;obtain⟨gV,rfl⟩:∃s:aM,dd=s.v:=⟨cg dd,aO.bm.symm⟩;refine o.v1 (Y.ai d.N rfl ca rfl fS) ?_;refine o.s1 (dh d 2 (bS {s2 with al:=aR,q:=bd,ej:=fy,bb:=(ab.take ai).map (h3 aF)++[h3 aF x],cu:=gV,bW:=(ab.take ai).map (ij an)++[ij an x]}) (rfl) fS (by rw[b8];omega) ((q5 _ _))) fun lB cs=>?_;obtain⟨d,dH⟩:=cs;replace dH:=dH.bp;replace aQ:=aQ.ab dH (ah.J fi.symm);replace aO:=aO.ab dH (ah.J gj.symm);replace R:=R.aJ dH (ag.J (aq.r fY));have hm:=dH.size;refine o.nil (jd (jb (G.region ?_)));refine o.v1 bD ?_;refine o.W (o.nil ?_);refine aP.sub (jE (ai+1,fy,dJ,gV,ea) _ ?_ ?_) ⟨rfl,rfl,rfl,rfl,rfl,rfl,(aD (by omega)),(aD (by omega)),trivial⟩
      ·exact⟨(by omega),(by rw[hk,hn];exact d),(by rw[hk];exact aQ),(by rw[hn];exact aO),iL,gO,fi,gj,iM,R⟩
      ·first|omega|(simp only;omega)|(simp;omega)
     ·
      obtain rfl:ai=ab.length:=by omega
      rw[List.take_length]at d aQ aO;refine G.exit (i_ (jF (jD ?_)));refine jz (G.t1 (fun j3=>G.L (fun j4=>?_)));refine o.v1 (Y.ai E.N rfl bx rfl dp) ?_;refine o.v1 (ar E.N.fT dS) ?_;refine o.v1 (ba M.e cq) ?_;refine o.W (o.nil (j4 ?_));refine G.aB (fun _ j5 _=>?_)
      refine G.bd (fun(cL:(Nat)×(aM)×(Nat)×(List bA)×(Nat→Prop))=>match cL with|(i4,ct,bn,a6,bV)=>[(4,.pointer (some ⟨X.size,0,none⟩)),(5,.pointer (some ⟨N.size,0,none⟩)),(116,t.cB.v),(117,.int .i64 (t.el.length:Int)),(118,.int .i64 (i4:Int))])
       (fun(i4,ct,bn,a6,bV) (H:Heap)=>(i4≤t.el.length)∧(Var 47 H N.size (bS {s2 with al:=aR,q:=bd,ej:=k4,bb:=(ab.map (h3 aF)),cu:=iq,bW:=(ab.map (ij an)),cB:=ct,el:=a6}))∧(aU bn 68 H bM 33 ct.v a6)∧(∀y∈a6,Rd bV H a1 1 y.v.v y.d)∧(bg bV H.size)∧(ay bV (N.size+1))∧(ay bV bn)∧(ay bV (X.size+1))∧(∀c,bV c→I.size≤c)∧(cl a6=gA s.m.gB (t.el.take i4))∧(T bc dA.size bn)∧(af (N.size+1) bn)∧V (aE [(N.size+1),bc]) dA H)
       (fun(i4,ct,bn,a6,bV)=>t.el.length-i4) (0,s2.cB,bc,s2.el,aS) ⟨rfl,rfl,rfl,rfl,rfl,trivial⟩ ?_ ?_
      ·
       exact⟨(by omega),d,A,K.d,(dc.mono (by omega)),(a5),(fH),(fp),fG,congrArg dU.gB dP,T.refl _ _,c5.symm,V.refl _ _⟩
      rintro⟨i4,ct,bn,a6,bV⟩ cG aA nf gY a7;obtain⟨mV,d,A,aN,eD,bQ,e_,fQ,a4,dN,fo,hD,ac⟩:=aA;have iN:af (X.size+1) bn:=af.app (gS) C.lt fo;have iO:T 0 I.size bn:=T.L (gT) fo B.size;replace M:=M.ab ac (az.cons cS (az.J iv));replace C:=C.ab ac (ah.cons c3 (ah.J gS));replace aJ:=fun u=>(aJ u).ab ac (az.cons fa (az.J kY));replace Q:=fun p aa=>(Q p aa).ab ac (az.cons dV (az.J fT));replace b5:=b5.ab ac (ah.cons fZ.symm (ah.J h_.symm));replace aQ:=aQ.ab ac (ah.cons fh.symm (ah.J hO.symm));replace aO:=aO.ab ac (ah.cons eJ.symm (ah.J hR.symm));replace B:=B.bl ac (ag.cons (aq.q bT) (ag.J (aq.q gT)));have m2:=ac.size;have gh:=A.le;have eK:=hD;have bv:=T.refl (N.size+1) dA.size;have eL:=fo;have kL:=congrArg List.length dN;have mR:=zT (el:=t.el) (l:=s.m.gB) (n:=i4);simp only[cl,List.length_map]at kL;have kG:od a6:=od.of (by rw[dN];exact qk ok.sy);refine G.L (fun fB=>?_);refine o.v1 bG (o.nil (fB ?_));refine G.t2 (fun j6 fn=>?_);refine aT (fun j7=>?_) (fun j7=>?_)
      ·
       refine G.skip (j6 (G.t1 (fun gZ=>G.aB (fun dl _ _=>G.L (fun j9=>?_)))));have bl:i4<t.el.length:=by omega
       obtain⟨y,bk⟩:∃q,q=t.el[i4]:=⟨_,rfl⟩;have ew:y∈t.el:=by rw[bk];exact List.getElem_mem bl
       have m7:y.d.length≤65536:=by
        have ev:=oZ gM.gB y ew;unfold gC at ev;split at ev
        ·cases ev
        ·split at ev
         ·cases ev
         ·omega
       refine o.bR (Y.bJ M.e (i4) rfl cq cf rfl rfl) fun gd cJ=>?_;refine o.v1 (Y.cast (v2:= .agg (bM y).toArray) (aW cJ.N hF cf (cZ _)) (by rw[bk])) ?_;refine o.aO (cQ kD) fun ng kS hu=>?_;obtain⟨rfl,bm,bi,m6,j_⟩:=hu;have lp:kS.size=cG.size+1:=by rw[j_];simp
       have dn:=(ay.new (eb.mono B.size):ay _ (cG.size+1));have iP:af (X.size+1) (cG.size+1):=af.new C.lt;have gK:af bn (cG.size+1):=af.new A.le;have gL:af (N.size+1) (cG.size+1):=af.new d.lt;have gN:=(ay.new (eD.mono (by omega)):ay _ (cG.size+1));have iQ:T 0 I.size (cG.size+1):=T.new B.size;have ce:T 0 dA.size (cG.size+1):=T.new ac.size;replace M:=M.M bi;replace C:=C.M bi;replace A:=A.M bi;replace d:=d.M bi;replace aN:=fun y aX=>(aN y aX).M bi;replace B:=B.L bi;replace ac:=ac.bc bi;have hw:=bi.size;refine o.s1 (dy bm (_) (bM y) (gX y) cf (cZ _) ((c0 (cZ _).symm))) fun lq gb=>?_;obtain⟨bm,au⟩:=gb;replace au:=au.bp;replace M:=M.ab au (az.J dn);replace C:=C.ab au (ah.J iP);replace A:=A.ab au (ah.J gK);replace d:=d.ab au (ah.J gL);replace aN:=fun y aX=>(aN y aX).ab au (az.J gN);replace B:=B.bl au (ag.J (aq.q iQ));replace ac:=ac.aJ au (ag.J (aq.q ce));have mg:=au.size;refine o.nil (j9 (G.L (fun se=>?_)));refine o.v1 (Y.ai bm.N rfl eS rfl da) ?_;refine o.v1 (ar bm.N.ji eA) ?_;refine aV nv (mE y.v.v y.d w0 _ (M.d y ew).any (by omega)) (fun mj mm fs=>?_);obtain⟨b2,c6,rfl,a8,aB,a0⟩:=fs;have gP:af (X.size+1) c6:=af.app (af.z) C.lt aB;have eM:af bn c6:=af.app (af.z) A.le aB;have fj:af (N.size+1) c6:=af.app (af.z) d.lt aB;have ds:af (cG.size+1) c6:=af.app (af.z) bm.lt aB;have gQ:T 0 I.size c6:=T.L (T.refl 0 _) aB B.size;replace A:=A.M a0;replace d:=d.M a0;replace aN:=fun y aX=>(aN y aX).M a0;replace bm:=bm.M a0;replace ac:=ac.bc a0;have mn:=a0.size;have Dv:=a8.le;refine o.v1 (Y.ai bm.N rfl eS rfl da) ?_;refine o.s1 (dh bm 32 (bM ⟨y.k,b2,y.d⟩) (rfl) da (by rw[cZ];omega) ((EW _ _))) fun lr iR=>?_;obtain⟨bm,cV⟩:=iR;replace cV:=cV.bp;replace A:=A.ab cV (ah.J gK);replace d:=d.ab cV (ah.J gL);replace aN:=fun y aX=>(aN y aX).ab cV (az.J gN);replace a8:=a8.ab cV (ah.J ds.symm);replace ac:=ac.aJ cV (ag.J (aq.q ce));have mo:=cV.size;refine o.nil (se (G.L (fun ka=>?_)));refine o.v1 (Y.ai d.N rfl ca rfl dp) ?_;refine o.v1 (ar d.N.iB dS) ?_;refine o.v1 (aW bm.N hF cf (cZ _)) ?_;refine aV BX (AI ct.v a6 ⟨y.k,b2,y.d⟩ w0 _ A.rd.any (by omega) kG) (fun mq g_ fv=>?_);obtain⟨p,fd,rfl,kR,hh,di⟩:=fv;replace A:=A.M di;replace d:=d.M di;replace aN:=fun y aX=>(aN y aX).M di;replace bm:=bm.M di;replace a8:=a8.M di;replace ac:=ac.bc di;have mr:=di.size;obtain⟨hi,hj,kN⟩:=kR;refine o.W ?_;refine o.v1 cN ?_;refine o.v1 cN ?_;refine o.aR 2 ?_;refine ka (G.L (fun kc=>?_));refine o.W (o.nil (kc ?_));refine cI (fun eH=>?_) (fun eH=>?_)
       ·
        obtain⟨e8,kP⟩:=hh.1 eH;refine G.region ?_;refine o.v1 (Y.ai d.N rfl ca rfl dp) ?_;refine o.v1 (ar d.N.iB dS) ?_;refine o.W ?_;refine o.v1 (aW bm.N hF cf (cZ _)) ?_;refine o.v1 (Y.qP A (p) rfl cq cf rfl rfl (by first|rfl|omega) (by omega)) ?_;refine o.s1 (S.s6 A p 0 (⟨y.k,b2,y.d⟩:bA) (bM ⟨y.k,b2,y.d⟩) rfl rfl rfl rfl (gX _) cf (cZ _) e8 (by decide) (c0 (by rw[cZ,cZ])).symm) fun lV iS=>?_;obtain⟨A,dk⟩:=iS;replace dk:=dk.md;replace d:=d.ab dk (ah.J eK);replace aN:=fun y aX=>(aN y aX).ab dk (az.J e_);replace a8:=a8.ab dk (ah.J eM.symm);replace ac:=ac.aJ dk (ag.J (aq.r eL));have mu:=dk.size;refine o.nil (dl (gZ (G.region ?_)));refine o.v1 bD ?_;refine o.W (o.nil ?_);refine aP.sub (gY (i4+1,ct,bn,a6.set p ⟨y.k,b2,y.d⟩,fun b=>bV b∨b+1=c6) _ ?_ ?_) ⟨rfl,rfl,rfl,(aD (by omega)),(aD (by omega)),trivial⟩
        ·exact⟨(by omega),d,A,yH p aN (fun b e=> .inl e) (a8.rd.imp (fun b _ e=> .inr e)),bg.eG (eD.mono (by omega)) a8.le,ay.eG (bQ) (fj),ay.eG (e_) (eM),ay.eG (fQ) (gP),mB a4 (gQ),by rw[pL bl,←bk,←dN];exact vN (x:=⟨y.k,b2,y.d⟩) hj e8 kP,eL,eK,ac⟩
        ·first|omega|(simp only;omega)|(simp;omega)
       ·
        have e8:¬_:=fun h=>by rw[hh.2 h]at eH;cases eH
        refine G.region ?_;refine o.v1 (Y.ai d.N rfl ca rfl dp) ?_;refine o.v1 (ar d.N.iB dS) ?_;refine o.W ?_;refine o.v1 (aW bm.N hF cf (cZ _)) ?_;refine o.aO (Z.Ej _ [(⟨y.k,b2,y.d⟩:bA)] rfl iI rfl rfl rfl (by decide) (by decide) cZ gX rfl) fun mv kd ke=>?_;obtain⟨kX,a2,iT,dX⟩:=ke;have lC:kd.size=g_.size+1:=by rw[dX];simp
        have iU:af bn (g_.size+1):=af.new A.le;replace A:=A.M a2;replace d:=d.M a2;replace aN:=fun y aX=>(aN y aX).M a2;replace a8:=a8.M a2;replace ac:=ac.bc a2;have mw:=a2.size;refine aV B0 (D0 bn _ ct.v _ a6 ⟨y.k,b2,y.d⟩ p w0 _ A kX (iU) hi ⟨iT,by rw[dX];simp⟩ (by omega)) (fun ha c_ b7=>?_);have iV:=d.lt;have ie:=a8.le;obtain⟨lu,eI,rfl,A,e7,ep⟩:=b7;have ci:af (N.size+1) eI:=af.app (eK) iV e7;have ig:=ay.app (e_) (eD.mono (by omega)) e7;have ik:af c6 eI:=af.app (eM.symm) ie e7;have il:T bc dA.size eI:=T.L (eL) e7 ac.size;replace d:=d.ab ep (ah.J eK);replace aN:=fun y aX=>(aN y aX).ab ep (az.J e_);replace a8:=a8.ab ep (ah.J eM.symm);replace ac:=ac.aJ ep (ag.J (aq.r eL));have mx:=ep.size;have gh:=A.le;obtain⟨gU,rfl⟩:∃s:aM,ha=s.v:=⟨cg ha,A.bm.symm⟩;refine o.v1 (Y.ai d.N rfl ca rfl dp) ?_;refine o.s1 (dh d 73 (bS {s2 with al:=aR,q:=bd,ej:=k4,bb:=(ab.map (h3 aF)),cu:=iq,bW:=(ab.map (ij an)),cB:=gU,el:=a6.take p++⟨y.k,b2,y.d⟩::a6.drop p}) (rfl) dp (by rw[b8];omega) ((tC _ _))) fun lv im=>?_;obtain⟨d,dq⟩:=im;replace dq:=dq.bp;replace A:=A.ab dq (ah.J ci.symm);replace aN:=fun y aX=>(aN y aX).ab dq (az.J bQ);replace a8:=a8.ab dq (ah.J fj.symm);replace ac:=ac.aJ dq (ag.J (aq.r bv));have my:=dq.size;refine o.nil (dl (gZ (G.region ?_)));refine o.v1 bD ?_;refine o.W (o.nil ?_);refine aP.sub (gY (i4+1,gU,eI,a6.take p++⟨y.k,b2,y.d⟩::a6.drop p,fun b=>bV b∨b+1=c6) _ ?_ ?_) ⟨rfl,rfl,rfl,(aD (by omega)),(aD (by omega)),trivial⟩
        ·exact⟨(by omega),d,A,DV p aN (fun b e=> .inl e) (a8.rd.imp (fun b _ e=> .inr e)),bg.eG (eD.mono (by omega)) a8.le,ay.eG (bQ) (fj),ay.eG (ig) (ik.symm),ay.eG (fQ) (gP),mB a4 (gQ),by rw[pL bl,←bk,←dN];exact CY (x:=⟨y.k,b2,y.d⟩) hj kN hi e8,il,ci,ac⟩
        ·first|omega|(simp only;omega)|(simp;omega)
      ·
       obtain rfl:i4=t.el.length:=by omega
       rw[List.take_length]at dN;refine G.exit (fn (a7 (j5 ?_)));refine j3 (G.L (fun ia=>?_));refine o.v1 (aW d.N fg dx (b8 _)) ?_;refine o.s1 (dy C (_) (bS {s2 with al:=aR,q:=bd,ej:=k4,bb:=(ab.map (h3 aF)),cu:=iq,bW:=(ab.map (ij an)),cB:=ct,el:=a6}) (iG _) dx (b8 _) ((c0 (b8 _).symm))) fun lx ir=>?_;obtain⟨C,b3⟩:=ir;replace b3:=b3.bp;replace A:=A.ab b3 (ah.J iN.symm);replace aJ:=fun u=>(aJ u).ab b3 (az.J k0);replace Q:=fun p aa=>(Q p aa).ab b3 (az.J fU);replace b5:=b5.ab b3 (ah.J h7.symm);replace aQ:=aQ.ab b3 (ah.J hM.symm);replace aO:=aO.ab b3 (ah.J hQ.symm);replace aN:=fun y aX=>(aN y aX).ab b3 (az.J fQ);replace B:=B.bl b3 (ag.J (aq.q iu));have mz:=b3.size;refine o.nil (ia ?_);refine G.ret (kT .ret (.inr rfl) _ _ _ (jA rfl rfl C.N fg dx (b8 _)) ?_)
       exact⟨{s2 with al:=aR,q:=bd,ej:=k4,bb:=(ab.map (h3 aF)),cu:=iq,bW:=(ab.map (ij an)),cB:=ct,el:=a6},rfl,⟨aQ.rd.imp (fun b _ e=>by have db:=(hP);unfold T at db;omega),aO.rd.imp (fun b _ e=>by have db:=(cE);unfold T at db;omega),(fun y hy=>by obtain⟨x,b5,e⟩:=List.mem_map.1 hy;rw[←e];exact(yn Q rfl).imp (fun b _ e=>a3 b e)),(aJ ()).imp (fun b _ e=>a9 b e),A.rd.imp (fun b _ e=>by have db:=(iO);unfold T at db;omega),(fun y hy=>(aN y hy).imp (fun b _ e=>a4 b e))⟩,by
        have aK:aR=if t.bE=true then t.al else s.m.al:=by rw[kH];congr 1;exact congrArg dU.al dP
        have iX:=Dm (kr ok.e9) dR dQ.1 dQ.2;have iY:=Dl (ql ok.c9) (qs ok.cK) dR e3 dQ.1 dQ.2;show dU.mk aR (bN _) (cm _) bd.p (cl a6)=_;rw[aK,iX,iY,kQ,dN];rfl,B⟩
end gy

namespace hQ
open E Go.RowKit eJ eN eW e3 ey eX eY fF fG fO fY gg gx gy dz
theorem uC:∀{l:List cw} {n:List UInt8} {i:Nat} (d:i<l.length),(∀j (h:j<l.length),j<i→¬l[j].n=n)→l[i].n=n→hG (bN l) n=l[i].i
 |x::l,n,0,_,_,e=>by
  have e:x.n=n:=e
  simp[hG,bN,aL,e]
 |x::l,n,i+1,d,h,e=>by
  have k:¬x.n=n:=h 0 (Nat.zero_lt_succ _) (Nat.zero_lt_succ _);have:=uC (l:=l) (n:=n) (i:=i) (Nat.lt_of_succ_lt_succ d) (fun j o U=>h (j+1) (Nat.succ_lt_succ o) (Nat.succ_lt_succ U)) e;simp only[hG,bN,List.map_cons,aL]at this⊢;rw[if_neg (fun q=>k q.symm)];exact this
theorem As{l:List cw}{n:List UInt8}(h:∀j (h:j<l.length),¬l[j].n=n):hG (bN l) n=bz:=by
 induction l with
 |nil=>rfl
 |cons x l ih=>
  have d:¬x.n=n:=h 0 (Nat.zero_lt_succ _);have:=ih (fun j i=>h (j+1) (Nat.succ_lt_succ i));simp only[hG,bN,List.map_cons,aL]at this⊢;rw[if_neg (fun q=>d q.symm)];exact this
theorem uB(s:c2)(n:List UInt8)(w0:World)(I:Heap)
 (j:bw I du 33 s.ej.v s.bb):
 aC Tryz.prog w0 19 #[ed s,aI n] I (fun r x=>r=bs (hG (bN s.bb) n)∧ak I x):=by
 refine aC.enter (args:=[ed s,aI n]) Tryz.func19 rfl rfl rfl ?_;intro aQ Q;have d:ak I I:=V.refl _ _;replace j:=j.bt;have bg:=j.len;refine G.L (fun aE=>?_);refine o.aO cr ?_;rintro v2 x ⟨rfl,k,K,aY,aF⟩;have bc:x.size=I.size+1:=by rw[aF];simp
 replace j:=j.M K;replace d:=d.L K;have aZ:=K.size;replace k:Var 47 x I.size (bS s):=k;refine o.aO (cQ nb) ?_;rintro v4 F ⟨rfl,t,E,a1,aH⟩;have bd:F.size=x.size+1:=by rw[aH];simp
 have ap:T 0 I.size (x.size+1):=T.new d.size;replace j:=j.M E;replace k:=k.M E;replace d:=d.L E;have a6:=E.size;replace t:Var 26 F x.size (b7 bz):=t;refine o.nil (aE (G.t2 (fun aJ aK=>G.L (fun R=>?_))));refine o.aj ?_;refine R (G.aB (fun _ W X=>?_))
 refine G.bd (fun(i:(Nat))=>[(1,aI n),(2,.pointer (some ⟨I.size,0,none⟩)),(4,.pointer (some ⟨x.size,0,none⟩)),(5,.int .i64 i)])
  (fun(i:(Nat)) (H:Heap)=>(i≤s.bb.length)∧(∀q (h:q<s.bb.length),q<i→¬s.bb[q].n=n)∧ak F H)
  (fun(i:(Nat))=>s.bb.length-i) 0 ⟨rfl,rfl,rfl,rfl,trivial⟩ ?_ ?_
 ·
  exact⟨(by omega),(fun q h U=>absurd U (Nat.not_lt_zero _)),V.refl _ _⟩
 intro i a7 Z aO aa P;obtain⟨bf,M,A⟩:=Z;replace j:=j.M A;replace k:=k.M A;replace t:=t.M A;replace d:=d.L A;have a8:=A.size;refine G.t2 (fun ab ae=>G.L (fun af=>?_));refine o.W ?_;refine o.v1 (Y.ai k.N rfl ca rfl hb) ?_;refine o.v1 (ar (k.N.drop 1) iw) ?_;refine o.v1 (ba j gI) ?_;refine o.v1 bG (o.nil (af ?_));refine aT (fun ah=>?_) (fun ah=>?_)
 ·
  refine G.skip (ab (G.t2 (fun ai aj=>G.aB (fun an _ ay=>G.L (fun az=>?_)))));refine o.v1 (Y.ai k.N rfl ca rfl hb) ?_;refine o.v1 (ar (k.N.drop 1) iw) ?_;refine o.W ?_;have aM:i<s.bb.length:=by omega
  obtain⟨y,B⟩:∃q,q=s.bb[i]:=⟨_,rfl⟩;refine o.bR (Y.bJ j (i) rfl gI hL rfl rfl) fun aR N=>?_;refine o.v1 (Y.ai N.N rfl me rfl bO) ?_;refine o.v1 (Y.cast (v2:=aI y.n) (ar (N.N.drop 0) bL) (by rw[B])) ?_;refine o.W ?_;refine o.v1 (Y.jB rfl rfl rfl) (o.nil (az ?_));refine aT (fun L=>?_) (fun L=>?_)
  ·
   refine G.L (fun aA=>?_);refine o.v1 (Y.ai k.N rfl ca rfl hb) ?_;refine o.v1 (ar (k.N.drop 1) iw) ?_;refine o.W ?_;refine o.bR (Y.bJ j (i) rfl gI hL rfl rfl) fun aS O=>?_;refine o.v1 (Y.ai O.N rfl me rfl a_) ?_;refine o.v1 (Y.cast (v2:=bs y.i) (aW ((O.N.drop 1).take 32) b_ a_ (by rw[qc];exact bB _)) ((by rw[B];exact b6 (qc _)))) ?_;refine o.s1 (S.var t (_) (b7 y.i) rfl rfl rfl rfl (jT y.i) a_ (bB _) (by first|decide|simp[bB]) ((c0 ((bB _).trans (bB _).symm)))) fun aV au=>?_;obtain⟨t,ac⟩:=au;replace ac:=ac.bp;replace d:=d.bl ac (ag.J (aq.q ap));refine o.nil (aA ?_);refine G.ret (ay (aj (P (X (aK (Q .ret (.inr rfl) _ _ _ (jA rfl rfl t.N b_ a_ (bB _)) ?_))))));exact⟨by rw[uC aM M (by rw[←B];exact L),←B];first|done|rfl,d⟩
  ·
   refine G.skip (an (ai (G.region ?_)));refine o.W ?_;refine o.v1 bD ?_;refine o.aj ?_;refine aP.sub (aa (i+1) _ ?_ ?_) ⟨rfl,rfl,rfl,(aD (by omega)),trivial⟩
   ·exact⟨(by omega),(fun q h U=>by rcases Nat.lt_succ_iff_lt_or_eq.1 U with aL|rfl;exact M q h aL;rw[←B];exact L),A⟩
   ·first|omega|(simp only;omega)|(simp;omega)
 ·
  refine G.exit (ae (P (W ?_)));refine aJ (G.L (fun am=>?_));refine o.v1 (Y.build (v:=bs bz) rfl rfl (by intro w;kernel_rfl)) ?_;refine o.s1 (S.var t (_) (b7 bz) rfl rfl rfl rfl (jT bz) a_ (bB _) (by first|decide|simp[bB]) ((c0 ((bB _).trans (bB _).symm)))) fun aX aB=>?_;obtain⟨t,C⟩:=aB;replace C:=C.bp;replace d:=d.bl C (ag.J (aq.q ap));have bb:=C.size;refine o.nil (am ?_);refine G.ret (Q .ret (.inr rfl) _ _ _ (jA rfl rfl t.N b_ a_ (bB _)) ?_);exact⟨by rw[As (fun q aN=>M q aN (by omega))];first|done|rfl,d⟩
end hQ

namespace lH
open E Go.RowKit eJ eN eW e3 ey eX eY fF fG fO fY gg gx gy hQ dz
set_option maxRecDepth 100000 in
theorem jY:c6 Tryz.prog 44 71 33 48:=⟨Tryz.underlying44,_,_,rfl,rfl,rfl,rfl,rfl⟩
theorem Hs{P:Program}{w0:World}{n:Nat}{l:bZ}{H:Heap}{J:Oper}{x y:Operand}{t u:TypeId}{a b:List UInt8}(j:J.op= .binOp .geq t x y u)(k:aF l x=some (aI a))(hy:aF l y=some (aI b)):Y P w0 n l H J (.bool (!(Op.bytesLess a b))):=by
 intro ac w i o;have aK:=ByteArray.toList_eq (ByteArray.mk a.toArray);have d:=ByteArray.toList_eq (ByteArray.mk b.toArray);have h:(a==b)=decide (a=b):=by by_cases h:a=b<;>simp[h]
 simp only at aK d;simp[execOp,j,i.eval k,i.eval hy,binOp,Op.stringOp,eqGuard,aI,aK,d,h]
def hZ(m:bF)(a:List cw×Bool)(x:cw):List cw×Bool:=
 let b:= !a.2&& !(Op.bytesLess x.n m.n)
 let J:=if b=true then a.1++[⟨m.n,m.w⟩]else a.1
 (if x.n≠m.n then J++[x]else J,a.2||b)
def kv(m:bF)(l:List cw):List cw:=
 let a:=l.foldl (hZ m) ([],decide (m.w=bz))
 if a.2=true then a.1 else a.1++[⟨m.n,m.w⟩]
theorem E4{m:bF}{l:List cw}{i:Nat}(d:i<l.length)(a:List cw×Bool):(l.take (i+1)).foldl (hZ m) a=hZ m ((l.take i).foldl (hZ m) a) l[i]:=by
 rw[List.take_succ_eq_append_getElem d,List.foldl_append];rfl
theorem o3(m:bF):∀(l:List cw) (J:List cw),l.foldl (hZ m) (J,true)=(J++l.filter (fun x=>decide (x.n≠m.n)),true)
 |[],J=>by simp
 |x::l,J=>by
  rw[List.foldl_cons];by_cases h:x.n=m.n
  ·rw[show hZ m (J,true) x=(J,true)by simp[hZ,h],o3 m l];simp[h]
  ·rw[show hZ m (J,true) x=(J++[x],true)by simp[hZ,h],o3 m l];simp[h]
theorem wB(m:bF):∀(l:List cw),bN (l.filter (fun x=>decide (x.n≠m.n)))=d_ (bN l) m.n
 |[]=>rfl
 |x::l=>by
  have ih:=wB m l;by_cases h:x.n=m.n
  ·simp only[bN,d_,List.map_cons]at ih⊢
   simp[h]at ih⊢;exact ih
  ·simp only[bN,d_,List.map_cons]at ih⊢
   simp[h]at ih⊢;exact ih
theorem E7{m:bF}{x:cw}(J:List cw)(h:Op.bytesLess x.n m.n=true)(aA:¬x.n=m.n):hZ m (J,false) x=(J++[x],false):=by simp[hZ,h,aA]
theorem E5{m:bF}{x:cw}(J:List cw)(h:Op.bytesLess x.n m.n=false)(aA:x.n=m.n):hZ m (J,false) x=(J++[⟨m.n,m.w⟩],true):=by
 rw[aA]at h;simp[hZ,h,aA]
theorem E6{m:bF}{x:cw}(J:List cw)(h:Op.bytesLess x.n m.n=false)(aA:¬x.n=m.n):hZ m (J,false) x=(J++[⟨m.n,m.w⟩]++[x],true):=by simp[hZ,h,aA]
def qG(m:bF)(a:List cw×Bool):List cw:=if a.2=true then a.1 else a.1++[⟨m.n,m.w⟩]
theorem n1(a b:List cw):bN (a++b)=bN a++bN b:=List.map_append
theorem xz(m:bF):∀(l:List cw) (J:List cw),dc (bN l)→bN (qG m (l.foldl (hZ m) (J,false)))=bN J++dZ (bN l) m.n m.w
 |[],J,_=>by simp[qG,bN,dZ]
 |x::l,J,k=>by
  have av:=List.pairwise_cons.1 k;have j:∀y∈l,blt x.n y.n:=fun y hy=>av.1 (y.n,y.i) (List.mem_map.2 ⟨y,hy,rfl⟩);have n:bN (x::l)=(x.n,x.i)::bN l:=rfl;rw[List.foldl_cons,n]
  cases h:Op.bytesLess x.n m.n with
  |true=>
   have aA:¬x.n=m.n:=fun e=>by rw[e]at h;exact mF _ h
   rw[E7 J h aA,xz m l _ av.2,n1,dZ,if_neg aA,if_neg (oz h),List.append_assoc]
   rfl
  |false=>
   have i:(x.n=m.n∨blt m.n x.n)→l.filter (fun y=>decide (y.n≠m.n))=l:=fun q=>List.filter_eq_self.2 (fun y hy=>by
    refine decide_eq_true (fun e=>?_);have d:=j y hy;rcases q with q|q
    ·rw[q,e]at d;exact mF _ d
    ·rw[e]at d;exact oz d q)
   by_cases aA:x.n=m.n
   ·rw[E5 J h aA,o3,qG,if_pos rfl,i (.inl aA),dZ,if_pos aA,n1,n1,List.append_assoc]
    rfl
   ·have aw:blt m.n x.n:=Classical.byContradiction (fun q=>aA (lS (by unfold blt;rw[h];exact Bool.false_ne_true) q))
    rw[E6 J h aA,o3,qG,if_pos rfl,i (.inr aw),dZ,if_neg aA,if_pos aw,n1,n1,n1,List.append_assoc,List.append_assoc];rfl
theorem xy(m:bF)(l:List cw)(d:dc (bN l)):bN (kv m l)=dK (bN l) m:=by
 unfold kv dK;by_cases h:m.w=bz
 ·rw[if_pos h,show decide (m.w=bz)=true from decide_eq_true h,o3]
  simp only[if_true,List.nil_append];exact wB m l
 ·rw[if_neg h,show decide (m.w=bz)=false from decide_eq_false h]
  exact xz m l [] d
theorem xw(v:Value)(l:List cw)(m:bF)(w0:World)(I:Heap)
 (x:bw I du 33 v l) (da:l.length≤1000000):
 aC Tryz.prog w0 64 #[v,j3 m] I (fun r aR=>∃s2:aM,∃a8:Nat,r=s2.v∧(aU a8 71 aR du 33 s2.v (kv m l))∧(T 0 I.size a8)∧ak I aR):=by
 refine aC.aK [v,j3 m] Tryz.func64 ?_;intro cq bl;have A:ak I I:=V.refl _ _;replace x:=x.bt;have bm:=x.bY;have cM:=m.w.2;have cN:=bz.2;refine G.L (fun bY=>?_);refine o.aO cr ?_;rintro v3 N ⟨rfl,n,aa,cP,bZ⟩;have bi:N.size=I.size+1:=by rw[bZ];simp
 replace x:=x.M aa;replace A:=A.L aa;have cQ:=aa.size;replace n:Var 52 N I.size (dt m):=n;refine o.aj ?_;refine bY (G.L (fun b0=>?_));refine o.aj ?_;refine b0 (G.L (fun aB=>?_));refine o.v1 (Y.ai n.N rfl cy rfl a_) ?_;refine o.v1 (Y.cast (v2:=bs m.w) (aW ((n.N.drop 33).take 32) b_ a_ (by rw[e1];exact bB _)) (b6 (e1 _))) ?_;refine o.v1 (Y.build (v:=bs bz) rfl rfl (by intro w;kernel_rfl)) ?_;refine o.v1 (Y.cast (v2:= .bool (decide (m.w=bz))) (Y.h_ rfl Tryz.eqGuardType26 (fun w=>fR 9998 Tryz.underlying26 Tryz.underlying5 cL dQ (by assumption) (by assumption) w) rfl rfl) ((congrArg Value.bool (decide_eq_decide.2 ⟨fun e=>Subtype.ext e,fun e=>congrArg Subtype.val e⟩)))) ?_;refine o.aj ?_;refine aB (G.t1 (fun b1=>G.L (fun b3=>?_)));refine o.aj ?_;refine b3 (G.aB (fun _ b4 _=>?_))
 refine G.bd (fun(S:(Nat)×(aM)×(Nat)×(List cw×Bool))=>match S with|(i,s1,k,a)=>[(0,v),(3,.pointer (some ⟨I.size,0,none⟩)),(5,s1.v),(6,.bool a.2),(7,.int .i64 (i:Int))])
  (fun(i,s1,k,a) (H:Heap)=>(i≤l.length)∧(aU k 71 H du 33 s1.v (a.1))∧(a=(l.take i).foldl (hZ m) ([],decide (m.w=bz)))∧(a.1.length≤2*i)∧(T 0 N.size k)∧ak N H)
  (fun(i,s1,k,a)=>l.length-i) (0,cO,0,([],decide (m.w=bz))) ⟨rfl,rfl,rfl,rfl,rfl,trivial⟩ ?_ ?_
 ·
  exact⟨(by omega),aU.nil hT ll,rfl,(by simp),T.refl _ _,V.refl _ _⟩
 rintro⟨i,s1,k,a⟩ t b5 cp b7 b8;obtain⟨c_,j,X,c6,C,E⟩:=b5;have br:=ay.app (ay.z) (bm.mono A.size) C;have b9:af (I.size+1) k:=af.app (af.z) n.lt C;have ab:T 0 I.size k:=T.L (T.refl 0 _) C A.size;replace x:=x.M E;replace n:=n.M E;replace A:=A.L E;have cS:=E.size;have W:=j.le;have a5:=C;refine G.t2 (fun ca cb=>G.L (fun bv=>?_));refine o.ax 2 ?_;refine o.v1 (ba x gI) ?_;refine o.v1 bG (o.nil (bv ?_));refine aT (fun cc=>?_) (fun cc=>?_)
 ·
  have cf:i<l.length:=by omega
  obtain⟨y,Q⟩:∃q,q=l[i]:=⟨_,rfl⟩;refine G.skip (ca ?_)
  refine G.cut (fun(S:(aM)×(Nat)×(List cw)×(Bool))=>match S with|(sp,M,L,R)=>[(0,v),(3,.pointer (some ⟨I.size,0,none⟩)),(5,sp.v),(6,.bool R),(7,.int .i64 (i:Int))])
   (fun(sp,M,L,R) (H:Heap)=>(aU M 71 H du 33 sp.v (L))∧((L,R)=hZ m a l[i])∧(L.length≤2*i+2)∧(T k t.size M)∧V (aE [k]) t H) (fun _ aY _=>?_) ?_
  ·
   have B:V (aE [k]) t t:=V.refl _ _;have bc:=T.refl k t.size;refine G.aB (fun aZ _ _=>?_)
   refine G.cut (fun(S:(aM)×(Nat)×(List cw)×(Bool))=>match S with|(so,K,J,p)=>[(0,v),(3,.pointer (some ⟨I.size,0,none⟩)),(5,so.v),(6,.bool p),(7,.int .i64 (i:Int))])
    (fun(so,K,J,p) (H:Heap)=>(aU K 71 H du 33 so.v (J))∧(J=if(!a.2&& !(Op.bytesLess y.n m.n))=true then a.1++[(⟨m.n,m.w⟩:cw)]else a.1)∧(p=(a.2||(!a.2&& !(Op.bytesLess y.n m.n))))∧(J.length≤2*i+1)∧(T k t.size K)∧V (aE [k]) t H) (fun _ a1 _=>?_) ?_
   ·
    have F:V (aE [k]) t t:=V.refl _ _;have aF:=T.refl k t.size;refine G.t1 (fun bn=>?_);refine hf ?_;refine o.W ?_;refine o.v1 eI ?_;refine o.W ?_;refine o.join (d:=29) (v:= .bool (!a.2&& !(Op.bytesLess y.n m.n))) 9 (fun aS=>?_) ?_
    ·
     refine o.split (d:=20) rfl (fun O=>?_) (fun O=>?_)
     ·
      refine o.ax 2 ?_;refine o.e (g:=fun ad=> .pointer (some ad)) (Y.bJ x (i) rfl gI hL rfl rfl) bh rfl rfl (fun c5 a6=>?_);refine o.an (Y.ai a6.N rfl me rfl bO) ?_;refine o.an (Y.cast (v2:=aI y.n) (ar (a6.N.drop 0) bL) (by rw[Q])) ?_;refine o.an (Y.ai n.N rfl cy rfl bO) ?_;refine o.an (ar n.N bL) ?_;refine o.an (Hs rfl rfl rfl) ?_;refine o.N ?_;exact aS _ (congrArg (fun b=>some (Value.bool b)) (by simp[O])) (ae (ae (ae (ae (ae (ae (ae (ae (ae (bC (congrArg Value.bool O.symm)))))))))))
     ·
      refine o.ax 9 ?_;exact aS _ (congrArg (fun b=>some (Value.bool b)) (by simp[O])) (ae (ae (ae (ae (ae (ae (ae (ae (ae (bC (congrArg Value.bool O.symm)))))))))))
    refine o.nil (bn ?_);refine cI (fun P=>?_) (fun P=>?_)
    ·
     refine G.L (fun bo=>?_);refine o.W ?_;refine o.v1 (Y.ai n.N rfl cy rfl bO) ?_;refine o.v1 (ar n.N bL) ?_;refine o.v1 (Y.ai n.N rfl cy rfl a_) ?_;refine o.v1 (Y.cast (v2:=bs m.w) (aW ((n.N.drop 33).take 32) b_ a_ (by rw[e1];exact bB _)) (b6 (e1 _))) ?_;refine o.v1 (Y.build (v:= .agg (du (⟨m.n,m.w⟩:cw)).toArray) rfl rfl (by intro w;exact rT _ _)) ?_;refine o.aO (cU _ ([(⟨m.n,m.w⟩:cw)]) jY hT ll (rfl)) fun cT aV cd=>?_;obtain⟨cj,aH,cE,bp⟩:=cd;have ct:aV.size=t.size+1:=by rw[bp];simp
     replace j:=j.M aH;replace F:=F.bc aH;have cV:=aH.size;refine o.aO (dO j cj.rd jY (by simp;omega) (by simp;omega)) fun aX cW bN=>?_;obtain⟨ai,j,aJ,am⟩:=bN;replace aJ:T k aV.size ai:=aJ;replace am:=am.md;have bq:T k t.size ai:=T.L (aF) aJ F.size;replace F:=F.aJ am (ag.J (aq.r aF));have cY:=am.size;have W:=j.le;obtain⟨bP,rfl⟩:∃s:aM,aX=s.v:=⟨cg aX,j.bm.symm⟩;refine o.aj ?_;refine bo (G.region ?_);refine o.aj ?_;refine aP.sub (a1 (bP,ai,a.1++[(⟨m.n,m.w⟩:cw)],true) _ ?_) ⟨rfl,rfl,rfl,rfl,(aD (by omega)),trivial⟩;exact⟨j,by rw[if_pos P],by rw[P,Bool.or_true],by simp;omega,bq,F⟩
    ·
     refine G.skip ?_;refine aP.sub (a1 (s1,k,a.1,a.2) _ ?_) ⟨rfl,rfl,rfl,rfl,(aD (by omega)),trivial⟩;exact⟨j,by rw[if_neg (by rw[P];exact Bool.false_ne_true)],by rw[P,Bool.or_false],by omega,aF,F⟩
   ·
    rintro⟨so,K,J,p⟩ bJ au;obtain⟨j,bj,bk,db,C,ac⟩:=au;have aK:T k t.size K:=T.L (bc) C B.size;replace x:=x.ab ac (az.J br);replace n:=n.ab ac (ah.J b9);replace B:=B.aJ ac (ag.J (aq.r bc));have cZ:=ac.size;have W:=j.le;refine G.t1 (fun bt=>?_);refine hf ?_;refine o.ax 2 ?_;refine o.bR (Y.bJ x (i) rfl gI hL rfl rfl) fun cG a7=>?_;refine o.v1 (Y.ai a7.N rfl me rfl bO) ?_;refine o.v1 (Y.cast (v2:=aI y.n) (ar (a7.N.drop 0) bL) (by rw[Q])) ?_;refine o.v1 (Y.ai n.N rfl cy rfl bO) ?_;refine o.v1 (ar n.N bL) ?_;refine o.v1 (Y.iS rfl rfl rfl) (o.nil (bt ?_));refine aT (fun aj=>?_) (fun aj=>?_)
    ·
     refine G.region ?_;refine o.ax 3 ?_;refine o.bR (Y.bJ x (i) rfl gI hL rfl rfl) fun cH bu=>?_;refine o.v1 (Y.cast (v2:= .agg (du y).toArray) (aW bu.N nm hL (hT _)) (by rw[Q])) ?_;refine o.aO (cU _ ([y]) jY hT ll (rfl)) fun c0 a9 bQ=>?_;obtain⟨cl,aL,cJ,bx⟩:=bQ;have cu:a9.size=bJ.size+1:=by rw[bx];simp
     replace j:=j.M aL;replace B:=B.bc aL;have c1:=aL.size;refine o.aO (dO j cl.rd jY (by simp;omega) (by simp;omega)) fun bf c2 bR=>?_;obtain⟨an,j,aN,ap⟩:=bR;replace aN:T K a9.size an:=aN;replace ap:=ap.md;have bA:T k t.size an:=T.L (aK) aN B.size;replace B:=B.aJ ap (ag.J (aq.r aK));have cv:=ap.size;have W:=j.le;obtain⟨bS,rfl⟩:∃s:aM,bf=s.v:=⟨cg bf,j.bm.symm⟩;refine o.aj ?_;refine aZ ?_;refine aP.sub (aY (bS,an,J++[y],p) _ ?_) ⟨rfl,rfl,rfl,rfl,(aD (by omega)),trivial⟩;exact⟨j,by rw[←Q];show _=(if y.n≠m.n then(if(!a.2&& !(Op.bytesLess y.n m.n))=true then a.1++[(⟨m.n,m.w⟩:cw)]else a.1)++[y]else(if(!a.2&& !(Op.bytesLess y.n m.n))=true then a.1++[(⟨m.n,m.w⟩:cw)]else a.1),a.2||(!a.2&& !(Op.bytesLess y.n m.n)));rw[if_pos aj,←bj,←bk],by simp;omega,bA,B⟩
    ·
     refine G.skip (aZ ?_);refine aP.sub (aY (so,K,J,p) _ ?_) ⟨rfl,rfl,rfl,rfl,(aD (by omega)),trivial⟩;exact⟨j,by rw[←Q];show _=(if y.n≠m.n then(if(!a.2&& !(Op.bytesLess y.n m.n))=true then a.1++[(⟨m.n,m.w⟩:cw)]else a.1)++[y]else(if(!a.2&& !(Op.bytesLess y.n m.n))=true then a.1++[(⟨m.n,m.w⟩:cw)]else a.1),a.2||(!a.2&& !(Op.bytesLess y.n m.n)));rw[if_neg aj,←bj,←bk],by omega,aK,B⟩
  ·
   rintro⟨sp,M,L,R⟩ c3 bM;obtain⟨j,ch,dc,C,bd⟩:=bM;have bE:T 0 N.size M:=T.L (a5) C E.size;replace E:=E.bl bd (ag.J (aq.q a5));have cz:=bd.size;have W:=j.le;refine G.region ?_;refine o.W ?_;refine o.v1 bD ?_;refine o.aj ?_;refine aP.sub (b7 (i+1,sp,M,(L,R)) _ ?_ ?_) ⟨rfl,rfl,rfl,rfl,(aD (by omega)),trivial⟩
   ·exact⟨(by omega),j,by rw[E4 cf,←X];exact ch,by show L.length≤_;omega,bE,E⟩
   ·first|omega|(simp only;omega)|(simp;omega)
 ·
  obtain rfl:i=l.length:=by omega
  rw[List.take_length]at X;refine G.exit (cb (b8 (b4 ?_)));refine b1 (G.t1 (fun bb=>G.L (fun bH=>?_)));refine o.W ?_;refine o.v1 eI (o.nil (bH ?_));refine cI (fun aA=>?_) (fun aA=>?_)
  ·
   refine G.region ?_;refine o.W ?_;refine o.v1 (Y.ai n.N rfl cy rfl bO) ?_;refine o.v1 (ar n.N bL) ?_;refine o.v1 (Y.ai n.N rfl cy rfl a_) ?_;refine o.v1 (Y.cast (v2:=bs m.w) (aW ((n.N.drop 33).take 32) b_ a_ (by rw[e1];exact bB _)) (b6 (e1 _))) ?_;refine o.v1 (Y.build (v:= .agg (du (⟨m.n,m.w⟩:cw)).toArray) rfl rfl (by intro w;exact rT _ _)) ?_;refine o.aO (cU _ ([(⟨m.n,m.w⟩:cw)]) jY hT ll (rfl)) fun cB bg bU=>?_;obtain⟨cn,aO,cK,a0⟩:=bU;have bT:bg.size=t.size+1:=by rw[a0];simp
   replace j:=j.M aO;replace A:=A.L aO;have cC:=aO.size;refine o.aO (dO j cn.rd jY (by simp;omega) (by simp;omega)) fun be cD bV=>?_;obtain⟨b2,j,aQ,Z⟩:=bV;replace aQ:T k bg.size b2:=aQ;replace Z:=Z.md;have a2:T 0 I.size b2:=T.L (ab) aQ A.size;replace A:=A.bl Z (ag.J (aq.q ab));obtain⟨bX,rfl⟩:∃s:aM,be=s.v:=⟨cg be,j.bm.symm⟩;refine o.aj ?_;refine bb (G.L (fun a3=>?_));refine o.aR 2 ?_;refine a3 ?_;refine G.ret (bl ?_);exact⟨bX,b2,rfl,by unfold kv;simp only[←X];rw[if_neg (by simpa using aA)];exact j,(a2),A⟩
  ·
   refine G.skip (bb (G.L (fun a4=>?_)));refine o.aR 2 ?_;refine a4 ?_;refine G.ret (bl ?_);exact⟨s1,k,rfl,by unfold kv;simp only[←X];rw[if_pos (by simpa using aA)];exact j,(ab),A⟩
end lH

namespace mo
open E Go.RowKit eJ eN eW e3 ey eX eY fF fG fO fY gg gx gy hQ lH dz
def hY(n:List UInt8)(l:List e5):List e5:=l.filter (fun x=>decide (x.n≠n))
def l0(n:List UInt8)(l:List e5):List cA:=(l.filter (fun x=>decide (x.n=n))).flatMap (·.l)
theorem qw(n:List UInt8):∀(l:List e5),cm (hY n l)=d_ (cm l) n
 |[]=>rfl
 |x::l=>by
  have ih:=qw n l;by_cases h:x.n=n
  ·simp only[cm,d_,hY,List.map_cons]at ih⊢
   simp[h]at ih⊢;exact ih
  ·simp only[cm,d_,hY,List.map_cons]at ih⊢
   simp[h]at ih⊢;exact ih
theorem w3(n:List UInt8):∀(l:List e5),dc (cm l)→l0 n l=(aL (cm l) n).getD []
 |[],_=>rfl
 |x::l,j=>by
  have av:=List.pairwise_cons.1 j;have ih:=w3 n l av.2;by_cases h:x.n=n
  ·have d:l.filter (fun y=>decide (y.n=n))=[]:=List.filter_eq_nil_iff.2 (fun y hy e=>by
    have i:=av.1 (y.n,y.l) (List.mem_map.2 ⟨y,hy,rfl⟩);have e:y.n=n:=of_decide_eq_true e;exact mG i (h.trans e.symm))
   show((x::l).filter (fun y=>decide (y.n=n))).flatMap (·.l)=(aL ((x.n,x.l)::cm l) n).getD [];rw[List.filter_cons_of_pos (by simp[h]),d,aL,if_pos h.symm];simp
  ·show((x::l).filter (fun y=>decide (y.n=n))).flatMap (·.l)=(aL ((x.n,x.l)::cm l) n).getD []
   rw[List.filter_cons_of_neg (by simp[h]),aL,if_neg (fun e=>h e.symm)];exact ih
theorem w2{n:List UInt8}{l:List e5}{i:Nat}(d:i<l.length):hY n (l.take (i+1))=if l[i].n=n then hY n (l.take i)else hY n (l.take i)++[l[i]]:=by
 unfold hY;rw[List.take_succ_eq_append_getElem d,List.filter_append];by_cases h:l[i].n=n<;>simp[h]
theorem w4{n:List UInt8}{l:List e5}{i:Nat}(d:i<l.length):l0 n (l.take (i+1))=if l[i].n=n then l0 n (l.take i)++l[i].l else l0 n (l.take i):=by
 unfold l0;rw[List.take_succ_eq_append_getElem d,List.filter_append,List.flatMap_append];by_cases h:l[i].n=n<;>simp[h]
theorem DA{β:Type}{i:List (aH×β)}(h:dc i)(n:aH)(v:β):dZ (d_ i n) n v=dZ i n v:=by
 have al:dc (d_ i n):=List.Pairwise.filter _ h;refine sh (nF al n v) (nF h n v) (fun q=>?_);rw[o0 _ _ _ _ al,o0 _ _ _ _ h,jg];by_cases d:q=n
 ·rw[if_pos d,if_pos d]
 ·rw[if_neg d,if_neg d,if_neg d]
theorem Ef{l:List e5}{m:bF}(d:dc (cm l))(hw:¬m.w=bz){k:Nat}(t:k≤(hY m.n l).length)(o:∀j (h:j<(hY m.n l).length),j<k→blt (hY m.n l)[j].n m.n)(U:∀h:k<(hY m.n l).length,¬blt (hY m.n l)[k].n m.n)(v:aM):
 cm ((hY m.n l).take k++⟨m.n,v,hX (l0 m.n l++[⟨m.J,m.w,m.y⟩])⟩::(hY m.n l).drop k)=hl (cm l) m:=by
 have al:dc (cm (hY m.n l)):=by rw[qw];exact List.Pairwise.filter _ d
 have A:∀x∈hY m.n l,¬x.n=m.n:=fun x B=>of_decide_eq_true (List.mem_filter.1 B).2;unfold hl
 rw[if_neg hw,←DA d,←qw,w3 _ _ d,sj (k:=k) (by simp only[cm,List.length_map];exact t) (fun j n r=>by
  simp only[cm,List.length_map]at n;simp only[cm,List.getElem_map];exact o j n r) (fun i=>by
  simp only[cm,List.length_map]at i;simp only[cm,List.getElem_map];exact Classical.byContradiction (fun q=>A _ (List.getElem_mem i) (lS (U i) q)))]
 simp only[cm,List.map_append,List.map_cons,List.map_take,List.map_drop]
end mo

namespace nd
open E Go.RowKit eJ eN eW e3 ey eX eY fF fG fO fY gg gx gy hQ lH mo dz
set_option maxRecDepth 100000 in
theorem jZ:c6 Tryz.prog 45 62 2 40:=⟨Tryz.underlying45,_,_,rfl,rfl,rfl,rfl,rfl⟩
set_option maxRecDepth 100000 in
theorem kQ:c6 Tryz.prog 60 64 65 80:=⟨Tryz.underlying60,_,_,rfl,rfl,rfl,rfl,rfl⟩
theorem Ey(v:Value)(l:List e5)(m:bF)(F:Nat→Prop)(w0:World)(I:Heap)
 (O:Rd F I ei 2 v l) (dP:bg F I.size) (aA:∀y∈l,Rd F I dm 65 y.v.v y.l) (bQ:bg F I.size) (ga:l.length≤1000000) (eO:∀y∈l,y.l.length≤100):
 aC Tryz.prog w0 65 #[v,j3 m] I (fun r a6=>∃s2:aM,∃b4:List e5,∃aS:Nat→Prop,r=s2.v∧(∀u:Unit,Rd aS a6 ei 2 s2.v b4)∧(bg aS a6.size)∧(∀y∈b4,Rd aS a6 dm 65 y.v.v y.l)∧(bg aS a6.size)∧(∀b,aS b→F b∨I.size≤b)∧(dc (cm l)→cm b4=hl (cm l) m)∧ak I a6):=by
 refine aC.aK [v,j3 m] Tryz.func65 ?_;intro e3 cT;have x:ak I I:=V.refl _ _;have dn:=m.w.2;have fN:=bz.2;refine G.L (fun eF=>?_);refine o.aO cr ?_;rintro v3 C ⟨rfl,A,bH,fO,eG⟩;have fc:C.size=I.size+1:=by rw[eG];simp
 replace O:=O.M bH;replace aA:=fun y E=>(aA y E).M bH;replace x:=x.L bH;have gb:=bH.size;replace A:Var 52 C I.size (dt m):=A;refine o.aj ?_;refine eF (G.L (fun dY=>?_));refine o.aj ?_;refine dY (G.L (fun dZ=>?_));refine o.v1 (Y.ai A.N rfl cy rfl bO) ?_;refine o.v1 (ar A.N bL) ?_;refine o.v1 (Y.build (v:= .agg (ei ⟨m.n,cO,[]⟩).toArray) rfl rfl (by intro w;kernel_rfl)) ?_;refine o.aO (cQ pz) ?_;rintro v6 cV ⟨rfl,n,a7,ds,d_⟩;have fe:cV.size=C.size+1:=by rw[d_];simp
 have ci:=(ay.new (dP.mono x.size):ay _ (C.size+1));have bJ:=(ay.new (bQ.mono x.size):ay _ (C.size+1));have bM:af (I.size+1) (C.size+1):=af.new A.lt;have bN:T 0 I.size (C.size+1):=T.new x.size;replace O:=O.M a7;replace aA:=fun y E=>(aA y E).M a7;replace A:=A.M a7;replace x:=x.L a7;have fP:=a7.size;refine o.s1 (dy n (_) (ei ⟨m.n,cO,[]⟩) (jw _) fl (fI _) ((c0 (fI _).symm))) fun an dg=>?_;obtain⟨n,aj⟩:=dg;replace aj:=aj.bp;replace O:=O.ab aj (az.J ci);replace aA:=fun y E=>(aA y E).ab aj (az.J bJ);replace A:=A.ab aj (ah.J bM);replace x:=x.bl aj (ag.J (aq.q bN));have fQ:=aj.size;refine o.nil (dZ (G.t1 (fun ea=>G.L (fun eb=>?_))));refine o.aj ?_;refine eb (G.aB (fun _ ec _=>?_))
 refine G.bd (fun(bu:(Nat)×(aM)×(Nat)×(List e5)×(aM)×(Nat)×(List cA))=>match bu with|(i,s1,M,J,aY,K,L)=>[(0,v),(3,.pointer (some ⟨I.size,0,none⟩)),(5,s1.v),(6,.pointer (some ⟨C.size,0,none⟩)),(7,.int .i64 (i:Int))])
  (fun(i,s1,M,J,aY,K,L) (H:Heap)=>(i≤l.length)∧(Var 62 H C.size (ei ⟨m.n,aY,[]⟩))∧(aU M 62 H ei 2 s1.v (J))∧(aU K 64 H dm 65 aY.v (L))∧(J=hY m.n (l.take i))∧(L=l0 m.n (l.take i))∧(J.length≤i)∧(L.length≤100*i)∧(T 0 an.size M)∧(T 0 an.size K)∧(af (C.size+1) M)∧(af (C.size+1) K)∧(af M K)∧V (aE [(C.size+1)]) an H)
  (fun(i,s1,M,J,aY,K,L)=>l.length-i) (0,cO,0,[],cO,0,[]) ⟨rfl,rfl,rfl,rfl,rfl,trivial⟩ ?_ ?_
 ·
  exact⟨(by omega),n,aU.nil fI jw,aU.nil kN nx,rfl,rfl,(by simp),(by simp),T.refl _ _,T.refl _ _,af.z,af.z,af.z,V.refl _ _⟩
 rintro⟨i,s1,M,J,aY,K,L⟩ N ed e2 ef eg;obtain⟨fY,n,t,B,Z,bR,gd,gg,bC,aO,au,am,bZ,ap⟩:=ed;have di:T 0 I.size M:=T.L (T.refl 0 _) bC x.size;have dj:=ay.app (ay.z) (bQ.mono x.size) aO;have dk:af (I.size+1) K:=af.app (af.z) A.lt aO;have b5:T 0 I.size K:=T.L (T.refl 0 _) aO x.size;replace O:=O.ab ap (az.J ci);replace aA:=fun y E=>(aA y E).ab ap (az.J bJ);replace A:=A.ab ap (ah.J bM);replace x:=x.bl ap (ag.J (aq.q bN));have fS:=ap.size;have b8:=t.le;have bS:=B.le;have aF:=au;have a8:=am;have bb:=bZ;have cY:=T.refl (C.size+1) an.size;have a9:=bC;have cb:=aO;refine G.t2 (fun eh ej=>G.L (fun ek=>?_));refine o.ax 2 ?_;refine o.v1 (ba O fD) ?_;refine o.v1 bG (o.nil (ek ?_));refine aT (fun en=>?_) (fun en=>?_)
 ·
  have bp:i<l.length:=by omega
  obtain⟨y,X⟩:∃q,q=l[i]:=⟨_,rfl⟩;have b3:y∈l:=by rw[X];exact List.getElem_mem bp
  have gi:=eO y b3;refine G.skip (eh ?_)
  refine G.cut (fun(bu:(aM)×(Nat)×(List e5)×(aM)×(Nat)×(List cA))=>match bu with|(sp,aa,aX,h5,ab,aZ)=>[(0,v),(3,.pointer (some ⟨I.size,0,none⟩)),(5,sp.v),(6,.pointer (some ⟨C.size,0,none⟩)),(7,.int .i64 (i:Int))])
   (fun(sp,aa,aX,h5,ab,aZ) (H:Heap)=>(Var 62 H C.size (ei ⟨m.n,h5,[]⟩))∧(aU aa 62 H ei 2 sp.v (aX))∧(aU ab 64 H dm 65 h5.v (aZ))∧(aX=hY m.n (l.take (i+1)))∧(aZ=l0 m.n (l.take (i+1)))∧(aX.length≤i+1)∧(aZ.length≤100*(i+1))∧(T M N.size aa)∧(T K N.size ab)∧(af (C.size+1) aa)∧(af (C.size+1) ab)∧(af aa ab)∧V (aE [(C.size+1),M,K]) N H) (fun _ cc _=>?_) ?_
  ·
   have ac:V (aE [(C.size+1),M,K]) N N:=V.refl _ _;have c1:=T.refl (C.size+1) N.size;have bV:=T.refl M N.size;have bX:=T.refl K N.size;refine G.aB (fun cd _ _=>G.t1 (fun dp=>?_));refine hf ?_;refine o.ax 2 ?_;refine o.bR (Y.bJ O (i) rfl fD fl rfl rfl) fun ff cf=>?_;refine o.v1 (Y.ai cf.N rfl fW rfl bO) ?_;refine o.v1 (Y.cast (v2:=aI y.n) (ar (cf.N.drop 0) bL) (by rw[X])) ?_;refine o.v1 (Y.ai A.N rfl cy rfl bO) ?_;refine o.v1 (ar A.N bL) ?_;refine o.v1 (Y.jB rfl rfl rfl) (o.nil (dp ?_));refine aT (fun bT=>?_) (fun bT=>?_)
   ·
    refine iV 7 (fun e4 eM=>?_);refine o.v1 (Y.ai n.N rfl fW rfl gR) ?_;refine o.v1 (ar (n.N.drop 1) h9) ?_;refine o.ax 2 ?_;refine o.bR (Y.bJ O (i) rfl fD fl rfl rfl) fun fg be=>?_;refine o.v1 (Y.ai be.N rfl fW rfl gR) ?_;refine o.v1 (Y.cast (v2:=y.v.v) (ar (be.N.drop 1) h9) (by rw[X])) ?_;have gj:=aA y b3;refine o.nil (eM _ ?_);refine o.aO (dO B (aA y b3) kQ (by omega) (by omega)) fun cB fT eo=>?_;obtain⟨bY,B,bc,aH⟩:=eo;replace bc:T K N.size bY:=bc;replace aH:=aH.md;have ch:af (C.size+1) bY:=af.app (a8) n.lt bc;have dq:af M bY:=af.app (bb) t.le bc;have dr:T K N.size bY:=T.L (bX) bc ac.size;replace n:=n.ab aH (ah.J a8);replace t:=t.ab aH (ah.J bb);replace ac:=ac.aJ aH (ag.J (aq.r bX));have fU:=aH.size;have bS:=B.le;obtain⟨cC,rfl⟩:∃s:aM,cB=s.v:=⟨cg cB,B.bm.symm⟩;refine o.v1 (Y.ai n.N rfl fW rfl gR) ?_;refine o.s1 (dh n 1 (ei ⟨m.n,cC,[]⟩) (rfl) gR (by rw[fI];omega) (rfl)) fun fh dv=>?_;obtain⟨n,aR⟩:=dv;replace aR:=aR.bp;replace t:=t.ab aR (ah.J aF.symm);replace B:=B.ab aR (ah.J ch.symm);replace ac:=ac.aJ aR (ag.J (aq.r c1));have fV:=aR.size;refine o.nil (cd ?_);refine aP.sub (cc (s1,M,J,cC,bY,L++y.l) _ ?_) ⟨rfl,rfl,rfl,rfl,(aD (by omega)),trivial⟩;exact⟨n,t,B,by rw[w2 bp,←X,if_pos bT,←Z],by rw[w4 bp,←X,if_pos bT,←bR],by omega,by simp;omega,bV,dr,aF,ch,dq,ac⟩
   ·
    refine G.region ?_;refine o.ax 3 ?_;refine o.bR (Y.bJ O (i) rfl fD fl rfl rfl) fun fi dw=>?_;refine o.v1 (Y.cast (v2:= .agg (ei y).toArray) (aW dw.N lP fl (fI _)) (by rw[X])) ?_;refine o.aO (cU _ ([y]) jZ fI jw (rfl)) fun fX cD ep=>?_;obtain⟨eW,bd,fj,dx⟩:=ep;have fk:cD.size=N.size+1:=by rw[dx];simp
    replace n:=n.M bd;replace t:=t.M bd;replace B:=B.M bd;replace ac:=ac.bc bd;have fp:=bd.size;refine o.aO (dO t eW.rd jZ (by simp;omega) (by simp;omega)) fun cG fq er=>?_;obtain⟨bm,t,bh,aJ⟩:=er;replace bh:T M cD.size bm:=bh;replace aJ:=aJ.md;have dz:af (C.size+1) bm:=af.app (aF) n.lt bh;have dC:af K bm:=af.app (bb.symm) B.le bh;have dD:T M N.size bm:=T.L (bV) bh ac.size;replace n:=n.ab aJ (ah.J aF);replace B:=B.ab aJ (ah.J bb.symm);replace ac:=ac.aJ aJ (ag.J (aq.r bV));have fr:=aJ.size;have b8:=t.le;obtain⟨et,rfl⟩:∃s:aM,cG=s.v:=⟨cg cG,t.bm.symm⟩;refine o.aj ?_;refine cd ?_;refine aP.sub (cc (et,bm,J++[y],aY,K,L) _ ?_) ⟨rfl,rfl,rfl,rfl,(aD (by omega)),trivial⟩;exact⟨n,t,B,by rw[w2 bp,←X,if_neg bT,←Z],by rw[w4 bp,←X,if_neg bT,←bR],by simp;omega,by omega,dD,bX,dz,a8,dC.symm,ac⟩
  ·
   rintro⟨sp,aa,aX,h5,ab,aZ⟩ co a3;obtain⟨n,t,B,eR,eu,gf,gh,bC,aO,au,am,bZ,b7⟩:=a3;have dF:T 0 an.size aa:=T.L (a9) bC ap.size;have dG:T 0 an.size ab:=T.L (cb) aO ap.size;replace ap:=ap.aJ b7 (ag.cons (aq.r cY) (ag.cons (aq.q a9) (ag.J (aq.q cb))));have ft:=b7.size;have b8:=t.le;have bS:=B.le;have dH:=au;have dI:=am;have dJ:=bZ;refine G.region ?_;refine o.W ?_;refine o.v1 bD ?_;refine o.aj ?_;refine aP.sub (ef (i+1,sp,aa,aX,h5,ab,aZ) _ ?_ ?_) ⟨rfl,rfl,rfl,rfl,(aD (by omega)),trivial⟩
   ·exact⟨(by omega),n,t,B,eR,eu,by omega,by omega,dF,dG,dH,dI,dJ,ap⟩
   ·first|omega|(simp only;omega)|(simp;omega)
 ·
  obtain rfl:i=l.length:=by omega
  rw[List.take_length]at Z bR;refine G.exit (ej (eg (ec ?_)));refine ea (G.t2 (fun dK dL=>G.L (fun dM=>?_)));refine o.v1 (Y.ai A.N rfl cy rfl a_) ?_;refine o.v1 (Y.cast (v2:=bs m.w) (aW ((A.N.drop 33).take 32) b_ a_ (by rw[e1];exact bB _)) (b6 (e1 _))) ?_;refine o.v1 (Y.build (v:=bs bz) rfl rfl (by intro w;kernel_rfl)) ?_;refine o.v1 (Y.cast (v2:= .bool (decide (m.w=bz))) (Y.h_ rfl Tryz.eqGuardType26 (fun w=>fR 9998 Tryz.underlying26 Tryz.underlying5 cL dQ (by assumption) (by assumption) w) rfl rfl) ((congrArg Value.bool (decide_eq_decide.2 ⟨fun e=>Subtype.ext e,fun e=>congrArg Subtype.val e⟩)))) (o.nil (dM ?_));refine aT (fun b0=>?_) (fun b0=>?_)
  ·
   refine G.L (fun c3=>?_);refine o.aR 2 ?_;refine c3 ?_;refine G.ret (dL (cT ?_));exact⟨s1,J,_,rfl,(fun _=>((t.rd.imp (fun b _ e=>Or.inr (by have Q:=(di);unfold T at Q;omega))):Rd (fun b=>F b∨I.size≤b) _ ei 2 s1.v (J)).bt),(fun b e=>e.2),(fun y hy=>(((aA y (by rw[Z]at hy;exact(List.mem_filter.1 hy).1)).imp (fun b _ e=>Or.inl e):Rd (fun b=>F b∨I.size≤b) _ _ _ _ _)).bt),(fun b e=>e.2),(fun b e=>e.1),fun _=>by unfold hl;rw[if_pos b0,Z];exact qw _ _,x⟩
  ·
   refine G.skip (dK (G.L (fun c5=>?_)));refine o.v1 (Y.ai n.N rfl fW rfl gR) ?_;refine o.v1 (ar (n.N.drop 1) h9) ?_;refine o.v1 (Y.ai A.N rfl cy rfl a_) ?_;refine o.v1 (Y.cast (v2:=bs m.J) (aW ((A.N.drop 1).take 32) b_ a_ (by rw[gY];exact bB _)) (b6 (gY _))) ?_;refine o.v1 (Y.ai A.N rfl cy rfl a_) ?_;refine o.v1 (Y.cast (v2:=bs m.w) (aW ((A.N.drop 33).take 32) b_ a_ (by rw[e1];exact bB _)) (b6 (e1 _))) ?_;refine o.v1 (Y.ai A.N rfl cy rfl bO) ?_;refine o.v1 (ar A.N.mV bL) ?_;refine o.v1 (Y.build (v:= .agg (dm ⟨m.J,m.w,m.y⟩).toArray) rfl rfl (by intro w;exact uP _ _)) ?_;refine o.aO (cU _ ([(⟨m.J,m.w,m.y⟩:cA)]) kQ kN nx (rfl)) fun fu cH ev=>?_;obtain⟨eX,ae,e6,c6⟩:=ev;have fm:cH.size=N.size+1:=by rw[c6];simp
   replace aA:=fun y E=>(aA y E).M ae;replace A:=A.M ae;replace n:=n.M ae;replace t:=t.M ae;replace B:=B.M ae;replace x:=x.L ae;have e7:=ae.size;refine o.aO (dO B eX.rd kQ (by simp;omega) (by simp;omega)) fun cK fy dU=>?_;obtain⟨bi,B,a0,S⟩:=dU;replace a0:T K cH.size bi:=a0;replace S:=S.md;have a4:af (C.size+1) bi:=af.app (a8) n.lt a0;have cj:T 0 I.size bi:=T.L (b5) a0 x.size;replace aA:=fun y E=>(aA y E).ab S (az.J dj);replace A:=A.ab S (ah.J dk);replace n:=n.ab S (ah.J a8);replace t:=t.ab S (ah.J bb);replace x:=x.bl S (ag.J (aq.q b5));have dE:=S.size;have bS:=B.le;obtain⟨cs,rfl⟩:∃s:aM,cK=s.v:=⟨cg cK,B.bm.symm⟩;refine o.v1 (Y.ai n.N rfl fW rfl gR) ?_;refine o.s1 (dh n 1 (ei ⟨m.n,cs,[]⟩) (rfl) gR (by rw[fI];omega) (rfl)) fun bE a5=>?_;obtain⟨n,R⟩:=a5;replace R:=R.bp;replace aA:=fun y E=>(aA y E).ab R (az.J bJ);replace A:=A.ab R (ah.J bM);replace t:=t.ab R (ah.J aF.symm);replace B:=B.ab R (ah.J a4.symm);replace x:=x.bl R (ag.J (aq.q bN));have e8:=R.size;refine o.nil (c5 ?_)
   refine G.cut (fun(bu:(aM)×(Nat→Prop))=>match bu with|(sz,a1)=>[(3,.pointer (some ⟨I.size,0,none⟩)),(5,s1.v),(6,.pointer (some ⟨C.size,0,none⟩))])
    (fun(sz,a1) (H:Heap)=>(Var 62 H C.size (ei ⟨m.n,sz,[]⟩))∧(∀u:Unit,Rd a1 H dm 65 sz.v (hX (L++[(⟨m.J,m.w,m.y⟩:cA)])))∧(bg a1 H.size)∧(∀b,a1 b→I.size≤b)∧V (aE [(C.size+1)]) bE H) (fun _ aB _=>?_) ?_
   ·
    have bw:V (aE [(C.size+1)]) bE bE:=V.refl _ _;have c2:=T.refl (C.size+1) bE.size;refine G.L (fun c_=>?_);refine o.v1 (Y.ai n.N rfl fW rfl gR) ?_;refine o.v1 (ar (n.N.drop 1) h9) ?_;refine o.v1 (ba B.rd hM) ?_;have f_:(L++[(⟨m.J,m.w,m.y⟩:cA)]).length=L.length+1:=by simp
    obtain⟨q,eS⟩:∃q,q=(L++[(⟨m.J,m.w,m.y⟩:cA)]).length-100:=⟨_,rfl⟩;have cS:=sr eS;refine o.v1 eT (o.nil (c_ ?_));refine aT (fun dV=>?_) (fun dV=>?_)
    ·
     refine G.region ?_;refine o.v1 (Y.ai n.N rfl fW rfl gR) ?_;refine o.v1 (ar (n.N.drop 1) h9) ?_;refine o.v1 (Y.ai n.N rfl fW rfl gR) ?_;refine o.v1 (ar (n.N.drop 1) h9) ?_;refine o.v1 (ba B.rd hM) ?_;refine o.v1 (Y.cast (v2:= .int .i64 (q:Int)) fE (fJ (by omega))) ?_;refine o.aK (g:=fun v=>v) (Y.slice B.rd (q) ((L++[(⟨m.J,m.w,m.y⟩:cA)]).length) rfl hM j9 rfl (.inr ⟨_,_,_,rfl,rfl,by first|rfl|omega⟩) (.inl ⟨rfl,rfl⟩) (by omega) (by omega)) fun cM bt=>?_;rw[List.take_length,cS]at bt;obtain⟨bo,rfl⟩:∃s:aM,cM=s.v:=⟨cg cM,bt.bm.symm⟩;refine o.v1 (Y.ai n.N rfl fW rfl gR) ?_;refine o.s1 (dh n 1 (ei ⟨m.n,bo,[]⟩) (rfl) gR (by rw[fI];omega) (rfl)) fun dA dR=>?_;obtain⟨n,aQ⟩:=dR;replace aQ:=aQ.bp;replace B:=B.ab aQ (ah.J a4.symm);replace bt:=bt.ab aQ (az.cons (ay.of a4.symm) az.nil);replace bw:=bw.aJ aQ (ag.J (aq.r c2));have e_:=aQ.size;refine o.nil ?_;refine aP.sub (aB (bo,fun b=>b+1=bi) _ ?_) ⟨rfl,rfl,rfl,trivial⟩;exact⟨n,fun _=>bt,(fun b e=>by have Q:=B.le;omega),(fun b e=>by have Q:=(cj);unfold T at Q;omega),bw⟩
    ·
     refine G.skip ?_;refine aP.sub (aB (cs,fun b=>b+1=bi) _ ?_) ⟨rfl,rfl,rfl,trivial⟩;exact⟨n,fun _=>by rw[show hX (L++[(⟨m.J,m.w,m.y⟩:cA)])=(L++[(⟨m.J,m.w,m.y⟩:cA)])from by rw[←cS,show q=0 by omega];rfl];exact B.rd,(fun b e=>by have Q:=B.le;omega),(fun b e=>by have Q:=(cj);unfold T at Q;omega),bw⟩
   ·
    rintro⟨sz,a1⟩ bA cZ;obtain⟨n,P,b9,eL,bl⟩:=cZ;replace aA:=fun y E=>(aA y E).ab bl (az.J bJ);replace A:=A.ab bl (ah.J bM);replace t:=t.ab bl (ah.J aF.symm);replace x:=x.bl bl (ag.J (aq.q bN));have cE:=bl.size;refine G.L (fun da=>?_);refine o.aj ?_;refine da ?_
    refine G.cut (fun(k:(Nat))=>[(5,s1.v),(6,.pointer (some ⟨C.size,0,none⟩)),(8,.int .i64 (k:Int))])
     (fun(k:(Nat)) (H:Heap)=>(k≤J.length)∧(∀q (h:q<J.length),q<k→blt J[q].n m.n)∧(∀h:k<J.length,¬blt J[k].n m.n)∧ak bA H) (fun _ cl _=>?_) ?_
    ·
     have bx:ak bA bA:=V.refl _ _;refine G.aB (fun _ cn _=>?_)
     refine G.bd (fun(k:(Nat))=>[(3,.pointer (some ⟨I.size,0,none⟩)),(5,s1.v),(6,.pointer (some ⟨C.size,0,none⟩)),(8,.int .i64 (k:Int))])
      (fun(k:(Nat)) (H:Heap)=>(k≤J.length)∧(∀q (h:q<J.length),q<k→blt J[q].n m.n)∧ak bA H)
      (fun(k:(Nat))=>J.length-k) 0 ⟨rfl,rfl,rfl,rfl,trivial⟩ ?_ ?_
     ·
      exact⟨(by omega),(fun q h U=>absurd U (Nat.not_lt_zero _)),V.refl _ _⟩
     intro k fz dW fA db cp;obtain⟨cP,bq,bj⟩:=dW;replace A:=A.M bj;replace t:=t.M bj;replace bx:=bx.L bj;have fa:=bj.size;refine G.t2 (fun de cq=>G.t1 (fun ct=>?_));refine hf ?_;refine o.ax 2 ?_;refine o.v1 (ba t.rd fD) ?_;refine o.v1 bG ?_;refine o.W ?_;refine o.bj (d:=76) rfl (fun ew=>?_) (fun ew=>?_)
     ·
      refine o.ax 2 ?_;have fZ:k<J.length:=by omega
      refine o.an (mh t (k) fD fl) ?_;refine o.an (Y.fieldAddr (t.N (j:=k) (by first|omega|(simp;omega)|(simp;done))) rfl fW rfl rfl bO (by decide) rfl) ?_;refine o.an (Y.cast (v2:=aI J[k].n) (ar ((t.N (j:=k) (by first|omega|(simp;omega)|(simp;done))).drop 0) bL) (rfl)) ?_;refine o.an (Y.ai A.N rfl cy rfl bO) ?_;refine o.an (ar A.N bL) ?_;refine o.an (Y.yO rfl rfl rfl) ?_;refine o.N ?_;refine o.nil (ct ?_);refine cI (fun b1=>?_) (fun b1=>?_)
      ·
       refine G.skip (de (G.aB (fun df _ _=>G.region ?_)));refine o.W ?_;refine o.v1 bD ?_;refine o.aj ?_;refine df ?_;refine aP.sub (db (k+1) _ ?_ ?_) ⟨rfl,rfl,rfl,(aD (by omega)),trivial⟩
       ·exact⟨(by omega),(fun q h U=>by rcases Nat.lt_succ_iff_lt_or_eq.1 U with eK|rfl;exact bq q h eK;exact b1),bj⟩
       ·first|omega|(simp only;omega)|(simp;omega)
      ·
       refine G.exit (cq (cp (cn ?_)));refine aP.sub (cl k _ ?_) ⟨rfl,rfl,(aD (by omega)),trivial⟩;exact⟨(by omega),bq,(fun _=>by unfold blt;simpa using b1),bx⟩
     ·
      refine o.ax 9 ?_;refine o.nil (ct ?_);refine dB ?_;refine G.exit (cq (cp (cn ?_)));refine aP.sub (cl k _ ?_) ⟨rfl,rfl,(aD (by omega)),trivial⟩;exact⟨(by omega),bq,(fun h=>absurd h (by omega)),bx⟩
    ·
     intro k b2 cW;obtain⟨cP,bq,eU,aN⟩:=cW;replace aA:=fun y E=>(aA y E).M aN;replace n:=n.M aN;replace t:=t.M aN;replace P:=fun u=>(P u).M aN;replace x:=x.L aN;have fH:=aN.size;refine G.L (fun dN=>?_);refine o.aj ?_;refine dN (G.L (fun ey=>?_));refine o.ax 3 ?_;refine o.aK (g:=fun v=>v) (Y.slice t.rd (0) (k) rfl fD fl rfl (.inl ⟨rfl,rfl⟩) (.inr ⟨_,_,_,rfl,rfl,by first|rfl|omega⟩) (by omega) (by omega)) fun fB e0=>?_;have eV:aU 0 62 b2 ei 2 (.slice none 0 0) []:=aU.nil fI jw;refine o.aO (dO eV e0 jZ (by simp;omega) (by simp;omega)) fun fC bf ee=>?_;obtain⟨bP,on,aK,W⟩:=ee;replace aK:T 0 b2.size bP:=aK;replace W:=W.md;have br:=ay.app (ay.z) (bQ.mono x.size) aK;have ez:af M bP:=af.app (af.z) t.le aK;have cu:=ay.app (ay.z) (b9.mono (by omega)) aK;have cv:T 0 I.size bP:=T.L (T.refl 0 _) aK x.size;replace aA:=fun y E=>(aA y E).ab W (az.J ay.z);replace n:=n.ab W (ah.J af.z);replace t:=t.ab W (ah.J af.z);replace P:=fun u=>(P u).ab W (az.J ay.z);replace x:=x.bl W (ag.cons aq.z ag.nil);have dd:=W.size;have ca:=on.le;refine o.aj ?_;refine ey (G.L (fun eA=>?_));refine o.W ?_;refine o.v1 (aW n.N lP fl (fI _)) ?_;refine o.aO (cU _ ([(⟨m.n,sz,hX (L++[(⟨m.J,m.w,m.y⟩:cA)])⟩:e5)]) jZ fI jw (rfl)) fun fF cN eH=>?_;obtain⟨eY,aL,gO,eB⟩:=eH;have fo:cN.size=bf.size+1:=by rw[eB];simp
     replace aA:=fun y E=>(aA y E).M aL;replace t:=t.M aL;replace P:=fun u=>(P u).M aL;replace on:=on.M aL;replace x:=x.L aL;have fK:=aL.size;refine o.aO (dO on eY.rd jZ (by simp;omega) (by simp;omega)) fun fG eI eJ=>?_;obtain⟨ce,on,bk,ai⟩:=eJ;replace bk:T bP cN.size ce:=bk;replace ai:=ai.md;have eC:=ay.app (br) (bQ.mono x.size) bk;have dS:=ay.app (cu) (b9.mono (by omega)) bk;have a2:T 0 I.size ce:=T.L (cv) bk x.size;replace aA:=fun y E=>(aA y E).ab ai (az.J br);replace t:=t.ab ai (ah.J ez);replace P:=fun u=>(P u).ab ai (az.J cu);replace x:=x.bl ai (ag.J (aq.q cv));have fL:=ai.size;have ca:=on.le;refine o.aj ?_;refine eA (G.L (fun eD=>?_));refine o.ax 3 ?_;refine o.aK (g:=fun v=>v) (Y.slice t.rd (k) (J.length) rfl fD fl rfl (.inr ⟨_,_,_,rfl,rfl,by first|rfl|omega⟩) (.inl ⟨rfl,rfl⟩) (by omega) (by omega)) fun fM eZ=>?_;refine o.aO (dO on eZ jZ (by simp;omega) (by simp;omega)) fun bv dl dX=>?_;obtain⟨cw,on,bU,aV⟩:=dX;replace bU:T ce eI.size cw:=bU;replace aV:=aV.md;have dT:T 0 I.size cw:=T.L (a2) bU x.size;replace aA:=fun y E=>(aA y E).ab aV (az.J eC);replace P:=fun u=>(P u).ab aV (az.J dS);replace x:=x.bl aV (ag.J (aq.q a2));have cJ:=aV.size;have ca:=on.le;rw[List.nil_append,List.drop_zero,List.take_length]at on;obtain⟨cz,rfl⟩:∃s:aM,bv=s.v:=⟨cg bv,on.bm.symm⟩;refine o.aj ?_;refine eD ?_;refine G.ret (cT ?_);exact⟨cz,J.take k++[⟨m.n,sz,hX (L++[(⟨m.J,m.w,m.y⟩:cA)])⟩]++J.drop k,_,rfl,(fun _=>((on.rd.imp (fun b _ e=>Or.inr (by have Q:=(dT);unfold T at Q;omega))):Rd (fun b=>F b∨I.size≤b) _ ei 2 cz.v (J.take k++[⟨m.n,sz,hX (L++[(⟨m.J,m.w,m.y⟩:cA)])⟩]++J.drop k)).bt),(fun b e=>e.2),(fun y hy=>((by rcases List.mem_append.1 hy with hy|hy;rcases List.mem_append.1 hy with hy|hy;exact(aA y (by have bn:=List.mem_of_mem_take hy;rw[Z]at bn;exact(List.mem_filter.1 bn).1)).imp (fun b _ e=>Or.inl e);rw[List.mem_singleton.1 hy];exact(P ()).imp (fun b _ e=>Or.inr (eL b e));exact(aA y (by have bn:=List.mem_of_mem_drop hy;rw[Z]at bn;exact(List.mem_filter.1 bn).1)).imp (fun b _ e=>Or.inl e)):Rd (fun b=>F b∨I.size≤b) _ _ _ _ _).bt),(fun b e=>e.2),(fun b e=>e.1),fun eN=>by subst Z;subst bR;rw[List.append_assoc];exact Ef eN b0 cP bq eU sz,x⟩
end nd

namespace oe
open E Go.RowKit eJ eN eW e3 ey eX eY fF fG fO fY gg gx gy hQ dz
theorem zc:∀{l:List fA} {i:Nat} (j:i<l.length),gS (l.take i)=0→ho l[i]≠0→gS l=ho l[i]
 |t::l,0,_,_,h=>by
  have h:ho t≠0:=h
  rw[gS,if_pos h];rfl
 |t::l,i+1,j,k,h=>by
  have d:gS (t::l.take i)=0:=k;rw[gS]at d;by_cases U:ho t≠0
  ·rw[if_pos U]at d;exact absurd d U
  ·rw[if_neg U]at d
   rw[gS,if_neg U];exact zc (Nat.lt_of_succ_lt_succ j) d h
theorem An{x:cY}(h:(((((x.bX=bz∨x.bo=bz)∨x.dn<0)∨x.dn>(x.a6.length:Int))∨x.md<0)∨x.md>x.dn)∨(x.st=true∧x.dn=(x.a6.length:Int))):hS x=false:=
 decide_eq_false (fun⟨a,b,c,d,e,f,g⟩=>by
  rcases h with(((((h|h)|h)|h)|h)|h)|h
  ·exact a h
  ·exact b h
  ·omega
  ·omega
  ·omega
  ·omega
  ·exact g h)
theorem pO{x:cY}(h:¬((((((x.bX=bz∨x.bo=bz)∨x.dn<0)∨x.dn>(x.a6.length:Int))∨x.md<0)∨x.md>x.dn)∨(x.st=true∧x.dn=(x.a6.length:Int)))):¬hS x=false:=fun e=>by
 simp only[not_or]at h;obtain⟨⟨⟨⟨⟨⟨a,b⟩,c⟩,d⟩,i⟩,f⟩,g⟩:=h;have U:hS x=true:=decide_eq_true ⟨a,b,by omega,by omega,by omega,by omega,g⟩;rw[e]at U;cases U
set_option maxHeartbeats 1600000 in
theorem CU(x:cY)(w0:World)(I:Heap)
 (k:bw I c4 33 x.cM.v x.a6) (aw:x.br.length≤9223372036854775807):
 aC Tryz.prog w0 42 #[eo x] I (fun r aI=>r= .int .i64 (gH x)∧ak I aI):=by
 refine aC.aK [eo x] Tryz.func42 ?_;intro bx A;have n:ak I I:=V.refl _ _;replace k:=k.bt;have bX:=k.len;have bi:=x.bX.2;have bH:=x.bo.2;have aB:=bz.2;refine G.L (fun bm=>?_);refine o.aO cr ?_;rintro v1 H1 ⟨rfl,j,S,bJ,bn⟩;have bA:H1.size=I.size+1:=by rw[bn];simp
 replace k:=k.M S;replace n:=n.L S;have bM:=S.size;replace j:Var 29 H1 I.size (dT x):=j;refine o.aj ?_;refine bm (G.t2 (fun a0 b2=>G.L (fun a2=>?_)));refine o.v1 (Y.ai j.N rfl bu rfl b1) ?_;refine o.v1 (ar j.N cd) ?_;refine o.v1 c1 ?_;refine o.W ?_;refine o.join (d:=11) (v:= .bool (decide (¬(x.k=1∨x.k=2)))) 4 (fun ai=>?_) ?_
 ·
  refine o.bj (d:=7) rfl (fun g7=>?_) (fun g7=>?_)
  ·
   refine o.an (Y.ai j.N rfl bu rfl b1) ?_;refine o.an (ar j.N cd) ?_;refine o.an c1 ?_;refine o.N ?_;exact ai _ (congrArg (fun b=>some (Value.bool b)) (by simp[g7])) (ae (ae (ae (ae (bC (congrArg Value.bool (decide_eq_true g7).symm))))))
  ·
   refine o.ax 4 ?_;exact ai _ (congrArg (fun b=>some (Value.bool b)) (by simp[g7])) (ae (ae (ae (ae (bC (congrArg Value.bool (decide_eq_false g7).symm))))))
 refine o.nil (a2 ?_);refine aT (fun ac=>?_) (fun ac=>?_)
 ·
  refine G.L (fun a3=>?_);refine o.aj ?_;refine a3 ?_;refine G.ret (b2 (A ?_));exact⟨by rw[gH,if_pos ac],n⟩
 ·
  refine G.skip (a0 (G.t2 (fun a4 a5=>G.L (fun aJ=>?_))));refine o.v1 (Y.ai j.N rfl bu rfl bO) ?_;refine o.v1 (ar (j.N.drop 1) bL) ?_;refine aV pW (qS x.br w0 _ aw) (fun bN aK aL=>?_);obtain⟨rfl,Q⟩:=aL;replace k:=k.M Q;replace j:=j.M Q;replace n:=n.L Q;have bP:=Q.size;refine o.v1 c1 (o.nil (aJ ?_));refine aT (fun t=>?_) (fun t=>?_)
  ·
   refine G.L (fun a9=>?_);refine o.aj ?_;refine a9 ?_;refine G.ret (a5 (A ?_));exact⟨by rw[gH,if_neg ac,if_pos t],n⟩
  ·
   refine G.skip (a4 (G.t2 (fun bo bp=>G.L (fun bq=>?_))));refine o.v1 (Y.ai j.N rfl bu rfl a_) ?_;refine o.v1 (Y.cast (v2:=bs x.bX) (aW ((j.N.drop 2).take 32) b_ a_ (by rw[hA];exact bB _)) (b6 (hA _))) ?_;refine o.v1 (Y.build (v:=bs bz) rfl rfl (by intro w;kernel_rfl)) ?_;refine o.v1 (Y.cast (v2:= .bool (decide (x.bX=bz))) (Y.h_ rfl Tryz.eqGuardType26 (fun w=>fR 9998 Tryz.underlying26 Tryz.underlying5 cL dQ (by assumption) (by assumption) w) rfl rfl) ((congrArg Value.bool (decide_eq_decide.2 ⟨fun e=>Subtype.ext e,fun e=>congrArg Subtype.val e⟩)))) ?_;refine o.W ?_;refine o.join (d:=25) (v:= .bool (decide (x.bX=bz∨x.bo=bz))) 5 (fun X=>?_) ?_
   ·
    refine o.bj (d:=20) rfl (fun F=>?_) (fun F=>?_)
    ·
     refine o.ax 5 ?_;exact X _ (congrArg (fun b=>some (Value.bool b)) (by simp[F])) (ae (ae (ae (ae (ae (bC (congrArg Value.bool (decide_eq_true F).symm)))))))
    ·
     refine o.an (Y.ai j.N rfl bu rfl a_) ?_;refine o.an (Y.cast (v2:=bs x.bo) (aW ((j.N.drop 34).take 32) b_ a_ (by rw[hz];exact bB _)) (b6 (hz _))) ?_;refine o.an (Y.build (v:=bs bz) rfl rfl (by intro w;kernel_rfl)) ?_;refine o.an (Y.cast (v2:= .bool (decide (x.bo=bz))) (Y.h_ rfl Tryz.eqGuardType26 (fun w=>fR 9998 Tryz.underlying26 Tryz.underlying5 cL dQ (by assumption) (by assumption) w) rfl rfl) ((congrArg Value.bool (decide_eq_decide.2 ⟨fun e=>Subtype.ext e,fun e=>congrArg Subtype.val e⟩)))) ?_;refine o.dF ?_;exact X _ (congrArg (fun b=>some (Value.bool b)) (by simp[F])) (ae (ae (ae (ae (ae (bC (congrArg Value.bool (decide_eq_false F).symm)))))))
   refine o.W ?_;refine o.join (d:=30) (v:= .bool (decide ((x.bX=bz∨x.bo=bz)∨x.dn<0))) 4 (fun Z=>?_) ?_
   ·
    refine o.bj (d:=26) rfl (fun K=>?_) (fun K=>?_)
    ·
     refine o.ax 4 ?_;exact Z _ (congrArg (fun b=>some (Value.bool b)) (by simp[K])) (ae (ae (ae (ae (bC (congrArg Value.bool (decide_eq_true K).symm))))))
    ·
     refine o.an (Y.ai j.N rfl bu rfl b1) ?_;refine o.an (ar j.N.ir cd) ?_;refine o.an bG ?_;refine o.dF ?_;exact Z _ (congrArg (fun b=>some (Value.bool b)) (by simp[K])) (ae (ae (ae (ae (bC (congrArg Value.bool (decide_eq_false K).symm))))))
   refine o.W ?_;refine o.join (d:=38) (v:= .bool (decide (((x.bX=bz∨x.bo=bz)∨x.dn<0)∨x.dn>(x.a6.length:Int)))) 7 (fun aa=>?_) ?_
   ·
    refine o.bj (d:=31) rfl (fun L=>?_) (fun L=>?_)
    ·
     refine o.ax 7 ?_;exact aa _ (congrArg (fun b=>some (Value.bool b)) (by simp[L])) (ae (ae (ae (ae (ae (ae (ae (bC (congrArg Value.bool (decide_eq_true L).symm)))))))))
    ·
     refine o.an (Y.ai j.N rfl bu rfl b1) ?_;refine o.an (ar j.N.ir cd) ?_;refine o.an (Y.ai j.N rfl bu rfl en) ?_;refine o.an (ar j.N.fL ff) ?_;refine o.an (ba k fm) ?_;refine o.an eT ?_;refine o.dF ?_;exact aa _ (congrArg (fun b=>some (Value.bool b)) (by simp[L])) (ae (ae (ae (ae (ae (ae (ae (bC (congrArg Value.bool (decide_eq_false L).symm)))))))))
   refine o.W ?_;refine o.join (d:=43) (v:= .bool (decide ((((x.bX=bz∨x.bo=bz)∨x.dn<0)∨x.dn>(x.a6.length:Int))∨x.md<0))) 4 (fun ab=>?_) ?_
   ·
    refine o.bj (d:=39) rfl (fun au=>?_) (fun au=>?_)
    ·
     refine o.ax 4 ?_;exact ab _ (congrArg (fun b=>some (Value.bool b)) (by simp[au])) (ae (ae (ae (ae (bC (congrArg Value.bool (decide_eq_true au).symm))))))
    ·
     refine o.an (Y.ai j.N rfl bu rfl b1) ?_;refine o.an (ar j.N.jD cd) ?_;refine o.an bG ?_;refine o.dF ?_;exact ab _ (congrArg (fun b=>some (Value.bool b)) (by simp[au])) (ae (ae (ae (ae (bC (congrArg Value.bool (decide_eq_false au).symm))))))
   refine o.W ?_;refine o.join (d:=50) (v:= .bool (decide (((((x.bX=bz∨x.bo=bz)∨x.dn<0)∨x.dn>(x.a6.length:Int))∨x.md<0)∨x.md>x.dn))) 6 (fun af=>?_) ?_
   ·
    refine o.bj (d:=44) rfl (fun am=>?_) (fun am=>?_)
    ·
     refine o.ax 6 ?_;exact af _ (congrArg (fun b=>some (Value.bool b)) (by simp[am])) (ae (ae (ae (ae (ae (ae (bC (congrArg Value.bool (decide_eq_true am).symm))))))))
    ·
     refine o.an (Y.ai j.N rfl bu rfl b1) ?_;refine o.an (ar j.N.jD cd) ?_;refine o.an (Y.ai j.N rfl bu rfl b1) ?_;refine o.an (ar j.N.ir cd) ?_;refine o.an eT ?_;refine o.dF ?_;exact af _ (congrArg (fun b=>some (Value.bool b)) (by simp[am])) (ae (ae (ae (ae (ae (ae (bC (congrArg Value.bool (decide_eq_false am).symm))))))))
   refine o.W ?_;refine o.join (d:=62) (v:= .bool (decide ((((((x.bX=bz∨x.bo=bz)∨x.dn<0)∨x.dn>(x.a6.length:Int))∨x.md<0)∨x.md>x.dn)∨(x.st=true∧x.dn=(x.a6.length:Int))))) 11 (fun ag=>?_) ?_
   ·
    refine o.bj (d:=51) rfl (fun M=>?_) (fun M=>?_)
    ·
     refine o.ax 3 ?_;refine gv ?_;refine gv ?_;refine gv ?_;refine gv ?_;refine gv ?_;refine gv ?_;refine o.ax 2 ?_;exact ag _ (congrArg (fun b=>some (Value.bool b)) (by simp[M])) (ae (ae (ae (ae (ae (ae (ae (ae (ae (ae (ae (bC (congrArg Value.bool (decide_eq_true M).symm)))))))))))))
    ·
     refine o.an (Y.ai j.N rfl bu rfl cW) ?_;refine o.an (ar j.N.k3 dr) ?_;refine o.bU ?_;refine o.join (d:=61) (v:= .bool (decide (x.st=true∧x.dn=(x.a6.length:Int)))) 7 (fun ah=>?_) ?_
     ·
      refine o.split (d:=54) rfl (fun ap=>?_) (fun ap=>?_)
      ·
       refine o.an (Y.ai j.N rfl bu rfl b1) ?_;refine o.an (ar j.N.ir cd) ?_;refine o.an (Y.ai j.N rfl bu rfl en) ?_;refine o.an (ar j.N.fL ff) ?_;refine o.an (ba k fm) ?_;refine o.an b9 ?_;refine o.an eh ?_;exact ah _ (congrArg (fun b=>some (Value.bool b)) (by simp[ap])) (ae (ae (ae (ae (ae (ae (ae (bC (congrArg Value.bool ap.symm)))))))))
      ·
       refine o.ax 6 ?_;refine o.an dI ?_;exact ah _ (congrArg (fun b=>some (Value.bool b)) (by simp[ap])) (ae (ae (ae (ae (ae (ae (ae (bC (congrArg Value.bool ap.symm)))))))))
     refine o.dF ?_;exact ag _ (congrArg (fun b=>some (Value.bool b)) (by simp[M])) (ae (ae (ae (ae (ae (bC (congrArg Value.bool (decide_eq_false M).symm)))))))
   refine o.nil (bq ?_);refine aT (fun B=>?_) (fun B=>?_)
   ·
    refine G.L (fun aM=>?_);refine o.aj ?_;refine aM ?_;refine G.ret (bp (A ?_));exact⟨by rw[gH,if_neg ac,if_neg t,if_pos (An B)],n⟩
   ·
    refine G.skip (bo (G.t2 (fun aN aO=>G.L (fun aQ=>?_))));refine o.v1 (Y.ai j.N rfl bu rfl en) ?_;refine o.v1 (ar j.N.fL ff) ?_;refine o.v1 (ba k fm) ?_;refine o.v1 eT (o.nil (aQ ?_));refine aT (fun bt=>?_) (fun bt=>?_)
    ·
     refine G.L (fun aR=>?_);refine o.aj ?_;refine aR ?_;refine G.ret (aO (A ?_));exact⟨by rw[gH,if_neg ac,if_neg t,if_neg (pO B),if_pos (by omega)],n⟩
    ·
     refine G.skip (aN (G.t2 (fun aS an=>G.L (fun aX=>?_))));refine o.aj ?_;refine aX (G.aB (fun _ aY aq=>?_))
     refine G.bd (fun(i:(Nat))=>[(1,.pointer (some ⟨I.size,0,none⟩)),(3,.int .i64 (i:Int))])
      (fun(i:(Nat)) (H:Heap)=>(i≤x.a6.length)∧(gS (x.a6.take i)=0)∧ak aK H)
      (fun(i:(Nat))=>x.a6.length-i) 0 ⟨rfl,rfl,trivial⟩ ?_ ?_
     ·
      exact⟨(by omega),rfl,V.refl _ _⟩
     intro i bQ bT bR aZ T;obtain⟨bV,R,E⟩:=bT;replace k:=k.M E;replace j:=j.M E;replace n:=n.L E;have bS:=E.size;refine G.t2 (fun a1 a6=>G.L (fun a7=>?_));refine o.W ?_;refine o.v1 (Y.ai j.N rfl bu rfl en) ?_;refine o.v1 (ar j.N.fL ff) ?_;refine o.v1 (ba k fm) ?_;refine o.v1 bG (o.nil (a7 ?_));refine aT (fun be=>?_) (fun be=>?_)
     ·
      have aH:i<x.a6.length:=by omega
      obtain⟨y,O⟩:∃q,q=x.a6[i]:=⟨_,rfl⟩;have bU:=y.i.2;have W:=zc aH R;rw[←O]at W;refine G.skip (a1 (G.t2 (fun a8 ay=>G.aB (fun bb _ az=>G.t2 (fun bc bd=>G.L (fun bf=>?_))))));refine o.v1 (Y.ai j.N rfl bu rfl en) ?_;refine o.v1 (ar j.N.fL ff) ?_;refine o.W ?_;refine o.bR (Y.bJ k (i) rfl fm ha rfl rfl) fun bY aA=>?_;refine o.v1 (Y.ai aA.N rfl jE rfl b1) ?_;refine o.v1 (Y.cast (v2:= .int .i64 y.d) (ar (aA.N.drop 0) cd) (by rw[O])) ?_;refine o.v1 bG ?_;refine o.W ?_;refine o.join (d:=89) (v:= .bool (decide (¬(1≤y.d∧y.d≤3)))) 8 (fun aj=>?_) ?_
      ·
       refine o.bj (d:=81) rfl (fun N=>?_) (fun N=>?_)
       ·
        refine o.ax 8 ?_;exact aj _ (congrArg (fun b=>some (Value.bool b)) (by simp[N])) (ae (ae (ae (ae (ae (ae (ae (ae (bC (congrArg Value.bool (decide_eq_true N).symm))))))))))
       ·
        refine o.an (Y.ai j.N rfl bu rfl en) ?_;refine o.an (ar j.N.fL ff) ?_;refine o.bU ?_;refine o.e (g:=fun ad=> .pointer (some ad)) (Y.bJ k (i) rfl fm ha rfl rfl) bh rfl rfl (fun bE aE=>?_);refine o.an (Y.ai aE.N rfl jE rfl b1) ?_;refine o.an (Y.cast (v2:= .int .i64 y.d) (ar (aE.N.drop 0) cd) (by rw[O])) ?_;refine o.an eT ?_;refine o.dF ?_;exact aj _ (congrArg (fun b=>some (Value.bool b)) (by simp[N])) (ae (ae (ae (ae (ae (ae (ae (ae (bC (congrArg Value.bool (decide_eq_false N).symm))))))))))
      refine o.nil (bf ?_);refine aT (fun C=>?_) (fun C=>?_)
      ·
       refine G.L (fun bg=>?_);refine o.aj ?_;refine bg ?_;refine G.ret (bd (az (ay (T (aq (an (A ?_)))))));exact⟨by rw[gH,if_neg ac,if_neg t,if_neg (pO B),if_neg (by omega),W (by unfold ho;rw[if_pos C];decide)];unfold ho;rw[if_pos C],n⟩
      ·
       refine G.skip (bc (G.L (fun bj=>?_)));refine o.v1 (Y.ai j.N rfl bu rfl en) ?_;refine o.v1 (ar j.N.fL ff) ?_;refine o.W ?_;refine o.bR (Y.bJ k (i) rfl fm ha rfl rfl) fun bF aF=>?_;refine o.v1 (Y.ai aF.N rfl jE rfl a_) ?_;refine o.v1 (Y.cast (v2:=bs y.i) (aW ((aF.N.drop 1).take 32) b_ a_ (by rw[kP];exact bB _)) ((by rw[O];exact b6 (kP _)))) ?_;refine o.v1 (Y.build (v:=bs bz) rfl rfl (by intro w;kernel_rfl)) ?_;refine o.v1 (Y.cast (v2:= .bool (decide (y.i=bz))) (Y.h_ rfl Tryz.eqGuardType26 (fun w=>fR 9998 Tryz.underlying26 Tryz.underlying5 cL dQ (by assumption) (by assumption) w) rfl rfl) ((congrArg Value.bool (decide_eq_decide.2 ⟨fun e=>Subtype.ext e,fun e=>congrArg Subtype.val e⟩)))) (o.nil (bj ?_));refine aT (fun P=>?_) (fun P=>?_)
       ·
        refine G.L (fun bk=>?_);refine o.aj ?_;refine bk ?_;refine G.ret (az (ay (T (aq (an (A ?_))))));exact⟨by rw[gH,if_neg ac,if_neg t,if_neg (pO B),if_neg (by omega),W (by unfold ho;rw[if_neg C,if_pos P];decide)];unfold ho;rw[if_neg C,if_pos P],n⟩
       ·
        refine G.skip (bb (a8 (G.region ?_)));refine o.W ?_;refine o.v1 bD ?_;refine o.aj ?_;refine aP.sub (aZ (i+1) _ ?_ ?_) ⟨rfl,(aD (by omega)),trivial⟩
        ·exact⟨(by omega),(by rw[tK aH,if_neg (by rw[R];simp),←O];unfold ho;rw[if_neg C,if_neg P]),E⟩
        ·first|omega|(simp only;omega)|(simp;omega)
     ·
      refine G.exit (a6 (T (aY ?_)));refine aS (G.L (fun bl=>?_));refine o.aj ?_;refine bl ?_;refine G.ret (A ?_);exact⟨by rw[gH,if_neg ac,if_neg t,if_neg (pO B),if_neg (by omega)];rw[List.take_of_length_le (by omega)]at R;rw[R],n⟩
end oe

namespace nf
open E Go.RowKit eJ eN eW e3 ey eX eY fF fG fO fY gg gx gy hQ dz
theorem HC(a:fA)(w:World):(part 3 (c4 a).toArray 0).run Tryz.prog w= .ok (.int .i64 a.d) w:=by simp[part,cd,c4]
theorem y7(a:fA)(w:World):(part 26 (c4 a).toArray 1).run Tryz.prog w= .ok (bs a.i) w:=by
 have e:List.take 32 (c4 a).tail=b7 a.i:=by rw[show(c4 a).tail=b7 a.i from rfl,List.take_of_length_le (by rw[bB];exact Nat.le_refl _)]
 simp[part,b_,a_,e,bs]
theorem HD:(Tryz.prog.fieldsOf 129).toList.map (fun f=>(f.name,f.type,f.offset))=[("Do",3,0),("Id",26,1)]:=by kernel_rfl
theorem C9(d0:Nat){fs:List Field}(i:fs.map (fun f=>(f.name,f.type,f.offset))=[("Do",3,0),("Id",26,1)])(a b:fA)(w:World):(Op.eqFields (d0+2) (c4 a).toArray (c4 b).toArray fs).run Tryz.prog w= .ok (decide (a.d=b.d∧a.i=b.i)) w:=by
 have k:=run_equalIn_int (P:=Tryz.prog) w (d0+1) 3 .i64 .i64 a.d b.d Tryz.underlying3;have aK:=fR (P:=Tryz.prog) d0 Tryz.underlying26 Tryz.underlying5 cL dQ a.i.2 b.i.2 w
 cases fs with
 |nil=>simp at i
 |cons f0 fs=>
 cases fs with
 |nil=>simp at i
 |cons f1 fs=>
 cases fs with
 |cons _ _=>simp at i
 |nil=>
  simp only[List.map_cons,List.map_nil,List.cons.injEq,Prod.mk.injEq,and_true]at i;obtain⟨⟨cO,t0,o⟩,bI,t1,aY⟩:=i;have q:f0.name≠ "_" :=by rw[cO];decide
  have bQ:f1.name≠ "_" :=by rw[bI];decide
  unfold Op.eqFields;rw[if_pos q,t0,o];unfold Op.eqFields;rw[if_pos bQ,t1,aY];unfold Op.eqFields;simp only[Sem.run_bind,HC,y7,Result.andThen_ok,k];by_cases d:a.d=b.d
  ·have U:(a.d==b.d)=true:=by simpa using d
   rw[U];simp only[Bool.not_true,Bool.false_eq_true,if_false,Sem.run_bind,y7,Result.andThen_ok,rh,aK];by_cases j:a.i=b.i
   ·simp[d,j]
   ·have n:¬a.i.1=b.i.1:=fun e=>j (Subtype.ext e)
    simp[d,j,n]
  ·have U:(a.d==b.d)=false:=by simpa using d
   rw[U];simp[d]
theorem HG:Tryz.prog.underlying 129=some (.struct (Tryz.prog.fieldsOf 129)):=by kernel_rfl
theorem HF:Tryz.prog.stoodInHeld 129=false:=by kernel_rfl
theorem y8(a b:fA):(a.d=b.d∧a.i=b.i)↔a=b:=by cases a;cases b;simp
instance instTTd:DecidableEq fA:=fun a b=>decidable_of_iff _ (y8 a b)
theorem vZ(a b:fA)(w:World):(Op.equalIn 10000 129 (.agg (c4 a).toArray) (.agg (c4 b).toArray)).run Tryz.prog w= .ok (decide (a=b)) w:=by
 have h:=run_equalIn_struct w 9999 129 (c4 a).toArray (c4 b).toArray HG HF;have U:=C9 9997 HD a b w;rw[decide_eq_decide.2 (y8 a b)]at U;exact h.trans U
end nf

namespace pD
open E Go.RowKit eJ eN eW e3 ey eX eY fF fG fO fY gg gx gy hQ nf dz
theorem _root_.Go.Proofs.YtfjmpninmdjcaaaGreatDoor.E.Y.pR{P:Program}{w0:World}{n:Nat}{l:bZ}{H:Heap}{J:Oper}{x y:Operand}{t u:TypeId}{a b:Bool}(i:J.op= .binOp .neq t x y u)(j:P.underlying t=some .bool)(k:aF l x=some (.bool a))(hy:aF l y=some (.bool b)):Y P w0 n l H J (.bool (decide (a≠b))):=by
 intro ac w d o;have h:=run_equalIn_bool' w 9999 t a b j;have U:(a==b)=decide (a=b):=by cases a<;>cases b<;>rfl
 rw[U]at h;simp[execOp,i,d.eval k,d.eval hy,binOp,eqGuard,Op.equal,Op.maxDepth,h]
def ld(a b:cY):Prop:=a.k=b.k∧a.br=b.br∧a.bX=b.bX∧a.bo=b.bo∧a.dn=b.dn∧a.md=b.md∧a.st=b.st∧a.a6=b.a6
instance instSqS (a b:cY):Decidable (ld a b):=by unfold ld;infer_instance
theorem kt{α:Type}{a b:List α}{i:Nat}(h:a.take i=b.take i)(d:i<a.length)(aw:i<b.length)(he:a[i]=b[i]):a.take (i+1)=b.take (i+1):=by
 rw[List.take_succ_eq_append_getElem d,List.take_succ_eq_append_getElem aw,h,he]
theorem Hh{a b:cY}(h:((((((a.k≠b.k∨a.br≠b.br)∨a.bX≠b.bX)∨a.bo≠b.bo)∨a.dn≠b.dn)∨a.md≠b.md)∨a.st≠b.st)∨(a.a6.length:Int)≠b.a6.length):¬ld a b:=fun⟨d,U,i,j,k,n,o,q⟩=>by
 rcases h with((((((h|h)|h)|h)|h)|h)|h)|h
 ·exact h d
 ·exact h U
 ·exact h i
 ·exact h j
 ·exact h k
 ·exact h n
 ·exact h o
 ·exact h (by rw[q])
theorem Hi{a b:cY}(h:¬(((((((a.k≠b.k∨a.br≠b.br)∨a.bX≠b.bX)∨a.bo≠b.bo)∨a.dn≠b.dn)∨a.md≠b.md)∨a.st≠b.st)∨(a.a6.length:Int)≠b.a6.length))(q:a.a6=b.a6):ld a b:=by
 simp only[not_or,Decidable.not_not]at h;obtain⟨⟨⟨⟨⟨⟨⟨d,U⟩,i⟩,j⟩,k⟩,n⟩,o⟩,r⟩:=h;exact⟨d,U,i,j,k,n,o,q⟩
theorem yR{a b:cY}(h:¬(((((((a.k≠b.k∨a.br≠b.br)∨a.bX≠b.bX)∨a.bo≠b.bo)∨a.dn≠b.dn)∨a.md≠b.md)∨a.st≠b.st)∨(a.a6.length:Int)≠b.a6.length)):a.a6.length=b.a6.length:=by
 simp only[not_or,Decidable.not_not]at h;omega
set_option maxHeartbeats 1600000 in
theorem CT(a b:cY)(w0:World)(I:Heap)
 (k:bw I c4 33 a.cM.v a.a6) (aw:bw I c4 33 b.cM.v b.a6):
 aC Tryz.prog w0 45 #[eo a,eo b] I (fun r t=>r= .bool (decide (ld a b))∧ak I t):=by
 refine aC.aK [eo a,eo b] Tryz.func45 ?_;intro bc R;have n:ak I I:=V.refl _ _;replace k:=k.bt;replace aw:=aw.bt;have bo:=k.len;have bp:=aw.len;have an:=a.bX.2;have bq:=b.bX.2;have bt:=a.bo.2;have bx:=b.bo.2;refine G.L (fun ah=>?_);refine o.aO cr ?_;rintro v2 t ⟨rfl,j,au,bj,ai⟩;have bd:t.size=I.size+1:=by rw[ai];simp
 replace k:=k.M au;replace aw:=aw.M au;replace n:=n.L au;have bk:=au.size;replace j:Var 29 t I.size (dT a):=j;refine o.aO cr ?_;rintro v3 N ⟨rfl,aQ,A,bl,aj⟩;have bf:N.size=t.size+1:=by rw[aj];simp
 replace k:=k.M A;replace aw:=aw.M A;replace j:=j.M A;replace n:=n.L A;have bm:=A.size;replace aQ:Var 29 N t.size (dT b):=aQ;refine o.aj ?_;refine ah (G.t2 (fun aq ay=>G.L (fun az=>?_)));refine o.v1 (Y.ai j.N rfl bu rfl b1) ?_;refine o.v1 (ar j.N cd) ?_;refine o.v1 (Y.ai aQ.N rfl bu rfl b1) ?_;refine o.v1 (ar aQ.N cd) ?_;refine o.v1 c1 ?_;refine o.W ?_;refine o.join (d:=17) (v:= .bool (decide (a.k≠b.k∨a.br≠b.br))) 6 (fun S=>?_) ?_
 ·
  refine o.bj (d:=11) rfl (fun ac=>?_) (fun ac=>?_)
  ·
   refine o.ax 6 ?_;exact S _ (congrArg (fun b=>some (Value.bool b)) (by simp[ac])) (ae (ae (ae (ae (ae (ae (bC (congrArg Value.bool (decide_eq_true ac).symm))))))))
  ·
   refine o.an (Y.ai j.N rfl bu rfl bO) ?_;refine o.an (ar (j.N.drop 1) bL) ?_;refine o.an (Y.ai aQ.N rfl bu rfl bO) ?_;refine o.an (ar (aQ.N.drop 1) bL) ?_;refine o.an (Y.iS rfl rfl rfl) ?_;refine o.dF ?_;exact S _ (congrArg (fun b=>some (Value.bool b)) (by simp[ac])) (ae (ae (ae (ae (ae (ae (bC (congrArg Value.bool (decide_eq_false ac).symm))))))))
 refine o.W ?_;refine o.join (d:=24) (v:= .bool (decide ((a.k≠b.k∨a.br≠b.br)∨a.bX≠b.bX))) 6 (fun T=>?_) ?_
 ·
  refine o.bj (d:=18) rfl (fun B=>?_) (fun B=>?_)
  ·
   refine o.ax 6 ?_;exact T _ (congrArg (fun b=>some (Value.bool b)) (by simp[B])) (ae (ae (ae (ae (ae (ae (bC (congrArg Value.bool (decide_eq_true B).symm))))))))
  ·
   refine o.an (Y.ai j.N rfl bu rfl a_) ?_;refine o.an (Y.cast (v2:=bs a.bX) (aW ((j.N.drop 2).take 32) b_ a_ (by rw[hA];exact bB _)) (b6 (hA _))) ?_;refine o.an (Y.ai aQ.N rfl bu rfl a_) ?_;refine o.an (Y.cast (v2:=bs b.bX) (aW ((aQ.N.drop 2).take 32) b_ a_ (by rw[hA];exact bB _)) (b6 (hA _))) ?_;refine o.an (Y.cast (v2:= .bool (decide (a.bX≠b.bX))) (Y.jN rfl Tryz.eqGuardType26 (fun w=>fR 9998 Tryz.underlying26 Tryz.underlying5 cL dQ (by assumption) (by assumption) w) rfl rfl) ((congrArg Value.bool (decide_eq_decide.2 ⟨fun h e=>h (congrArg Subtype.val e),fun h e=>h (Subtype.ext e)⟩)))) ?_;refine o.dF ?_;exact T _ (congrArg (fun b=>some (Value.bool b)) (by simp[B])) (ae (ae (ae (ae (ae (ae (bC (congrArg Value.bool (decide_eq_false B).symm))))))))
 refine o.W ?_;refine o.join (d:=31) (v:= .bool (decide (((a.k≠b.k∨a.br≠b.br)∨a.bX≠b.bX)∨a.bo≠b.bo))) 6 (fun W=>?_) ?_
 ·
  refine o.bj (d:=25) rfl (fun C=>?_) (fun C=>?_)
  ·
   refine o.ax 6 ?_;exact W _ (congrArg (fun b=>some (Value.bool b)) (by simp[C])) (ae (ae (ae (ae (ae (ae (bC (congrArg Value.bool (decide_eq_true C).symm))))))))
  ·
   refine o.an (Y.ai j.N rfl bu rfl a_) ?_;refine o.an (Y.cast (v2:=bs a.bo) (aW ((j.N.drop 34).take 32) b_ a_ (by rw[hz];exact bB _)) (b6 (hz _))) ?_;refine o.an (Y.ai aQ.N rfl bu rfl a_) ?_;refine o.an (Y.cast (v2:=bs b.bo) (aW ((aQ.N.drop 34).take 32) b_ a_ (by rw[hz];exact bB _)) (b6 (hz _))) ?_;refine o.an (Y.cast (v2:= .bool (decide (a.bo≠b.bo))) (Y.jN rfl Tryz.eqGuardType26 (fun w=>fR 9998 Tryz.underlying26 Tryz.underlying5 cL dQ (by assumption) (by assumption) w) rfl rfl) ((congrArg Value.bool (decide_eq_decide.2 ⟨fun h e=>h (congrArg Subtype.val e),fun h e=>h (Subtype.ext e)⟩)))) ?_;refine o.dF ?_;exact W _ (congrArg (fun b=>some (Value.bool b)) (by simp[C])) (ae (ae (ae (ae (ae (ae (bC (congrArg Value.bool (decide_eq_false C).symm))))))))
 refine o.W ?_;refine o.join (d:=38) (v:= .bool (decide ((((a.k≠b.k∨a.br≠b.br)∨a.bX≠b.bX)∨a.bo≠b.bo)∨a.dn≠b.dn))) 6 (fun X=>?_) ?_
 ·
  refine o.bj (d:=32) rfl (fun E=>?_) (fun E=>?_)
  ·
   refine o.ax 6 ?_;exact X _ (congrArg (fun b=>some (Value.bool b)) (by simp[E])) (ae (ae (ae (ae (ae (ae (bC (congrArg Value.bool (decide_eq_true E).symm))))))))
  ·
   refine o.an (Y.ai j.N rfl bu rfl b1) ?_;refine o.an (ar j.N.ir cd) ?_;refine o.an (Y.ai aQ.N rfl bu rfl b1) ?_;refine o.an (ar aQ.N.ir cd) ?_;refine o.an c1 ?_;refine o.dF ?_;exact X _ (congrArg (fun b=>some (Value.bool b)) (by simp[E])) (ae (ae (ae (ae (ae (ae (bC (congrArg Value.bool (decide_eq_false E).symm))))))))
 refine o.W ?_;refine o.join (d:=45) (v:= .bool (decide (((((a.k≠b.k∨a.br≠b.br)∨a.bX≠b.bX)∨a.bo≠b.bo)∨a.dn≠b.dn)∨a.md≠b.md))) 6 (fun Z=>?_) ?_
 ·
  refine o.bj (d:=39) rfl (fun F=>?_) (fun F=>?_)
  ·
   refine o.ax 6 ?_;exact Z _ (congrArg (fun b=>some (Value.bool b)) (by simp[F])) (ae (ae (ae (ae (ae (ae (bC (congrArg Value.bool (decide_eq_true F).symm))))))))
  ·
   refine o.an (Y.ai j.N rfl bu rfl b1) ?_;refine o.an (ar j.N.jD cd) ?_;refine o.an (Y.ai aQ.N rfl bu rfl b1) ?_;refine o.an (ar aQ.N.jD cd) ?_;refine o.an c1 ?_;refine o.dF ?_;exact Z _ (congrArg (fun b=>some (Value.bool b)) (by simp[F])) (ae (ae (ae (ae (ae (ae (bC (congrArg Value.bool (decide_eq_false F).symm))))))))
 refine o.W ?_;refine o.join (d:=52) (v:= .bool (decide ((((((a.k≠b.k∨a.br≠b.br)∨a.bX≠b.bX)∨a.bo≠b.bo)∨a.dn≠b.dn)∨a.md≠b.md)∨a.st≠b.st))) 6 (fun aa=>?_) ?_
 ·
  refine o.bj (d:=46) rfl (fun K=>?_) (fun K=>?_)
  ·
   refine o.ax 6 ?_;exact aa _ (congrArg (fun b=>some (Value.bool b)) (by simp[K])) (ae (ae (ae (ae (ae (ae (bC (congrArg Value.bool (decide_eq_true K).symm))))))))
  ·
   refine o.an (Y.ai j.N rfl bu rfl cW) ?_;refine o.an (ar j.N.k3 dr) ?_;refine o.an (Y.ai aQ.N rfl bu rfl cW) ?_;refine o.an (ar aQ.N.k3 dr) ?_;refine o.an (Y.pR rfl Tryz.underlying4 rfl rfl) ?_;refine o.dF ?_;exact aa _ (congrArg (fun b=>some (Value.bool b)) (by simp[K])) (ae (ae (ae (ae (ae (ae (bC (congrArg Value.bool (decide_eq_false K).symm))))))))
 refine o.W ?_;refine o.join (d:=61) (v:= .bool (decide (((((((a.k≠b.k∨a.br≠b.br)∨a.bX≠b.bX)∨a.bo≠b.bo)∨a.dn≠b.dn)∨a.md≠b.md)∨a.st≠b.st)∨(a.a6.length:Int)≠b.a6.length))) 8 (fun ab=>?_) ?_
 ·
  refine o.bj (d:=53) rfl (fun L=>?_) (fun L=>?_)
  ·
   refine o.ax 8 ?_;exact ab _ (congrArg (fun b=>some (Value.bool b)) (by simp[L])) (ae (ae (ae (ae (ae (ae (ae (ae (bC (congrArg Value.bool (decide_eq_true L).symm))))))))))
  ·
   refine o.an (Y.ai j.N rfl bu rfl en) ?_;refine o.an (ar j.N.fL ff) ?_;refine o.an (ba k fm) ?_;refine o.an (Y.ai aQ.N rfl bu rfl en) ?_;refine o.an (ar aQ.N.fL ff) ?_;refine o.an (ba aw fm) ?_;refine o.an c1 ?_;refine o.dF ?_;exact ab _ (congrArg (fun b=>some (Value.bool b)) (by simp[L])) (ae (ae (ae (ae (ae (ae (ae (ae (bC (congrArg Value.bool (decide_eq_false L).symm))))))))))
 refine o.nil (az ?_);refine aT (fun M=>?_) (fun M=>?_)
 ·
  refine G.L (fun aA=>?_);refine o.aj ?_;refine aA ?_;refine G.ret (ay (R ?_));exact⟨by rw[decide_eq_false (Hh M)],n⟩
 ·
  refine G.skip (aq (G.t2 (fun aB aE=>G.L (fun aF=>?_))));refine o.aj ?_;refine aF (G.aB (fun _ aH aI=>?_))
  refine G.bd (fun(i:(Nat))=>[(2,.pointer (some ⟨I.size,0,none⟩)),(3,.pointer (some ⟨t.size,0,none⟩)),(5,.int .i64 (i:Int))])
   (fun(i:(Nat)) (H:Heap)=>(i≤a.a6.length)∧(a.a6.take i=b.a6.take i)∧ak N H)
   (fun(i:(Nat))=>a.a6.length-i) 0 ⟨rfl,rfl,rfl,trivial⟩ ?_ ?_
  ·
   exact⟨(by omega),rfl,V.refl _ _⟩
  intro i a0 aJ bb aK af;obtain⟨bn,ag,x⟩:=aJ;replace k:=k.M x;replace aw:=aw.M x;replace j:=j.M x;replace aQ:=aQ.M x;replace n:=n.L x;have b2:=x.size;refine G.t2 (fun aL aM=>G.L (fun am=>?_));refine o.W ?_;refine o.v1 (Y.ai j.N rfl bu rfl en) ?_;refine o.v1 (ar j.N.fL ff) ?_;refine o.v1 (ba k fm) ?_;refine o.v1 bG (o.nil (am ?_));refine aT (fun aN=>?_) (fun aN=>?_)
  ·
   have hlen:=yR M;have a7:i<a.a6.length:=by omega
   have a8:i<b.a6.length:=by omega
   obtain⟨y,P⟩:∃q,q=a.a6[i]:=⟨_,rfl⟩;obtain⟨z,Q⟩:∃q,q=b.a6[i]:=⟨_,rfl⟩;refine G.skip (aL (G.t2 (fun aO ap=>G.aB (fun aR _ aS=>G.t1 (fun aV=>?_)))));refine hf ?_;refine o.v1 (Y.ai j.N rfl bu rfl en) ?_;refine o.v1 (ar j.N.fL ff) ?_;refine o.W ?_;refine o.bR (Y.bJ k (i) rfl fm ha rfl rfl) fun bg aX=>?_;refine o.v1 (Y.cast (v2:= .agg (c4 y).toArray) (aW aX.N mA ha (hU _)) (by rw[P])) ?_;refine o.v1 (Y.ai aQ.N rfl bu rfl en) ?_;refine o.v1 (ar aQ.N.fL ff) ?_;refine o.W ?_;refine o.bR (Y.bJ aw (i) rfl fm ha rfl rfl) fun bh aY=>?_;refine o.v1 (Y.cast (v2:= .agg (c4 z).toArray) (aW aY.N mA ha (hU _)) (by rw[Q])) ?_;refine o.v1 (Y.jN rfl Tryz.eqGuardType129 (fun w=>vZ y z w) rfl rfl) (o.nil (aV ?_));refine aT (fun O=>?_) (fun O=>?_)
   ·
    refine G.L (fun aZ=>?_);refine o.aj ?_;refine aZ ?_;refine G.ret (aS (ap (af (aI (aE (R ?_))))));exact⟨by rw[decide_eq_false (fun h=>O (by rw[P,Q];have a6:=h.2.2.2.2.2.2.2;simp only[a6]))],n⟩
   ·
    refine G.skip (aR (aO (G.region ?_)));refine o.W ?_;refine o.v1 bD ?_;refine o.aj ?_;refine aP.sub (aK (i+1) _ ?_ ?_) ⟨rfl,rfl,(aD (by omega)),trivial⟩
    ·exact⟨(by omega),kt ag a7 a8 (by rw[←P,←Q];exact Decidable.not_not.1 O),x⟩
    ·first|omega|(simp only;omega)|(simp;omega)
  ·
   refine G.exit (aM (af (aH ?_)));refine aB (G.L (fun a1=>?_));refine o.aj ?_;refine a1 ?_;refine G.ret (R ?_);exact⟨by rw[decide_eq_true (Hi M (by have hlen:=yR M;rwa[List.take_of_length_le (by omega),List.take_of_length_le (by omega)]at ag))],n⟩
end pD

namespace pE
open E Go.RowKit eJ eN eW e3 ey eX eY fF fG fO fY gg gx gy hQ nf dz
theorem v7(d:Nat)(a b:List UInt8)(w:World):(Op.equalIn (d+1) 9 (aI a) (aI b)).run Tryz.prog w= .ok (decide (a=b)) w:=by
 have h:=run_equalIn_string (P:=Tryz.prog) w d 9 (ByteArray.mk a.toArray) (ByteArray.mk b.toArray) Tryz.underlying9;have U:(a==b)=decide (a=b):=by by_cases h:a=b<;>simp[h]
 exact h.trans (by simp[ByteArray.toList_eq,U])
theorem Gr(a:cw)(w:World):(part 9 (du a).toArray 0).run Tryz.prog w= .ok (aI a.n) w:=by simp[part,bL,du]
theorem yj(a:cw)(w:World):(part 26 (du a).toArray 1).run Tryz.prog w= .ok (bs a.i) w:=by
 have e:List.take 32 (du a).tail=b7 a.i:=by rw[show(du a).tail=b7 a.i from rfl,List.take_of_length_le (by rw[bB];exact Nat.le_refl _)]
 simp[part,b_,a_,e,bs]
theorem Gs:(Tryz.prog.fieldsOf 71).toList.map (fun f=>(f.name,f.type,f.offset))=[("Name",9,0),("Id",26,1)]:=by kernel_rfl
theorem Da(d0:Nat){fs:List Field}(i:fs.map (fun f=>(f.name,f.type,f.offset))=[("Name",9,0),("Id",26,1)])(a b:cw)(w:World):(Op.eqFields (d0+2) (du a).toArray (du b).toArray fs).run Tryz.prog w= .ok (decide (a.n=b.n∧a.i=b.i)) w:=by
 have k:=v7 (d0+1) a.n b.n w;have aK:=fR (P:=Tryz.prog) d0 Tryz.underlying26 Tryz.underlying5 cL dQ a.i.2 b.i.2 w
 cases fs with
 |nil=>simp at i
 |cons f0 fs=>
 cases fs with
 |nil=>simp at i
 |cons f1 fs=>
 cases fs with
 |cons _ _=>simp at i
 |nil=>
  simp only[List.map_cons,List.map_nil,List.cons.injEq,Prod.mk.injEq,and_true]at i;obtain⟨⟨cO,t0,o⟩,bI,t1,aY⟩:=i;have q:f0.name≠ "_" :=by rw[cO];decide
  have bQ:f1.name≠ "_" :=by rw[bI];decide
  unfold Op.eqFields;rw[if_pos q,t0,o];unfold Op.eqFields;rw[if_pos bQ,t1,aY];unfold Op.eqFields;simp only[Sem.run_bind,Gr,yj,Result.andThen_ok,k];by_cases d:a.n=b.n
  ·rw[decide_eq_true d]
   simp only[Bool.not_true,Bool.false_eq_true,if_false,Sem.run_bind,yj,Result.andThen_ok,rh,aK];by_cases j:a.i=b.i
   ·simp[d,j]
   ·have n:¬a.i.1=b.i.1:=fun e=>j (Subtype.ext e)
    simp[d,j,n]
  ·rw[decide_eq_false d]
   simp[d]
theorem Gu:Tryz.prog.underlying 71=some (.struct (Tryz.prog.fieldsOf 71)):=by kernel_rfl
theorem Gt:Tryz.prog.stoodInHeld 71=false:=by kernel_rfl
theorem yk(a b:cw):(a.n=b.n∧a.i=b.i)↔a=b:=by cases a;cases b;simp
instance instTRf:DecidableEq cw:=fun a b=>decidable_of_iff _ (yk a b)
theorem vY(a b:cw)(w:World):(Op.equalIn 10000 71 (.agg (du a).toArray) (.agg (du b).toArray)).run Tryz.prog w= .ok (decide (a=b)) w:=by
 have h:=run_equalIn_struct w 9999 71 (du a).toArray (du b).toArray Gu Gt;have U:=Da 9997 Gs a b w;rw[decide_eq_decide.2 (yk a b)]at U;exact h.trans U
end pE

namespace rv
open E Go.RowKit eJ eN eW e3 ey eX eY fF fG fO fY gg gx gy hQ nf pE dz
theorem Eo(a:cA)(w:World):(part 26 (dm a).toArray 0).run Tryz.prog w= .ok (bs a.J) w:=by
 have e:=Dc a;rw[List.drop_zero]at e;simp[part,b_,a_,e,bs]
theorem w9(a:cA)(w:World):(part 26 (dm a).toArray 32).run Tryz.prog w= .ok (bs a.w) w:=by
 have e:=Dd a;simp[part,b_,a_,e,bs]
theorem sw(a:cA)(w:World):(part 9 (dm a).toArray 64).run Tryz.prog w= .ok (aI a.y) w:=by
 have e:=wg a
 have d:(dm a)[64]?=some (aI a.y):=by
  have:=congrArg List.head? e;rw[List.head?_drop]at this;exact this
 simp[part,bL,d]
theorem Es:(Tryz.prog.fieldsOf 64).toList.map (fun f=>(f.name,f.type,f.offset))=[("Old",26,0),("New",26,32),("Why",9,64)]:=by kernel_rfl
theorem C_(d0:Nat){fs:List Field}(i:fs.map (fun f=>(f.name,f.type,f.offset))=[("Old",26,0),("New",26,32),("Why",9,64)])(a b:cA)(w:World):(Op.eqFields (d0+2) (dm a).toArray (dm b).toArray fs).run Tryz.prog w= .ok (decide (a.J=b.J∧a.w=b.w∧a.y=b.y)) w:=by
 have n:=fR (P:=Tryz.prog) d0 Tryz.underlying26 Tryz.underlying5 cL dQ a.J.2 b.J.2 w;have aK:=fR (P:=Tryz.prog) d0 Tryz.underlying26 Tryz.underlying5 cL dQ a.w.2 b.w.2 w;have o:=v7 (d0+1) a.y b.y w
 cases fs with
 |nil=>simp at i
 |cons f0 fs=>
 cases fs with
 |nil=>simp at i
 |cons f1 fs=>
 cases fs with
 |nil=>simp at i
 |cons f2 fs=>
 cases fs with
 |cons _ _=>simp at i
 |nil=>
  simp only[List.map_cons,List.map_nil,List.cons.injEq,Prod.mk.injEq,and_true]at i;obtain⟨⟨cO,t0,x⟩,⟨bI,t1,aY⟩,t,t2,A⟩:=i;have B:f0.name≠ "_" :=by rw[cO];decide
  have bQ:f1.name≠ "_" :=by rw[bI];decide
  have C:f2.name≠ "_" :=by rw[t];decide
  unfold Op.eqFields;rw[if_pos B,t0,x];unfold Op.eqFields;rw[if_pos bQ,t1,aY];unfold Op.eqFields;rw[if_pos C,t2,A];unfold Op.eqFields;simp only[Sem.run_bind,Eo,w9,sw,Result.andThen_ok,rh,n];by_cases d:a.J=b.J
  ·have q:a.J.1=b.J.1:=congrArg Subtype.val d
   rw[decide_eq_true q];simp only[Bool.not_true,Bool.false_eq_true,if_false,Sem.run_bind,w9,sw,Result.andThen_ok,rh,aK];by_cases j:a.w=b.w
   ·have r:a.w.1=b.w.1:=congrArg Subtype.val j
    rw[decide_eq_true r];simp only[Bool.not_true,Bool.false_eq_true,if_false,Sem.run_bind,sw,Result.andThen_ok,o];by_cases U:a.y=b.y
    ·simp[d,j,U]
    ·simp[d,j,U]
   ·have k:¬a.w.1=b.w.1:=fun e=>j (Subtype.ext e)
    rw[decide_eq_false k];simp[d,j]
  ·have k:¬a.J.1=b.J.1:=fun e=>d (Subtype.ext e)
   rw[decide_eq_false k];simp[d]
theorem Ev:Tryz.prog.underlying 64=some (.struct (Tryz.prog.fieldsOf 64)):=by kernel_rfl
theorem Eu:Tryz.prog.stoodInHeld 64=false:=by kernel_rfl
theorem w_(a b:cA):(a.J=b.J∧a.w=b.w∧a.y=b.y)↔a=b:=by cases a;cases b;simp
instance instTLn:DecidableEq cA:=fun a b=>decidable_of_iff _ (w_ a b)
theorem vX(a b:cA)(w:World):(Op.equalIn 10000 64 (.agg (dm a).toArray) (.agg (dm b).toArray)).run Tryz.prog w= .ok (decide (a=b)) w:=by
 have h:=run_equalIn_struct w 9999 64 (dm a).toArray (dm b).toArray Ev Eu;have U:=C_ 9997 Es a b w;rw[decide_eq_decide.2 (w_ a b)]at U;exact h.trans U
end rv

namespace ry
open E Go.RowKit eJ eN eW e3 ey eX eY fF fG fO fY gg gx gy hQ nf pD pE rv dz
def kg(a b:c2):Prop:=a.al=b.al∧ld a.q b.q∧a.bb=b.bb∧cm a.bW=cm b.bW∧cl a.el=cl b.el
noncomputable instance instStS (a b:c2):Decidable (kg a b):=Classical.propDecidable _
theorem Hn{a b:c2}(h:(((a.al≠b.al∨(a.bb.length:Int)≠b.bb.length)∨(a.bW.length:Int)≠b.bW.length)∨(a.el.length:Int)≠b.el.length)):¬kg a b:=fun⟨d,_,i,j,k⟩=>by
 have n:=congrArg List.length j;have o:=congrArg List.length k;simp only[cm,cl,List.length_map]at n o;rcases h with((h|h)|h)|h
 ·exact h d
 ·exact h (by rw[i])
 ·omega
 ·omega
theorem Ho{a b:c2}(h:¬(((a.al≠b.al∨(a.bb.length:Int)≠b.bb.length)∨(a.bW.length:Int)≠b.bW.length)∨(a.el.length:Int)≠b.el.length)):a.al=b.al∧a.bb.length=b.bb.length∧a.bW.length=b.bW.length∧a.el.length=b.el.length:=by
 simp only[not_or,Decidable.not_not]at h;exact⟨h.1.1.1,by omega,by omega,by omega⟩
theorem w7{a b:List e5}(h:cm a=cm b){i:Nat}(j:i<a.length)(k:i<b.length):a[i].n=b[i].n∧a[i].l=b[i].l:=by
 have d:(cm a)[i]?=(cm b)[i]?:=by rw[h]
 simp only[cm,List.getElem?_map,List.getElem?_eq_getElem j,List.getElem?_eq_getElem k,Option.map_some,Option.some.injEq,Prod.mk.injEq]at d;exact d
theorem CW{a b:List bA}(h:cl a=cl b){i:Nat}(j:i<a.length)(k:i<b.length):a[i].k=b[i].k∧a[i].d=b[i].d:=by
 have d:(cl a)[i]?=(cl b)[i]?:=by rw[h]
 simp only[cl,List.getElem?_map,List.getElem?_eq_getElem j,List.getElem?_eq_getElem k,Option.map_some,Option.some.injEq,Prod.mk.injEq]at d;exact⟨Subtype.ext d.1,d.2⟩
set_option maxHeartbeats 3200000 in
theorem CV(a b:c2)(w0:World)(I:Heap)
 (e9:bw I du 33 a.ej.v a.bb) (c9:bw I ei 2 a.cu.v a.bW) (E:∀y∈a.bW,bw I dm 65 y.v.v y.l) (ab:bw I c4 33 a.q.cM.v a.q.a6) (x:bw I bM 33 a.cB.v a.el) (M:∀y∈a.el,bw I a1 1 y.v.v y.d) (eb:bw I du 33 b.ej.v b.bb) (A:bw I ei 2 b.cu.v b.bW) (bK:∀y∈b.bW,bw I dm 65 y.v.v y.l) (af:bw I c4 33 b.q.cM.v b.q.a6) (C:bw I bM 33 b.cB.v b.el) (bf:∀y∈b.el,bw I a1 1 y.v.v y.d):
 aC Tryz.prog w0 22 #[ed a,ed b] I (fun r Q=>r= .bool (decide (kg a b))∧ak I Q):=by
 refine aC.aK [ed a,ed b] Tryz.func22 ?_;intro dK aa;have t:ak I I:=V.refl _ _;replace e9:=e9.bt;replace c9:=c9.bt;replace E:=fun y j=>(E y j).bt;replace ab:=ab.bt;replace x:=x.bt;replace M:=fun y j=>(M y j).bt;replace eb:=eb.bt;replace A:=A.bt;replace bK:=fun y j=>(bK y j).bt;replace af:=af.bt;replace C:=C.bt;replace bf:=fun y j=>(bf y j).bt;have eI:=e9.len;have eJ:=c9.len;have eL:=x.len;have eM:=eb.len;have eN:=A.len;have eO:=C.len;refine G.L (fun cQ=>?_);refine o.aO cr ?_;rintro v2 Q ⟨rfl,n,O,er,cS⟩;have dL:Q.size=I.size+1:=by rw[cS];simp
 replace e9:=e9.M O;replace c9:=c9.M O;replace E:=fun y j=>(E y j).M O;replace ab:=ab.M O;replace x:=x.M O;replace M:=fun y j=>(M y j).M O;replace eb:=eb.M O;replace A:=A.M O;replace bK:=fun y j=>(bK y j).M O;replace af:=af.M O;replace C:=C.M O;replace bf:=fun y j=>(bf y j).M O;replace t:=t.L O;have cs:=O.size;replace n:Var 47 Q I.size (bS a):=n;refine o.aO cr ?_;rintro v3 aZ ⟨rfl,aQ,L,et,ct⟩;have dM:aZ.size=Q.size+1:=by rw[ct];simp
 replace e9:=e9.M L;replace c9:=c9.M L;replace E:=fun y j=>(E y j).M L;replace ab:=ab.M L;replace x:=x.M L;replace M:=fun y j=>(M y j).M L;replace eb:=eb.M L;replace A:=A.M L;replace bK:=fun y j=>(bK y j).M L;replace af:=af.M L;replace C:=C.M L;replace bf:=fun y j=>(bf y j).M L;replace n:=n.M L;replace t:=t.L L;have bo:=L.size;replace aQ:Var 47 aZ Q.size (bS b):=aQ;refine o.aj ?_;refine cQ (G.t2 (fun cu bE=>G.L (fun bF=>?_)));refine o.v1 (Y.ai n.N rfl ca rfl bO) ?_;refine o.v1 (ar n.N bL) ?_;refine o.v1 (Y.ai aQ.N rfl ca rfl bO) ?_;refine o.v1 (ar aQ.N bL) ?_;refine o.v1 (Y.iS rfl rfl rfl) ?_;refine o.W ?_;refine o.join (d:=22) (v:= .bool (decide (a.al≠b.al∨(a.bb.length:Int)≠b.bb.length))) 8 (fun a6=>?_) ?_
 ·
  refine o.bj (d:=14) rfl (fun aq=>?_) (fun aq=>?_)
  ·
   refine o.ax 8 ?_;exact a6 _ (congrArg (fun b=>some (Value.bool b)) (by simp[aq])) (ae (ae (ae (ae (ae (ae (ae (ae (bC (congrArg Value.bool (decide_eq_true aq).symm))))))))))
  ·
   refine o.an (Y.ai n.N rfl ca rfl hb) ?_;refine o.an (ar (n.N.drop 1) iw) ?_;refine o.an (ba e9 gI) ?_;refine o.an (Y.ai aQ.N rfl ca rfl hb) ?_;refine o.an (ar (aQ.N.drop 1) iw) ?_;refine o.an (ba eb gI) ?_;refine o.an c1 ?_;refine o.dF ?_;exact a6 _ (congrArg (fun b=>some (Value.bool b)) (by simp[aq])) (ae (ae (ae (ae (ae (ae (ae (ae (bC (congrArg Value.bool (decide_eq_false aq).symm))))))))))
 refine o.W ?_;refine o.join (d:=31) (v:= .bool (decide ((a.al≠b.al∨(a.bb.length:Int)≠b.bb.length)∨(a.bW.length:Int)≠b.bW.length))) 8 (fun a8=>?_) ?_
 ·
  refine o.bj (d:=23) rfl (fun ay=>?_) (fun ay=>?_)
  ·
   refine o.ax 8 ?_;exact a8 _ (congrArg (fun b=>some (Value.bool b)) (by simp[ay])) (ae (ae (ae (ae (ae (ae (ae (ae (bC (congrArg Value.bool (decide_eq_true ay).symm))))))))))
  ·
   refine o.an (Y.ai n.N rfl ca rfl fS) ?_;refine o.an (ar (n.N.drop 2) ht) ?_;refine o.an (ba c9 fD) ?_;refine o.an (Y.ai aQ.N rfl ca rfl fS) ?_;refine o.an (ar (aQ.N.drop 2) ht) ?_;refine o.an (ba A fD) ?_;refine o.an c1 ?_;refine o.dF ?_;exact a8 _ (congrArg (fun b=>some (Value.bool b)) (by simp[ay])) (ae (ae (ae (ae (ae (ae (ae (ae (bC (congrArg Value.bool (decide_eq_false ay).symm))))))))))
 refine o.W ?_;refine o.join (d:=40) (v:= .bool (decide (((a.al≠b.al∨(a.bb.length:Int)≠b.bb.length)∨(a.bW.length:Int)≠b.bW.length)∨(a.el.length:Int)≠b.el.length))) 8 (fun bb=>?_) ?_
 ·
  refine o.bj (d:=32) rfl (fun az=>?_) (fun az=>?_)
  ·
   refine o.ax 8 ?_;exact bb _ (congrArg (fun b=>some (Value.bool b)) (by simp[az])) (ae (ae (ae (ae (ae (ae (ae (ae (bC (congrArg Value.bool (decide_eq_true az).symm))))))))))
  ·
   refine o.an (Y.ai n.N rfl ca rfl dp) ?_;refine o.an (ar n.N.iB dS) ?_;refine o.an (ba x cq) ?_;refine o.an (Y.ai aQ.N rfl ca rfl dp) ?_;refine o.an (ar aQ.N.iB dS) ?_;refine o.an (ba C cq) ?_;refine o.an c1 ?_;refine o.dF ?_;exact bb _ (congrArg (fun b=>some (Value.bool b)) (by simp[az])) (ae (ae (ae (ae (ae (ae (ae (ae (bC (congrArg Value.bool (decide_eq_false az).symm))))))))))
 refine o.W ?_;refine o.bj (d:=41) rfl (fun aK=>?_) (fun aK=>?_)
 ·
  refine o.ax 7 ?_;refine o.nil (bF ?_);refine G.ix rfl ?_;refine G.L (fun cv=>?_);refine o.aj ?_;refine cv ?_;refine G.ret (bE (aa ?_));exact⟨by rw[decide_eq_false (Hn aK)],t⟩
 ·
  obtain⟨s1,s2,eR,eT⟩:=Ho aK;refine o.an (Y.ai n.N rfl ca rfl cT) ?_;refine o.an (Y.cast (v2:=eo a.q) (aW ((n.N.drop 3).take 70) h8 cT (by rw[jU];exact ef _)) (b6 (jU a))) ?_;refine o.an (Y.ai aQ.N rfl ca rfl cT) ?_;refine o.an (Y.cast (v2:=eo b.q) (aW ((aQ.N.drop 3).take 70) h8 cT (by rw[jU];exact ef _)) (b6 (jU b))) ?_;refine o.call rfl BR rfl bh rfl rfl (CT a.q b.q w0 _ ab.any af.any) (fun dA cw cy=>?_);obtain⟨rfl,ac⟩:=cy;replace e9:=e9.M ac;replace c9:=c9.M ac;replace E:=fun y j=>(E y j).M ac;replace x:=x.M ac;replace M:=fun y j=>(M y j).M ac;replace eb:=eb.M ac;replace A:=A.M ac;replace bK:=fun y j=>(bK y j).M ac;replace C:=C.M ac;replace bf:=fun y j=>(bf y j).M ac;replace n:=n.M ac;replace aQ:=aQ.M ac;replace t:=t.L ac;have eu:=ac.size;refine o.an (Y.h2 rfl rfl) ?_;refine o.dF ?_;refine o.nil (bF ?_);refine aT (fun aL=>?_) (fun aL=>?_)
  ·
   refine G.L (fun cz=>?_);refine o.aj ?_;refine cz ?_;refine G.ret (bE (aa ?_));exact⟨by rw[decide_eq_false (fun h=>aL h.2.1)],t⟩
  ·
   refine G.skip (cu (G.t2 (fun cB cC=>G.L (fun cU=>?_))));refine o.aj ?_;refine cU (G.aB (fun _ dq dr=>?_))
   refine G.bd (fun(i:(Nat))=>[(2,.pointer (some ⟨I.size,0,none⟩)),(3,.pointer (some ⟨Q.size,0,none⟩)),(5,.int .i64 (i:Int))])
    (fun(i:(Nat)) (H:Heap)=>(i≤a.bb.length)∧(a.bb.take i=b.bb.take i)∧ak cw H)
    (fun(i:(Nat))=>a.bb.length-i) 0 ⟨rfl,rfl,rfl,trivial⟩ ?_ ?_
   ·
    exact⟨(by omega),rfl,V.refl _ _⟩
   intro i dt dv dJ ce bH;obtain⟨ez,bU,F⟩:=dv;replace e9:=e9.M F;replace c9:=c9.M F;replace E:=fun y j=>(E y j).M F;replace x:=x.M F;replace M:=fun y j=>(M y j).M F;replace eb:=eb.M F;replace A:=A.M F;replace bK:=fun y j=>(bK y j).M F;replace C:=C.M F;replace bf:=fun y j=>(bf y j).M F;replace n:=n.M F;replace aQ:=aQ.M F;replace t:=t.L F;have ev:=F.size;refine G.t2 (fun b7 b8=>G.L (fun b9=>?_));refine o.W ?_;refine o.v1 (Y.ai n.N rfl ca rfl hb) ?_;refine o.v1 (ar (n.N.drop 1) iw) ?_;refine o.v1 (ba e9 gI) ?_;refine o.v1 bG (o.nil (b9 ?_));refine aT (fun dw=>?_) (fun dw=>?_)
   ·
    have bN:i<a.bb.length:=by omega
    have bQ:i<b.bb.length:=by omega
    obtain⟨y,aF⟩:∃q,q=a.bb[i]:=⟨_,rfl⟩;obtain⟨z,aH⟩:∃q,q=b.bb[i]:=⟨_,rfl⟩;have eG:y∈a.bb:=by rw[aF];exact List.getElem_mem bN
    have eH:z∈b.bb:=by rw[aH];exact List.getElem_mem bQ
    refine G.skip (b7 (G.t2 (fun cb cc=>G.aB (fun cd _ cg=>G.t1 (fun ch=>?_)))));refine hf ?_;refine o.v1 (Y.ai n.N rfl ca rfl hb) ?_;refine o.v1 (ar (n.N.drop 1) iw) ?_;refine o.W ?_;refine o.bR (Y.bJ e9 (i) rfl gI hL rfl rfl) fun eh cj=>?_;refine o.v1 (Y.cast (v2:= .agg (du y).toArray) (aW cj.N nm hL (hT _)) (by rw[aF])) ?_;refine o.v1 (Y.ai aQ.N rfl ca rfl hb) ?_;refine o.v1 (ar (aQ.N.drop 1) iw) ?_;refine o.W ?_;refine o.bR (Y.bJ eb (i) rfl gI hL rfl rfl) fun dX cn=>?_;refine o.v1 (Y.cast (v2:= .agg (du z).toArray) (aW cn.N nm hL (hT _)) (by rw[aH])) ?_;refine o.v1 (Y.jN rfl Tryz.eqGuardType71 (fun w=>vY y z w) rfl rfl) (o.nil (ch ?_));refine aT (fun aM=>?_) (fun aM=>?_)
    ·
     refine G.L (fun a0=>?_);refine o.aj ?_;refine a0 ?_;refine G.ret (cg (cc (bH (dr (cC (aa ?_))))));exact⟨by rw[decide_eq_false (fun h=>aM (by rw[aF,aH];have P:=h.2.2.1;simp only[P]))],t⟩
    ·
     refine G.skip (cd (cb (G.region ?_)));refine o.W ?_;refine o.v1 bD ?_;refine o.aj ?_;refine aP.sub (ce (i+1) _ ?_ ?_) ⟨rfl,rfl,(aD (by omega)),trivial⟩
     ·exact⟨(by omega),kt bU bN bQ (by rw[←aF,←aH];exact Decidable.not_not.1 aM),F⟩
     ·first|omega|(simp only;omega)|(simp;omega)
   ·
    have dG:a.bb=b.bb:=by rwa[List.take_of_length_le (by omega),List.take_of_length_le (by omega)]at bU
    refine G.exit (b8 (bH (dq ?_)));refine cB (G.t2 (fun b2 bd=>G.L (fun a2=>?_)));refine o.aj ?_;refine a2 (G.aB (fun _ a3 bg=>?_))
    refine G.bd (fun(i2:(Nat))=>[(2,.pointer (some ⟨I.size,0,none⟩)),(3,.pointer (some ⟨Q.size,0,none⟩)),(6,.int .i64 (i2:Int))])
     (fun(i2:(Nat)) (H:Heap)=>(i2≤a.bW.length)∧((cm a.bW).take i2=(cm b.bW).take i2)∧ak dt H)
     (fun(i2:(Nat))=>a.bW.length-i2) 0 ⟨rfl,rfl,rfl,trivial⟩ ?_ ?_
    ·
     exact⟨(by omega),rfl,V.refl _ _⟩
    intro i2 bJ ci ew a4 aN;obtain⟨eB,bV,K⟩:=ci;replace c9:=c9.M K;replace E:=fun y j=>(E y j).M K;replace x:=x.M K;replace M:=fun y j=>(M y j).M K;replace A:=A.M K;replace bK:=fun y j=>(bK y j).M K;replace C:=C.M K;replace bf:=fun y j=>(bf y j).M K;replace n:=n.M K;replace aQ:=aQ.M K;replace t:=t.L K;have ey:=K.size;refine G.t2 (fun a5 b0=>G.L (fun b1=>?_));refine o.W ?_;refine o.v1 (Y.ai n.N rfl ca rfl fS) ?_;refine o.v1 (ar (n.N.drop 2) ht) ?_;refine o.v1 (ba c9 fD) ?_;refine o.v1 bG (o.nil (b1 ?_));refine aT (fun dx=>?_) (fun dx=>?_)
    ·
     have aV:i2<a.bW.length:=by omega
     have aX:i2<b.bW.length:=by omega
     obtain⟨B,T⟩:∃q,q=a.bW[i2]:=⟨_,rfl⟩;obtain⟨N,Z⟩:∃q,q=b.bW[i2]:=⟨_,rfl⟩;have aJ:B∈a.bW:=by rw[T];exact List.getElem_mem aV
     have aY:N∈b.bW:=by rw[Z];exact List.getElem_mem aX
     have an:=(E B aJ).len;have eU:=(bK N aY).len;refine G.skip (a5 (G.t2 (fun b3 bj=>G.aB (fun a9 _ bk=>G.t2 (fun cp cV=>G.t1 (fun cW=>?_))))));refine hf ?_;refine o.v1 (Y.ai n.N rfl ca rfl fS) ?_;refine o.v1 (ar (n.N.drop 2) ht) ?_;refine o.W ?_;refine o.bR (Y.bJ c9 (i2) rfl fD fl rfl rfl) fun ej bl=>?_;refine o.v1 (Y.ai bl.N rfl fW rfl bO) ?_;refine o.v1 (Y.cast (v2:=aI B.n) (ar (bl.N.drop 0) bL) (by rw[T])) ?_;refine o.v1 (Y.ai aQ.N rfl ca rfl fS) ?_;refine o.v1 (ar (aQ.N.drop 2) ht) ?_;refine o.W ?_;refine o.bR (Y.bJ A (i2) rfl fD fl rfl rfl) fun ek bm=>?_;refine o.v1 (Y.ai bm.N rfl fW rfl bO) ?_;refine o.v1 (Y.cast (v2:=aI N.n) (ar (bm.N.drop 0) bL) (by rw[Z])) ?_;refine o.v1 (Y.iS rfl rfl rfl) ?_;refine o.W ?_;refine o.join (d:=103) (v:= .bool (decide (B.n≠N.n∨(B.l.length:Int)≠N.l.length))) 16 (fun bc=>?_) ?_
     ·
      refine o.bj (d:=87) rfl (fun ag=>?_) (fun ag=>?_)
      ·
       refine o.ax 16 ?_;exact bc _ (congrArg (fun b=>some (Value.bool b)) (by simp[ag])) (ae (ae (ae (ae (ae (ae (ae (ae (ae (ae (ae (ae (ae (ae (ae (ae (bC (congrArg Value.bool (decide_eq_true ag).symm))))))))))))))))))
      ·
       refine o.an (Y.ai n.N rfl ca rfl fS) ?_;refine o.an (ar (n.N.drop 2) ht) ?_;refine o.bU ?_;refine o.e (g:=fun ad=> .pointer (some ad)) (Y.bJ c9 (i2) rfl fD fl rfl rfl) bh rfl rfl (fun en bn=>?_);refine o.an (Y.ai bn.N rfl fW rfl gR) ?_;refine o.an (Y.cast (v2:=B.v.v) (ar (bn.N.drop 1) h9) (by rw[T])) ?_;refine o.an (ba (E B aJ) hM) ?_;refine o.an (Y.ai aQ.N rfl ca rfl fS) ?_;refine o.an (ar (aQ.N.drop 2) ht) ?_;refine o.bU ?_;refine o.e (g:=fun ad=> .pointer (some ad)) (Y.bJ A (i2) rfl fD fl rfl rfl) bh rfl rfl (fun ep bp=>?_);refine o.an (Y.ai bp.N rfl fW rfl gR) ?_;refine o.an (Y.cast (v2:=N.v.v) (ar (bp.N.drop 1) h9) (by rw[Z])) ?_;refine o.an (ba (bK N aY) hM) ?_;refine o.an c1 ?_;refine o.dF ?_;exact bc _ (congrArg (fun b=>some (Value.bool b)) (by simp[ag])) (ae (ae (ae (ae (ae (ae (ae (ae (ae (ae (ae (ae (ae (ae (ae (ae (bC (congrArg Value.bool (decide_eq_false ag).symm))))))))))))))))))
     refine o.nil (cW ?_);refine aT (fun ah=>?_) (fun ah=>?_)
     ·
      refine G.L (fun cY=>?_);refine o.aj ?_;refine cY ?_;refine G.ret (cV (bk (bj (aN (bg (bd (aa ?_)))))));exact⟨by rw[decide_eq_false (fun h=>by have P:=w7 h.2.2.2.1 aV aX;rw[←T,←Z]at P;rcases ah with q|q;exact q P.1;exact q (by rw[P.2]))],t⟩
     ·
      have dF:B.n=N.n:=by simp only[not_or,Decidable.not_not]at ah;exact ah.1
      have eF:B.l.length=N.l.length:=by simp only[not_or,Decidable.not_not]at ah;omega
      refine G.skip (cp (G.L (fun bT=>?_)));refine o.aj ?_;refine bT (G.aB (fun _ be bY=>?_))
      refine G.bd (fun(k:(Nat))=>[(2,.pointer (some ⟨I.size,0,none⟩)),(3,.pointer (some ⟨Q.size,0,none⟩)),(6,.int .i64 (i2:Int)),(7,.int .i64 (k:Int))])
       (fun(k:(Nat)) (H:Heap)=>(k≤B.l.length)∧(B.l.take k=N.l.take k)∧ak bJ H)
       (fun(k:(Nat))=>B.l.length-k) 0 ⟨rfl,rfl,rfl,rfl,trivial⟩ ?_ ?_
      ·
       exact⟨(by omega),rfl,V.refl _ _⟩
      intro k dZ co d_ cZ bq;obtain⟨eD,bX,R⟩:=co;replace c9:=c9.M R;replace E:=fun y j=>(E y j).M R;replace A:=A.M R;replace bK:=fun y j=>(bK y j).M R;replace n:=n.M R;replace aQ:=aQ.M R;replace t:=t.L R;replace K:=K.L R;have ea:=R.size;refine G.t2 (fun c0 bi=>G.L (fun c3=>?_));refine o.W ?_;refine o.v1 (Y.ai n.N rfl ca rfl fS) ?_;refine o.v1 (ar (n.N.drop 2) ht) ?_;refine o.W ?_;refine o.bR (Y.bJ c9 (i2) rfl fD fl rfl rfl) fun dN au=>?_;refine o.v1 (Y.ai au.N rfl fW rfl gR) ?_;refine o.v1 (Y.cast (v2:=B.v.v) (ar (au.N.drop 1) h9) (by rw[T])) ?_;refine o.v1 (ba (E B aJ) hM) ?_;refine o.v1 bG (o.nil (c3 ?_));refine aT (fun aB=>?_) (fun aB=>?_)
      ·
       have c5:k<B.l.length:=by omega
       have c6:k<N.l.length:=by omega
       obtain⟨u,aR⟩:∃q,q=B.l[k]:=⟨_,rfl⟩;obtain⟨v,aS⟩:∃q,q=N.l[k]:=⟨_,rfl⟩;refine G.skip (c0 (G.t2 (fun c_ db=>G.aB (fun dc _ de=>G.t1 (fun br=>?_)))));refine hf ?_;refine o.v1 (Y.ai n.N rfl ca rfl fS) ?_;refine o.v1 (ar (n.N.drop 2) ht) ?_;refine o.W ?_;refine o.bR (Y.bJ c9 (i2) rfl fD fl rfl rfl) fun dO am=>?_;refine o.v1 (Y.ai am.N rfl fW rfl gR) ?_;refine o.v1 (Y.cast (v2:=B.v.v) (ar (am.N.drop 1) h9) (by rw[T])) ?_;refine o.W ?_;refine o.bR (Y.bJ (E B aJ) (k) rfl hM j9 rfl rfl) fun dP b4=>?_;refine o.v1 (Y.cast (v2:= .agg (dm u).toArray) (aW b4.N pJ j9 (kN _)) (by rw[aR])) ?_;refine o.v1 (Y.ai aQ.N rfl ca rfl fS) ?_;refine o.v1 (ar (aQ.N.drop 2) ht) ?_;refine o.W ?_;refine o.bR (Y.bJ A (i2) rfl fD fl rfl rfl) fun dR bu=>?_;refine o.v1 (Y.ai bu.N rfl fW rfl gR) ?_;refine o.v1 (Y.cast (v2:=N.v.v) (ar (bu.N.drop 1) h9) (by rw[Z])) ?_;refine o.W ?_;refine o.bR (Y.bJ (bK N aY) (k) rfl hM j9 rfl rfl) fun dT b5=>?_;refine o.v1 (Y.cast (v2:= .agg (dm v).toArray) (aW b5.N pJ j9 (kN _)) (by rw[aS])) ?_;refine o.v1 (Y.jN rfl Tryz.eqGuardType64 (fun w=>vX u v w) rfl rfl) (o.nil (br ?_));refine aT (fun aO=>?_) (fun aO=>?_)
       ·
        refine G.L (fun df=>?_);refine o.aj ?_;refine df ?_;refine G.ret (de (db (bq (bY (bk (bj (aN (bg (bd (aa ?_))))))))));exact⟨by rw[decide_eq_false (fun h=>by have P:=w7 h.2.2.2.1 aV aX;rw[←T,←Z]at P;exact aO (by rw[aR,aS];simp only[P.2]))],t⟩
       ·
        refine G.skip (dc (c_ (G.region ?_)));refine o.W ?_;refine o.v1 bD ?_;refine o.aj ?_;refine aP.sub (cZ (k+1) _ ?_ ?_) ⟨rfl,rfl,(aD (by omega)),(aD (by omega)),trivial⟩
        ·exact⟨(by omega),kt bX c5 c6 (by rw[←aR,←aS];exact Decidable.not_not.1 aO),R⟩
        ·first|omega|(simp only;omega)|(simp;omega)
      ·
       have dC:B.l=N.l:=by rwa[List.take_of_length_le (by omega),List.take_of_length_le (by omega)]at bX
       refine G.exit (bi (bq (be ?_)));refine a9 (b3 (G.region ?_));refine o.W ?_;refine o.v1 bD ?_;refine o.aj ?_;refine aP.sub (a4 (i2+1) _ ?_ ?_) ⟨rfl,rfl,(aD (by omega)),trivial⟩
       ·exact⟨(by omega),kt bV (by simp only[cm,List.length_map];omega) (by simp only[cm,List.length_map];omega) (by simp only[cm,List.getElem_map,←T,←Z,dF,dC]),K⟩
       ·first|omega|(simp only;omega)|(simp;omega)
    ·
     have dy:cm a.bW=cm b.bW:=by have dH:(cm a.bW).length=a.bW.length:=List.length_map _;have dI:(cm b.bW).length=b.bW.length:=List.length_map _;rwa[List.take_of_length_le (by omega),List.take_of_length_le (by omega)]at bV
     refine G.exit (b0 (aN (a3 ?_)));refine b2 (G.t2 (fun dg dh=>G.L (fun bv=>?_)));refine o.aj ?_;refine bv (G.aB (fun _ di dj=>?_))
     refine G.bd (fun(i4:(Nat))=>[(2,.pointer (some ⟨I.size,0,none⟩)),(3,.pointer (some ⟨Q.size,0,none⟩)),(8,.int .i64 (i4:Int))])
      (fun(i4:(Nat)) (H:Heap)=>(i4≤a.el.length)∧((cl a.el).take i4=(cl b.el).take i4)∧ak bJ H)
      (fun(i4:(Nat))=>a.el.length-i4) 0 ⟨rfl,rfl,rfl,trivial⟩ ?_ ?_
     ·
      exact⟨(by omega),rfl,V.refl _ _⟩
     intro i4 ec dz ee dk bt;obtain⟨eC,bZ,S⟩:=dz;replace x:=x.M S;replace M:=fun y j=>(M y j).M S;replace C:=C.M S;replace bf:=fun y j=>(bf y j).M S;replace n:=n.M S;replace aQ:=aQ.M S;replace t:=t.L S;have eg:=S.size;refine G.t2 (fun cD cE=>G.L (fun cG=>?_));refine o.W ?_;refine o.v1 (Y.ai n.N rfl ca rfl dp) ?_;refine o.v1 (ar n.N.iB dS) ?_;refine o.v1 (ba x cq) ?_;refine o.v1 bG (o.nil (cG ?_));refine aT (fun cH=>?_) (fun cH=>?_)
     ·
      have bP:i4<a.el.length:=by omega
      have bR:i4<b.el.length:=by omega
      obtain⟨W,aA⟩:∃q,q=a.el[i4]:=⟨_,rfl⟩;obtain⟨X,aE⟩:∃q,q=b.el[i4]:=⟨_,rfl⟩;have dD:W∈a.el:=by rw[aA];exact List.getElem_mem bP
      have dE:X∈b.el:=by rw[aE];exact List.getElem_mem bR
      have eV:=W.k.2;have eW:=X.k.2;refine G.skip (cD (G.t2 (fun cI cJ=>G.aB (fun cK _ cM=>G.t1 (fun cN=>?_)))));refine hf ?_;refine o.v1 (Y.ai n.N rfl ca rfl dp) ?_;refine o.v1 (ar n.N.iB dS) ?_;refine o.W ?_;refine o.bR (Y.bJ x (i4) rfl cq cf rfl rfl) fun dU ap=>?_;refine o.v1 (Y.ai ap.N rfl eS rfl a_) ?_;refine o.v1 (Y.cast (v2:=bs W.k) (aW ((ap.N.drop 0).take 32) b_ a_ (by rw[eK];exact bB _)) ((by rw[aA];exact b6 (eK _)))) ?_;refine o.v1 (Y.ai aQ.N rfl ca rfl dp) ?_;refine o.v1 (ar aQ.N.iB dS) ?_;refine o.W ?_;refine o.bR (Y.bJ C (i4) rfl cq cf rfl rfl) fun dV bx=>?_;refine o.v1 (Y.ai bx.N rfl eS rfl a_) ?_;refine o.v1 (Y.cast (v2:=bs X.k) (aW ((bx.N.drop 0).take 32) b_ a_ (by rw[eK];exact bB _)) ((by rw[aE];exact b6 (eK _)))) ?_;refine o.v1 (Y.cast (v2:= .bool (decide (W.k≠X.k))) (Y.jN rfl Tryz.eqGuardType26 (fun w=>fR 9998 Tryz.underlying26 Tryz.underlying5 cL dQ (by assumption) (by assumption) w) rfl rfl) ((congrArg Value.bool (decide_eq_decide.2 ⟨fun h e=>h (congrArg Subtype.val e),fun h e=>h (Subtype.ext e)⟩)))) ?_;refine o.W ?_;refine o.join (d:=170) (v:= .bool (decide (W.k≠X.k∨W.d≠X.d))) 16 (fun a7=>?_) ?_
      ·
       refine o.bj (d:=154) rfl (fun ai=>?_) (fun ai=>?_)
       ·
        refine o.ax 16 ?_;exact a7 _ (congrArg (fun b=>some (Value.bool b)) (by simp[ai])) (ae (ae (ae (ae (ae (ae (ae (ae (ae (ae (ae (ae (ae (ae (ae (ae (bC (congrArg Value.bool (decide_eq_true ai).symm))))))))))))))))))
       ·
        refine o.an (Y.ai n.N rfl ca rfl dp) ?_;refine o.an (ar n.N.iB dS) ?_;refine o.bU ?_;refine o.e (g:=fun ad=> .pointer (some ad)) (Y.bJ x (i4) rfl cq cf rfl rfl) bh rfl rfl (fun dW bz=>?_);refine o.an (Y.ai bz.N rfl eS rfl da) ?_;refine o.an (Y.cast (v2:=W.v.v) (ar (bz.N.ji) eA) (by rw[aA])) ?_;refine o.an (Y.nr (M W dD) rfl Tryz.underlying57 Tryz.underlying9 Tryz.underlying5 rfl) ?_;refine o.an (Y.ai aQ.N rfl ca rfl dp) ?_;refine o.an (ar aQ.N.iB dS) ?_;refine o.bU ?_;refine o.e (g:=fun ad=> .pointer (some ad)) (Y.bJ C (i4) rfl cq cf rfl rfl) bh rfl rfl (fun dY bA=>?_);refine o.an (Y.ai bA.N rfl eS rfl da) ?_;refine o.an (Y.cast (v2:=X.v.v) (ar (bA.N.ji) eA) (by rw[aE])) ?_;refine o.an (Y.nr (bf X dE) rfl Tryz.underlying57 Tryz.underlying9 Tryz.underlying5 rfl) ?_;refine o.an (Y.iS rfl rfl rfl) ?_;refine o.dF ?_;exact a7 _ (congrArg (fun b=>some (Value.bool b)) (by simp[ai])) (ae (ae (ae (ae (ae (ae (ae (ae (ae (ae (ae (ae (ae (ae (ae (ae (bC (congrArg Value.bool (decide_eq_false ai).symm))))))))))))))))))
      refine o.nil (cN ?_);refine aT (fun aj=>?_) (fun aj=>?_)
      ·
       refine G.L (fun cO=>?_);refine o.aj ?_;refine cO ?_;refine G.ret (cM (cJ (bt (dj (dh (aa ?_))))));exact⟨by rw[decide_eq_false (fun h=>by have P:=CW h.2.2.2.2 bP bR;rw[←aA,←aE]at P;rcases aj with q|q;exact q P.1;exact q P.2)],t⟩
      ·
       refine G.skip (cK (cI (G.region ?_)));refine o.W ?_;refine o.v1 bD ?_;refine o.aj ?_;refine aP.sub (dk (i4+1) _ ?_ ?_) ⟨rfl,rfl,(aD (by omega)),trivial⟩
       ·exact⟨(by omega),kt bZ (by simp only[cl,List.length_map];omega) (by simp only[cl,List.length_map];omega) (by simp only[not_or,Decidable.not_not]at aj;simp only[cl,List.getElem_map,←aA,←aE,aj.1,aj.2]),S⟩
       ·first|omega|(simp only;omega)|(simp;omega)
     ·
      refine G.exit (cE (bt (di ?_)));refine dg (G.L (fun cP=>?_));refine o.aj ?_;refine cP ?_;refine G.ret (aa ?_);exact⟨by have dB:cl a.el=cl b.el:=(by have dH:(cl a.el).length=a.el.length:=List.length_map _;have dI:(cl b.el).length=b.el.length:=List.length_map _;rwa[List.take_of_length_le (by omega),List.take_of_length_le (by omega)]at bZ);rw[decide_eq_true (show kg a b from⟨s1,Decidable.not_not.1 aL,dG,dy,dB⟩)],t⟩
end ry

namespace kF
open E Go.RowKit eJ eN eW e3 ey eX eY fF fG fO fY gg gx gy hQ lH mo nd dz
set_option maxRecDepth 100000 in
theorem iI:c6 Tryz.prog 30 68 33 56:=⟨Tryz.underlying30,_,_,rfl,rfl,rfl,rfl,rfl⟩
set_option maxRecDepth 100000 in
theorem dv:c6 Tryz.prog 57 5 1 1:=⟨Tryz.underlying57,_,_,rfl,rfl,rfl,rfl,rfl⟩
theorem uL:∀(k:Nat) (a b:List UInt8),a.take k=b.take k→k<a.length→k<b.length→a.getD k 0≠b.getD k 0→Op.bytesLess a b=decide ((a.getD k 0).toNat<(b.getD k 0).toNat)
 |0,x::a,y::b,_,_,_,h=>by
  have h:x≠y:=by simpa using h
  have U:(x==y)=false:=by simpa using h
  simp[Op.bytesLess,U,UInt8.lt_iff_toNat_lt]
 |k+1,x::a,y::b,d,i,U,h=>by
  simp only[List.take_succ_cons,List.cons.injEq]at d;obtain⟨rfl,d⟩:=d;have:=uL k a b d (by simpa using i) (by simpa using U) (by simpa using h)
  simp[Op.bytesLess,this]
 |_,[],_,_,i,_,_=>by simp at i
 |_,_,[],_,_,U,_=>by simp at U
theorem si{l:List UInt8}{j:Nat}(h:j<l.length):l[j]=l.getD j 0:=by simp[h]
theorem oH(i:cX)(k:Nat)(h:k<32):(b7 i)[k]?=some (.int .u8 (i.1.getD k 0).toNat):=by
 have U:k<i.1.length:=by rw[i.2];exact h
 simp[b7,List.getD_eq_getElem?_getD,List.getElem?_eq_getElem U]
theorem uK(a:List UInt8):Op.bytesLess a a=false:=by
 cases h:Op.bytesLess a a with
 |false=>rfl
 |true=>exact absurd h (mF a)
theorem Gj{l:List bA}{x:bA}{p:Nat}(i:∀j (h:j<l.length),j<p→blt l[j].k.1 x.k.1)(t:p≤l.length)(n:∀h:p<l.length,¬blt l[p].k.1 x.k.1∧¬l[p].k=x.k):cl (l.take p++[x]++l.drop p)=dZ (cl l) x.k.1 x.d:=by
 rw[sj (k:=p) (by simpa[cl]using t) (fun j h r=>by have:=i j (by simpa[cl]using h) r;simpa[cl]using this) (fun h=>by
  have o:p<l.length:=by simpa[cl]using h
  have d:=n o;simp only[cl,List.getElem_map];exact Classical.byContradiction (fun q=>d.2 (Subtype.ext (lS d.1 q))))]
 simp[cl,List.map_take,List.map_drop]
theorem DW{F aS:Nat→Prop}{H:Heap}{l:List bA}{x:bA}(p:Nat)(h:∀y∈l,Rd F H a1 1 y.v.v y.d)(d:∀b,F b→aS b)(i:Rd aS H a1 1 x.v.v x.d):∀y∈l.take p++[x]++l.drop p,Rd aS H a1 1 y.v.v y.d:=by
 intro y hy;rcases List.mem_append.1 hy with hy|hy
 ·rcases List.mem_append.1 hy with hy|hy
  ·exact(h y (List.mem_of_mem_take hy)).imp (fun b _ e=>d b e)
  ·rw[List.mem_singleton.1 hy];exact i
 ·exact(h y (List.mem_of_mem_drop hy)).imp (fun b _ e=>d b e)
theorem rQ{l:List bA}{k:aH}{j:Nat}(h:∀q (h:q<l.length),q<j→blt l[q].k.1 k)(o:j<l.length)(d:blt l[j].k.1 k):∀q (h:q<l.length),q<j+1→blt l[q].k.1 k:=fun q n U=>by
 rcases Nat.lt_succ_iff_lt_or_eq.1 U with i|rfl
 ·exact h q n i
 ·exact d
theorem Gz(a b:cX)(w0:World)(I:Heap)
 :
 aC Tryz.prog w0 117 #[bs a,bs b] I (fun r n=>r= .bool (Op.bytesLess a.1 b.1)∧ak I n):=by
 refine aC.aK [bs a,bs b] Tryz.func117 ?_;intro af F;have i:ak I I:=V.refl _ _;have az:=a.2;have aw:=b.2;refine G.L (fun P=>?_);refine o.aO cr ?_;rintro v2 n ⟨rfl,d,B,ag,Q⟩;have ay:n.size=I.size+1:=by rw[Q];simp
 replace i:=i.L B;have ah:=B.size;replace d:Var 26 n I.size (b7 a):=d;refine o.aO cr ?_;rintro v3 x ⟨rfl,j,A,ai,au⟩;have am:x.size=n.size+1:=by rw[au];simp
 replace d:=d.M A;replace i:=i.L A;have aj:=A.size;replace j:Var 26 x n.size (b7 b):=j;refine o.aj ?_;refine P (G.t2 (fun R ap=>G.L (fun S=>?_)));refine o.aj ?_;refine S (G.aB (fun _ T W=>?_))
 refine G.bd (fun(k:(Nat))=>[(2,.pointer (some ⟨I.size,0,none⟩)),(3,.pointer (some ⟨n.size,0,none⟩)),(5,.int .i64 (k:Int))])
  (fun(k:(Nat)) (H:Heap)=>(k≤32)∧(a.1.take k=b.1.take k)∧ak x H)
  (fun(k:(Nat))=>32-k) 0 ⟨rfl,rfl,rfl,trivial⟩ ?_ ?_
 ·
  exact⟨(by omega),by simp,V.refl _ _⟩
 intro k an X ae Y C;obtain⟨aA,t,q⟩:=X;replace d:=d.M q;replace j:=j.M q;replace i:=i.L q;have aq:=q.size;refine G.t2 (fun Z aa=>G.L (fun ab=>?_));refine o.W ?_;refine o.v1 bG (o.nil (ab ?_));refine aT (fun cE=>?_) (fun cE=>?_)
 ·
  refine G.skip (Z (G.t2 (fun K L=>G.aB (fun M _ N=>G.t1 (fun ac=>?_)))));refine hf ?_;refine o.W ?_;refine o.v1 (eU d.N (k) k8 cL) ?_;refine o.v1 (ar (d.N.at (k) (oH a k (by omega))) dQ) ?_;refine o.W ?_;refine o.v1 (eU j.N (k) k8 cL) ?_;refine o.v1 (ar (j.N.at (k) (oH b k (by omega))) dQ) ?_;refine o.v1 c1 (o.nil (ac ?_));refine aT (fun E=>?_) (fun E=>?_)
  ·
   refine G.t1 (fun ad=>?_);refine hf ?_;refine o.W ?_;refine o.v1 (eU d.N (k) k8 cL) ?_;refine o.v1 (ar (d.N.at (k) (oH a k (by omega))) dQ) ?_;refine o.W ?_;refine o.v1 (eU j.N (k) k8 cL) ?_;refine o.v1 (ar (j.N.at (k) (oH b k (by omega))) dQ) ?_;refine o.v1 bG ?_;refine o.aj ?_;refine ad ?_;refine G.ret (N (L (C (W (ap (F ?_))))));exact⟨by rw[uL k a.1 b.1 t (by omega) (by omega) (fun e=>E (by rw[e]))];exact congrArg Value.bool (decide_eq_decide.2 (by omega)),i⟩
  ·
   refine G.skip (M (K (G.region ?_)));refine o.W ?_;refine o.v1 bD ?_;refine o.aj ?_;refine aP.sub (Y (k+1) _ ?_ ?_) ⟨rfl,rfl,(aD (by omega)),trivial⟩
   ·exact⟨(by omega),by rw[List.take_succ_eq_append_getElem (by omega),List.take_succ_eq_append_getElem (by omega),t,si,si,UInt8.toNat_inj.1 (show(a.1.getD k 0).toNat=(b.1.getD k 0).toNat by omega)],q⟩
   ·first|omega|(simp only;omega)|(simp;omega)
 ·
  refine G.exit (aa (C (T ?_)));refine R (G.L (fun O=>?_));refine o.aj ?_;refine O ?_;refine G.ret (F ?_);obtain rfl:k=32:=by omega
  rw[List.take_of_length_le (by omega),List.take_of_length_le (by omega)]at t;exact⟨by rw[t,uK],i⟩
set_option maxHeartbeats 1600000 in
theorem ym(v1 v2:Value)(l m:List bA)(F:Nat→Prop)(w0:World)(I:Heap)
 (b3:Rd F I bM 33 v1 l) (fh:bg F I.size) (an:bw I bM 33 v2 m) (bH:∀x∈l,Rd F I a1 1 x.v.v x.d) (bZ:bg F I.size) (hy:∀x∈m,bw I a1 1 x.v.v x.d) (fX:l.length≤1000) (fY:m.length≤100000) (e0:∀x∈m,x.d.length≤140737488355328) (e2:∀x∈m,¬x.k=bz):
 aC Tryz.prog w0 43 #[v1,v2] I (fun r bj=>∃s2:aM,∃b9:List bA,∃bd:Nat→Prop,r=s2.v∧(∀u:Unit,Rd bd bj bM 33 s2.v b9)∧(bg bd bj.size)∧(∀x∈b9,Rd bd bj a1 1 x.v.v x.d)∧(bg bd bj.size)∧(∀b,bd b→F b∨I.size≤b)∧(cl b9=gA (cl l) m)∧ak I bj):=by
 refine aC.aK [v1,v2] Tryz.func43 ?_;intro fa e3;have M:ak I I:=V.refl _ _;replace an:=an.bt;have cj:=an.bY;replace hy:=fun x aa=>(hy x aa).bt;have cn:bg (fun b=>True∧b<I.size) I.size:=fun b h=>h.2;refine G.L (fun eg=>?_);refine o.aj ?_;refine eg (G.L (fun eh=>?_));refine o.aO (cU _ (([]:List bA)) iI cZ gX (rfl)) fun fM co ei=>?_;obtain⟨A,aQ,fr,dN⟩:=ei;have fz:co.size=I.size+1:=by rw[dN];simp
 have c5:=(ay.new (cj.mono M.size):ay _ (I.size+1));have c6:=(ay.new (bZ.mono M.size):ay _ (I.size+1));have cs:=(ay.new (cn.mono M.size):ay _ (I.size+1));have c_:T 0 I.size (I.size+1):=T.new M.size;replace b3:=b3.M aQ;replace an:=an.M aQ;replace bH:=fun x b8=>(bH x b8).M aQ;replace hy:=fun x aa=>(hy x aa).M aQ;replace M:=M.L aQ;have gb:=aQ.size;refine o.W ?_;refine o.aO (dO A b3 iI (by simp;omega) (by simp;omega)) fun bo bt ej=>?_;obtain⟨bT,A,aR,aO⟩:=ej;replace aR:T (I.size+1) co.size bT:=aR;replace aO:=aO.md;have ek:=ay.app (c5) (cj.mono M.size) aR;have en:=ay.app (c6) (bZ.mono M.size) aR;have eo:=ay.app (cs) (cn.mono M.size) aR;have be:T 0 I.size bT:=T.L (c_) aR M.size;replace an:=an.ab aO (az.J c5);replace bH:=fun x b8=>(bH x b8).ab aO (az.J c6);replace hy:=fun x aa=>(hy x aa).ab aO (az.J cs);replace M:=M.bl aO (ag.J (aq.q c_));have ds:=aO.size;have dm:=A.le;rw[List.nil_append]at A;obtain⟨er,rfl⟩:∃s:aM,bo=s.v:=⟨cg bo,A.bm.symm⟩;refine o.aj ?_;refine eh (G.t1 (fun et=>G.L (fun eu=>?_)));refine o.aj ?_;refine eu (G.aB (fun _ ev _=>?_))
 refine G.bd (fun(ca:(Nat)×(aM)×(Nat)×(List bA)×(Nat→Prop))=>match ca with|(i,so,aH,t,aS)=>[(1,v2),(5,so.v),(6,.int .i64 (i:Int))])
  (fun(i,so,aH,t,aS) (H:Heap)=>(i≤m.length)∧(aU aH 68 H bM 33 so.v t)∧(∀x∈t,Rd aS H a1 1 x.v.v x.d)∧(bg aS H.size)∧(ay aS aH)∧(∀b,aS b→F b∨I.size≤b)∧(cl t=gA (cl l) (m.take i))∧(T bT bt.size aH)∧V (aE [bT]) bt H)
  (fun(i,so,aH,t,aS)=>m.length-i) (0,er,bT,l,F) ⟨rfl,rfl,rfl,trivial⟩ ?_ ?_
 ·
  exact⟨(by omega),A,bH,(bZ.mono M.size),(en),(fun b e=>Or.inl e),rfl,T.refl _ _,V.refl _ _⟩
 rintro⟨i,so,aH,t,aS⟩ n ew e_ dA ey;obtain⟨fW,A,Q,bm,dg,b1,bF,cd,K⟩:=ew;have dP:T 0 I.size aH:=T.L (be) cd M.size;replace an:=an.ab K (az.J ek);replace hy:=fun x aa=>(hy x aa).ab K (az.J eo);replace M:=M.bl K (ag.J (aq.q be));have fN:=K.size;have dm:=A.le;have cM:=cd;refine G.t2 (fun ez eC=>G.L (fun eD=>?_));refine o.ax 2 ?_;refine o.v1 (ba an cq) ?_;refine o.v1 bG (o.nil (eD ?_));refine aT (fun eF=>?_) (fun eF=>?_)
 ·
  refine G.skip (ez (G.t1 (fun db=>G.aB (fun dR dS _=>G.t1 (fun dT=>G.L (fun dU=>?_))))));refine o.ax 2 ?_;have bE:i<m.length:=by omega
  obtain⟨y,a7⟩:∃q,q=m[i]:=⟨_,rfl⟩;have bJ:y∈m:=by rw[a7];exact List.getElem_mem bE
  have fV:=e0 y bJ;have e4:=e2 y bJ
  have fZ:t.length≤l.length+i:=by
   have dh:=rG (m.take i) (cl l);rw[←bF]at dh;simp only[cl,List.length_map,List.length_take]at dh;omega
  refine o.bR (Y.bJ an (i) rfl cq cf rfl rfl) fun ft cN=>?_;refine o.v1 (Y.ai cN.N rfl eS rfl a_) ?_;refine o.v1 (Y.cast (v2:=bs y.k) (aW ((cN.N.drop 0).take 32) b_ a_ (by rw[eK];exact bB _)) ((by rw[a7];exact b6 (eK _)))) ?_;refine o.v1 (Y.build (v:=bs bz) rfl rfl (by intro w;kernel_rfl)) ?_;refine o.v1 (Y.h_ rfl Tryz.eqGuardType26 (fun w=>fR 9998 Tryz.underlying26 Tryz.underlying5 cL dQ (y.k.2) (bz.2) w) rfl rfl) (o.nil (dU ?_));refine aT (fun dc=>?_) (fun dc=>?_)
  ·
   exact absurd (Subtype.ext dc) e4
  ·
   refine G.skip (dT ?_)
   refine G.cut (fun(ca:(Nat)×(aM)×(Nat))=>match ca with|(aK,ab,aF)=>[(1,v2),(5,so.v),(6,.int .i64 (i:Int)),(7,.pointer (some ⟨aK,0,none⟩))])
    (fun(aK,ab,aF) (H:Heap)=>(Var 68 H aK (bM (⟨y.k,ab,y.d⟩:bA)))∧(aU aF 5 H a1 1 ab.v y.d)∧(T 0 n.size ((aK+1)))∧(T 0 n.size aF)∧(af ((aK+1)) aF)∧ak n H) (fun _ bS _=>?_) ?_
   ·
    have B:ak n n:=V.refl _ _;refine dC (fun ai=>ak n ai) [14] ?_;have ac:ak n n:=V.refl _ _;refine O.W 0 rfl ac ?_;refine O.W 1 rfl ac ?_;refine O.e (g:=fun ad=> .pointer (some ad)) 2 (by kernel_rfl) rfl (by kernel_rfl) (by kernel_rfl) (by kernel_rfl) (Y.bJ an (i) rfl cq cf rfl rfl) cR rfl rfl ac (fun fu bi=>?_);refine O.t1 3 rfl (fun ai aj=>Y.ai (bi.N.M aj) rfl eS rfl a_) ac ?_;refine O.t1 4 rfl (fun ai aj=>Y.cast (v2:=bs y.k) (aW (((bi.N.drop 0).M aj).take 32) b_ a_ (by rw[eK];exact bB _)) ((by rw[a7];exact b6 (eK _)))) ac ?_;refine O.W 6 rfl ac ?_;refine O.W 7 rfl ac ?_;refine O.e (g:=fun ad=> .pointer (some ad)) 8 (by kernel_rfl) rfl (by kernel_rfl) (by kernel_rfl) (by kernel_rfl) (Y.bJ an (i) rfl cq cf rfl rfl) cR rfl rfl ac (fun fy cO=>?_);refine O.t1 9 rfl (fun ai aj=>Y.ai (cO.N.M aj) rfl eS rfl da) ac ?_;refine O.t1 10 rfl (fun ai aj=>Y.cast (v2:=y.v.v) (ar ((cO.N.ji).M aj) eA) (by rw[a7])) ac ?_;refine O.two (i:=5) (j:=13) (by kernel_rfl) ?_ ?_
    ·
     refine ep rfl (cU _ (([]:List UInt8)) dv eB fH (rfl)) (fun ed C bY=>?_);obtain⟨k,ap,dV,bU⟩:=bY;have aB:C.size=n.size+1:=by rw[bU];simp
     have bN:T 0 n.size (n.size+1):=T.new B.size;have dW:T 0 n.size (n.size+1):=T.new ac.size;replace hy:=fun x aa=>(hy x aa).M ap;replace B:=B.L ap;replace ac:=ac.L ap;have fO:=ap.size;refine⟨.inr ac,O.narrow (SH2:=fun ai=>V (aE [(n.size+1)]) C ai) (fun ai aj=>(V.aJ (ks:=[]) (ac.j1 []) aj (ag.J (aq.q dW))).nil) ?_⟩;have ac:V (aE [(n.size+1)]) C C:=V.refl _ _;have a9:=T.refl (n.size+1) C.size;refine O.two (i:=11) (j:=13) (by kernel_rfl) ?_ ?_
     ·
      refine ep rfl (Z.pM k (hy y bJ).any rfl dv rfl rfl (by simp;omega) (by simp;omega)) (fun aI X bu=>?_);obtain⟨am,k,R,L⟩:=bu;replace R:T (n.size+1) C.size am:=R;replace L:=L.md;have dY:T 0 n.size am:=T.L (bN) R B.size;have dq:T (n.size+1) C.size am:=T.L (a9) R ac.size;replace B:=B.bl L (ag.J (aq.q bN));replace ac:=ac.aJ L (ag.J (aq.r a9));have fP:=L.size;have bX:=k.le;obtain⟨P,rfl⟩:∃s:aM,aI=s.v:=⟨cg aI,k.bm.symm⟩;rw[List.nil_append]at k;refine O.b3 ac (ag.J (aq.r dq)) ?_;have ac:V (aE [am]) X X:=V.refl _ _;have dr:=T.refl am X.size;refine O.t1 (v:= .agg (bM (⟨y.k,P,y.d⟩:bA)).toArray) 12 rfl (fun ai aj=>?_) ac ?_
      ·exact Y.build (v:= .agg (bM (⟨y.k,P,y.d⟩:bA)).toArray) rfl rfl (by intro w;exact oA _ _ _)
      refine O.aY 13 ?_;refine ep rfl (cQ kD) ?_;rintro dk E ⟨rfl,al,W,de,bx⟩;have cP:E.size=X.size+1:=by rw[bx];simp
      have cS:af am (X.size+1):=af.new k.le;have cT:T 0 n.size (X.size+1):=T.new B.size;have dt:T 0 X.size (X.size+1):=T.new ac.size;replace k:=k.M W;replace B:=B.L W;replace ac:=ac.bc W;have fQ:=W.size;refine O.b3 ac (ag.cons (aq.r dr) (ag.J (aq.q dt))) ?_;refine O.aY 14 ?_;refine gJ rfl (dy al (_) (bM (⟨y.k,P,y.d⟩:bA)) (gX (⟨y.k,P,y.d⟩:bA)) cf (cZ _) ((c0 (cZ _).symm))) (fun cp bn=>?_);obtain⟨al,N⟩:=bn;replace N:=N.bp;replace k:=k.ab N (ah.J cS);replace B:=B.bl N (ag.J (aq.q cT));have fS:=N.size;refine⟨.inl rfl,?_⟩;refine cD ?_;refine aP.sub (bS (X.size,P,am) _ ?_) ⟨rfl,rfl,(aD (by omega)),rfl,trivial⟩;exact⟨al,k,cT,dY,cS.symm,B⟩
     ·
      refine ep rfl (cQ kD) ?_;rintro dk E ⟨rfl,al,W,de,bx⟩;have cP:E.size=C.size+1:=by rw[bx];simp
      have br:af (n.size+1) (C.size+1):=af.new k.le;have cV:T 0 n.size (C.size+1):=T.new B.size;have dw:T 0 C.size (C.size+1):=T.new ac.size;replace hy:=fun x aa=>(hy x aa).M W;replace k:=k.M W;replace B:=B.L W;replace ac:=ac.bc W;have df:=W.size;refine O.b3 ac (ag.cons (aq.r a9) (ag.J (aq.q dw))) ?_;have ac:V (aE [(n.size+1),(C.size+1)]) E E:=V.refl _ _;have cW:=T.refl (n.size+1) E.size;have dx:=T.refl (C.size+1) E.size;refine O.aY 11 ?_;refine ep rfl (Z.pM k (hy y bJ).any rfl dv rfl rfl (by simp;omega) (by simp;omega)) (fun aI X bu=>?_);obtain⟨am,k,R,L⟩:=bu;replace R:T (n.size+1) E.size am:=R;replace L:=L.md;have cY:af (C.size+1) am:=af.app (br.symm) al.lt R;have dz:T 0 n.size am:=T.L (bN) R B.size;have dD:T (n.size+1) E.size am:=T.L (cW) R ac.size;replace al:=al.ab L (ah.J br.symm);replace B:=B.bl L (ag.J (aq.q bN));replace ac:=ac.aJ L (ag.J (aq.r cW));have c1:=L.size;have bX:=k.le;obtain⟨P,rfl⟩:∃s:aM,aI=s.v:=⟨cg aI,k.bm.symm⟩;rw[List.nil_append]at k;refine O.b3 ac (ag.cons (aq.r dD) (ag.J (aq.r dx))) ?_;have ac:V (aE [am,(C.size+1)]) X X:=V.refl _ _;refine O.t1 (v:= .agg (bM (⟨y.k,P,y.d⟩:bA)).toArray) 12 rfl (fun ai aj=>?_) ac ?_
      ·exact Y.build (v:= .agg (bM (⟨y.k,P,y.d⟩:bA)).toArray) rfl rfl (by intro w;exact oA _ _ _)
      refine O.aY 14 ?_;refine gJ rfl (dy al (_) (bM (⟨y.k,P,y.d⟩:bA)) (gX (⟨y.k,P,y.d⟩:bA)) cf (cZ _) ((c0 (cZ _).symm))) (fun cp bn=>?_);obtain⟨al,N⟩:=bn;replace N:=N.bp;replace k:=k.ab N (ah.J cY.symm);replace B:=B.bl N (ag.J (aq.q cV));have fi:=N.size;refine⟨.inl rfl,?_⟩;refine cD ?_;refine aP.sub (bS (C.size,P,am) _ ?_) ⟨rfl,rfl,(aD (by omega)),rfl,trivial⟩;exact⟨al,k,cV,dz,cY,B⟩
    ·
     refine ep rfl (cQ kD) ?_;rintro dk E ⟨rfl,al,W,de,bx⟩;have cP:E.size=n.size+1:=by rw[bx];simp
     have bv:T 0 n.size (n.size+1):=T.new B.size;have dF:T 0 n.size (n.size+1):=T.new ac.size;replace hy:=fun x aa=>(hy x aa).M W;replace B:=B.L W;replace ac:=ac.L W;have fj:=W.size;refine⟨.inr ac,O.narrow (SH2:=fun ai=>V (aE [(n.size+1)]) E ai) (fun ai aj=>(V.aJ (ks:=[]) (ac.j1 []) aj (ag.J (aq.q dF))).nil) ?_⟩;have ac:V (aE [(n.size+1)]) E E:=V.refl _ _;have ea:=T.refl (n.size+1) E.size;refine O.aY 5 ?_;refine ep rfl (cU _ (([]:List UInt8)) dv eB fH (rfl)) (fun ed C bY=>?_);obtain⟨k,ap,dV,bU⟩:=bY;have aB:C.size=E.size+1:=by rw[bU];simp
     have cr:af (n.size+1) (E.size+1):=af.new al.lt;have ct:T 0 n.size (E.size+1):=T.new B.size;have eb:T 0 E.size (E.size+1):=T.new ac.size;replace hy:=fun x aa=>(hy x aa).M ap;replace al:=al.M ap;replace B:=B.L ap;replace ac:=ac.bc ap;have dE:=ap.size;refine O.b3 ac (ag.cons (aq.r ea) (ag.J (aq.q eb))) ?_;have ac:V (aE [(n.size+1),(E.size+1)]) C C:=V.refl _ _;have ec:=T.refl (n.size+1) C.size;have cu:=T.refl (E.size+1) C.size;refine O.aY 11 ?_;refine ep rfl (Z.pM k (hy y bJ).any rfl dv rfl rfl (by simp;omega) (by simp;omega)) (fun aI X bu=>?_);obtain⟨am,k,R,L⟩:=bu;replace R:T (E.size+1) C.size am:=R;replace L:=L.md;have cv:af (n.size+1) am:=af.app (cr) al.lt R;have dG:T 0 n.size am:=T.L (ct) R B.size;have dH:T (E.size+1) C.size am:=T.L (cu) R ac.size;replace al:=al.ab L (ah.J cr);replace B:=B.bl L (ag.J (aq.q ct));replace ac:=ac.aJ L (ag.J (aq.r cu));have fk:=L.size;have bX:=k.le;obtain⟨P,rfl⟩:∃s:aM,aI=s.v:=⟨cg aI,k.bm.symm⟩;rw[List.nil_append]at k;refine O.b3 ac (ag.cons (aq.r ec) (ag.J (aq.r dH))) ?_;have ac:V (aE [(n.size+1),am]) X X:=V.refl _ _;refine O.t1 (v:= .agg (bM (⟨y.k,P,y.d⟩:bA)).toArray) 12 rfl (fun ai aj=>?_) ac ?_
     ·exact Y.build (v:= .agg (bM (⟨y.k,P,y.d⟩:bA)).toArray) rfl rfl (by intro w;exact oA _ _ _)
     refine O.aY 14 ?_;refine gJ rfl (dy al (_) (bM (⟨y.k,P,y.d⟩:bA)) (gX (⟨y.k,P,y.d⟩:bA)) cf (cZ _) ((c0 (cZ _).symm))) (fun cp bn=>?_);obtain⟨al,N⟩:=bn;replace N:=N.bp;replace k:=k.ab N (ah.J cv.symm);replace B:=B.bl N (ag.J (aq.q bv));have fl:=N.size;refine⟨.inl rfl,?_⟩;refine cD ?_;refine aP.sub (bS (n.size,P,am) _ ?_) ⟨rfl,rfl,(aD (by omega)),rfl,trivial⟩;exact⟨al,k,bv,dG,cv,B⟩
   ·
    rintro⟨aK,ab,aF⟩ bP dp;obtain⟨al,k,fe,cc,fg,bO⟩:=dp;have cw:af aH aF:=af.app (af.z) A.le cc;have cy:T 0 I.size aF:=T.L (T.refl 0 _) cc M.size;replace A:=A.M bO;replace Q:=fun x aA=>(Q x aA).M bO;replace K:=K.bc bO;have fm:=bO.size;have ff:=al.le;have bX:=k.le;refine G.L (fun dZ=>?_);refine o.aj ?_;refine dZ ?_
    refine G.cut (fun(j:(Nat))=>[(1,v2),(5,so.v),(6,.int .i64 (i:Int)),(7,.pointer (some ⟨aK,0,none⟩)),(8,.int .i64 (j:Int))])
     (fun(j:(Nat)) (H:Heap)=>(j≤t.length)∧(∀q (h:q<t.length),q<j→blt t[q].k.1 y.k.1)∧(∀h:j<t.length,¬blt t[j].k.1 y.k.1)∧ak bP H) (fun _ cB _=>?_) ?_
    ·
     have a6:ak bP bP:=V.refl _ _;refine G.aB (fun _ cC _=>?_)
     refine G.bd (fun(j:(Nat))=>[(1,v2),(5,so.v),(6,.int .i64 (i:Int)),(7,.pointer (some ⟨aK,0,none⟩)),(8,.int .i64 (j:Int))])
      (fun(j:(Nat)) (H:Heap)=>(j≤t.length)∧(∀q (h:q<t.length),q<j→blt t[q].k.1 y.k.1)∧ak bP H)
      (fun(j:(Nat))=>t.length-j) 0 ⟨rfl,rfl,rfl,rfl,rfl,trivial⟩ ?_ ?_
     ·
      exact⟨(by omega),(fun q h U=>absurd U (Nat.not_lt_zero _)),V.refl _ _⟩
     intro j fT cE fU eH cG;obtain⟨dj,bc,aL⟩:=cE;replace A:=A.M aL;replace al:=al.M aL;replace a6:=a6.L aL;have fo:=aL.size;refine G.t2 (fun eI cH=>G.t1 (fun cK=>?_));refine iV 12 (fun fc di=>?_);refine o.ax 2 ?_;refine o.v1 (ba A.rd cq) ?_;refine o.v1 bG ?_;refine o.W ?_;refine o.bj (d:=43) rfl (fun ef=>?_) (fun ef=>?_)
     ·
      refine o.ax 2 ?_;have bb:j<t.length:=by omega
      obtain⟨z,a8⟩:∃q,q=t[j]:=⟨_,rfl⟩;refine o.an (mh A (j) cq cf) ?_;refine o.an (Y.fieldAddr (A.N (j:=j) (by first|omega|(simp;omega)|(simp;done))) rfl eS rfl rfl a_ (by decide) rfl) ?_;refine o.an (Y.cast (v2:=bs z.k) (aW (((A.N (j:=j) (by first|omega|(simp;omega)|(simp;done))).drop 0).take 32) b_ a_ (by rw[eK];exact bB _)) ((by rw[a8];exact b6 (eK _)))) ?_;refine o.an (Y.ai al.N rfl eS rfl a_) ?_;refine o.an (Y.cast (v2:=bs y.k) (aW (al.N.take 32) b_ a_ (by rw[show(bM (⟨y.k,ab,y.d⟩:bA)).take 32=b7 y.k from eK _];exact bB _)) ((b6 (show(bM (⟨y.k,ab,y.d⟩:bA)).take 32=b7 y.k from eK _)))) ?_;refine o.nil (di _ ?_);refine o.call rfl AV rfl bh rfl rfl (Gz z.k y.k w0 _) (fun fA fB eG=>?_);obtain⟨rfl,bV⟩:=eG;replace a6:=a6.L bV;replace aL:=aL.L bV;have fJ:=bV.size;refine o.N ?_;refine o.nil (cK ?_);refine cI (fun b0=>?_) (fun b0=>?_)
      ·
       refine G.skip (eI (G.aB (fun eJ _ _=>G.region ?_)));refine o.W ?_;refine o.v1 bD ?_;refine o.aj ?_;refine eJ ?_;refine aP.sub (eH (j+1) _ ?_ ?_) ⟨rfl,rfl,(aD (by omega)),rfl,(aD (by omega)),trivial⟩
       ·exact⟨(by omega),rQ bc bb (by rw[←a8];exact b0),aL⟩
       ·first|omega|(simp only;omega)|(simp;omega)
      ·
       refine G.exit (cH (cG (cC ?_)));refine aP.sub (cB j _ ?_) ⟨rfl,rfl,(aD (by omega)),rfl,(aD (by omega)),trivial⟩;exact⟨(by omega),bc,(fun _=>by rw[←a8];unfold blt;simpa using b0),a6⟩
     ·
      refine o.ax 7 ?_;refine o.nil (di _ ?_);refine o.ax 2 ?_;refine o.nil (cK ?_);refine dB ?_;refine G.exit (cH (cG (cC ?_)));refine aP.sub (cB j _ ?_) ⟨rfl,rfl,(aD (by omega)),rfl,(aD (by omega)),trivial⟩;exact⟨(by omega),bc,(fun h=>absurd h (by omega)),a6⟩
    ·
     intro j cz d_;obtain⟨dj,bc,b5,aZ⟩:=d_;replace A:=A.M aZ;replace Q:=fun x aA=>(Q x aA).M aZ;replace al:=al.M aZ;replace k:=k.M aZ;replace K:=K.bc aZ;have bf:=aZ.size;refine G.t2 (fun ce eL=>G.t1 (fun eM=>?_));refine hf ?_;refine o.ax 2 ?_;refine o.v1 (ba A.rd cq) ?_;refine o.v1 bG ?_;refine o.W ?_;refine o.join (d:=68) (v:= .bool (decide ((t[j]?.map (·.k))=some y.k))) 9 (fun cb=>?_) ?_
     ·
      refine o.bj (d:=59) rfl (fun dX=>?_) (fun dX=>?_)
      ·
       refine o.ax 2 ?_;have bb:j<t.length:=by omega
       obtain⟨z,a8⟩:∃q,q=t[j]:=⟨_,rfl⟩;refine o.an (mh A (j) cq cf) ?_;refine o.an (Y.fieldAddr (A.N (j:=j) (by first|omega|(simp;omega)|(simp;done))) rfl eS rfl rfl a_ (by decide) rfl) ?_;refine o.an (Y.cast (v2:=bs z.k) (aW (((A.N (j:=j) (by first|omega|(simp;omega)|(simp;done))).drop 0).take 32) b_ a_ (by rw[eK];exact bB _)) ((by rw[a8];exact b6 (eK _)))) ?_;refine o.an (Y.ai al.N rfl eS rfl a_) ?_;refine o.an (Y.cast (v2:=bs y.k) (aW (al.N.take 32) b_ a_ (by rw[show(bM (⟨y.k,ab,y.d⟩:bA)).take 32=b7 y.k from eK _];exact bB _)) ((b6 (show(bM (⟨y.k,ab,y.d⟩:bA)).take 32=b7 y.k from eK _)))) ?_;refine o.an (Y.h_ rfl Tryz.eqGuardType26 (fun w=>fR 9998 Tryz.underlying26 Tryz.underlying5 cL dQ (z.k.2) (y.k.2) w) rfl rfl) ?_;refine o.N ?_;exact cb _ (congrArg (fun b=>some (Value.bool b)) (decide_eq_decide.2 (by rw[List.getElem?_eq_getElem bb,Option.map_some,Option.some_inj,←a8];exact⟨fun e=>Subtype.ext e,fun e=>congrArg Subtype.val e⟩))) (ae (ae (ae (ae (ae (ae (ae (ae (ae (bC (congrArg Value.bool (decide_eq_true dX).symm)))))))))))
      ·
       refine o.ax 9 ?_;exact cb _ (congrArg (fun b=>some (Value.bool b)) (by rw[List.getElem?_eq_none (by omega)];simp)) (ae (ae (ae (ae (ae (ae (ae (ae (ae (bC (congrArg Value.bool (decide_eq_false dX).symm)))))))))))
     refine o.nil (eM ?_);refine aT (fun bp=>?_) (fun bp=>?_)
     ·
      obtain⟨z9,c1,df⟩:=Option.map_eq_some_iff.1 bp;obtain⟨bb,rfl⟩:=List.getElem?_eq_some_iff.1 c1;have e1:t[j].k=y.k:=df;refine G.L (fun ci=>?_);refine o.ax 2 ?_;refine o.v1 (aW al.N hF cf (cZ _)) ?_;refine o.v1 (mh A (j) cq cf) ?_;refine o.s1 (S.s6 A j 0 (⟨y.k,ab,y.d⟩:bA) (bM (⟨y.k,ab,y.d⟩:bA)) rfl rfl rfl rfl (gX _) cf (cZ _) bb (by decide) (c0 (by rw[cZ,cZ])).symm) fun fp dI=>?_;obtain⟨A,au⟩:=dI;replace au:=au.md;replace Q:=fun x aA=>(Q x aA).ab au (az.J dg);replace k:=k.ab au (ah.J cw.symm);replace K:=K.aJ au (ag.J (aq.r cM));have ee:=au.size;refine o.nil (ci ?_);refine G.exit (eL (dS ?_));refine db (G.region ?_);refine o.W ?_;refine o.v1 bD ?_;refine o.aj ?_;refine aP.sub (dA (i+1,so,aH,t.set j (⟨y.k,ab,y.d⟩:bA),fun b=>aS b∨b+1=aF) _ ?_ ?_) ⟨rfl,rfl,(aD (by omega)),trivial⟩
      ·exact⟨(by omega),A,yH j Q (fun b e=> .inl e) (k.rd.imp (fun b _ e=> .inr e)),bg.eG (bm.mono (by omega)) k.le,ay.eG (dg) (cw),(fun b e=>e.elim (b1 b) (fun e=>Or.inr (by have bL:=(cy);unfold T at bL;omega))),by rw[pL bE,←a7,←bF];exact vN (x:=(⟨y.k,ab,y.d⟩:bA)) bc bb e1,cM,K⟩
      ·first|omega|(simp only;omega)|(simp;omega)
     ·
      refine G.skip (ce (G.L (fun eN=>?_)));have b4:∀h:j<t.length,¬blt t[j].k.1 y.k.1∧¬t[j].k=y.k:=fun h=>⟨b5 h,fun e=>bp (by rw[List.getElem?_eq_getElem h,Option.map_some,e])⟩;refine o.aj ?_;refine eN (G.L (fun eO=>?_));refine o.ax 3 ?_;refine o.aK (g:=fun v=>v) (Y.slice A.rd (0) (j) rfl cq cf rfl (.inl ⟨rfl,rfl⟩) (.inr ⟨_,_,_,rfl,rfl,by first|rfl|omega⟩) (by omega) (by omega)) fun fC e7=>?_;have e5:aU 0 68 cz bM 33 (.slice none 0 0) []:=aU.nil cZ gX;refine o.aO (dO e5 e7 iI (by simp;omega) (by simp;omega)) fun fD dd eV=>?_;obtain⟨bq,on,aV,aJ⟩:=eV;replace aV:T 0 cz.size bq:=aV;replace aJ:=aJ.md;have dJ:af aH bq:=af.app (af.z) A.le aV;have a0:=ay.app (ay.z) (bm.mono (by omega)) aV;have b2:af aF bq:=af.app (af.z) k.le aV;have a2:T 0 bt.size bq:=T.L (T.refl 0 _) aV K.size;replace A:=A.ab aJ (ah.J af.z);replace Q:=fun x aA=>(Q x aA).ab aJ (az.J ay.z);replace al:=al.ab aJ (ah.J af.z);replace k:=k.ab aJ (ah.J af.z);replace K:=K.aJ aJ (ag.cons aq.z ag.nil);have gO:=aJ.size;have ch:=on.le;have b4:∀h:j<t.length,¬blt t[j].k.1 y.k.1∧¬t[j].k=y.k:=fun h=>⟨b5 h,fun e=>bp (by rw[List.getElem?_eq_getElem h,Option.map_some,e])⟩;refine o.aj ?_;refine eO (G.L (fun eR=>?_));refine o.W ?_;refine o.v1 (aW al.N hF cf (cZ _)) ?_;refine o.aO (cU _ ([(⟨y.k,ab,y.d⟩:bA)]) iI cZ gX (rfl)) fun fE c2 eW=>?_;obtain⟨e6,aX,fK,eT⟩:=eW;have fq:c2.size=dd.size+1:=by rw[eT];simp
      replace A:=A.M aX;replace Q:=fun x aA=>(Q x aA).M aX;replace k:=k.M aX;replace on:=on.M aX;replace K:=K.bc aX;have fL:=aX.size;refine o.aO (dO on e6.rd iI (by simp;omega) (by simp;omega)) fun fF eX eY=>?_;obtain⟨bQ,on,bk,aN⟩:=eY;replace bk:T bq c2.size bQ:=bk;replace aN:=aN.md;have a3:=ay.app (a0) (bm.mono (by omega)) bk;have a4:af aF bQ:=af.app (b2) k.le bk;have a5:T 0 bt.size bQ:=T.L (a2) bk K.size;replace A:=A.ab aN (ah.J dJ);replace Q:=fun x aA=>(Q x aA).ab aN (az.J a0);replace k:=k.ab aN (ah.J b2);replace K:=K.aJ aN (ag.J (aq.q a2));have dl:=aN.size;have ch:=on.le;have b4:∀h:j<t.length,¬blt t[j].k.1 y.k.1∧¬t[j].k=y.k:=fun h=>⟨b5 h,fun e=>bp (by rw[List.getElem?_eq_getElem h,Option.map_some,e])⟩;refine o.aj ?_;refine eR (G.region ?_);refine o.ax 3 ?_;refine o.aK (g:=fun v=>v) (Y.slice A.rd (j) (t.length) rfl cq cf rfl (.inr ⟨_,_,_,rfl,rfl,by first|rfl|omega⟩) (.inl ⟨rfl,rfl⟩) (by omega) (by omega)) fun fG e8=>?_;refine o.aO (dO on e8 iI (by simp;omega) (by simp;omega)) fun c3 fI cJ=>?_;obtain⟨bR,on,bl,aY⟩:=cJ;replace bl:T bQ eX.size bR:=bl;replace aY:=aY.md;have dK:=ay.app (a3) (bm.mono (by omega)) bl;have dL:af aF bR:=af.app (a4) k.le bl;have dM:T 0 bt.size bR:=T.L (a5) bl K.size;replace Q:=fun x aA=>(Q x aA).ab aY (az.J a3);replace k:=k.ab aY (ah.J a4);replace K:=K.aJ aY (ag.J (aq.q a5));have dn:=aY.size;have ch:=on.le;rw[List.nil_append,List.drop_zero,List.take_length]at on;obtain⟨eZ,rfl⟩:∃s:aM,c3=s.v:=⟨cg c3,on.bm.symm⟩;refine o.aj ?_;refine dR (db (G.region ?_));refine o.W ?_;refine o.v1 bD ?_;refine o.aj ?_;refine aP.sub (dA (i+1,eZ,bR,t.take j++[(⟨y.k,ab,y.d⟩:bA)]++t.drop j,fun b=>aS b∨b+1=aF) _ ?_ ?_) ⟨rfl,rfl,(aD (by omega)),trivial⟩
      ·exact⟨(by omega),on,DW j Q (fun b e=> .inl e) (k.rd.imp (fun b _ e=> .inr e)),bg.eG (bm.mono (by omega)) k.le,ay.eG (dK) (dL.symm),(fun b e=>e.elim (b1 b) (fun e=>Or.inr (by have bL:=(cy);unfold T at bL;omega))),by rw[pL bE,←a7,←bF];exact Gj (x:=(⟨y.k,ab,y.d⟩:bA)) bc dj b4,(T.z (dM)),K⟩
      ·first|omega|(simp only;omega)|(simp;omega)
 ·
  have bE:i=m.length:=by omega
  rw[bE,List.take_length]at bF;refine G.exit (eC (ey (ev ?_)));refine et (G.L (fun eU=>?_));refine o.aR 2 ?_;refine eU ?_;refine G.ret (e3 ?_);exact⟨so,t,_,rfl,(fun _=>((A.rd.imp (fun b _ e=>Or.inr (by have bL:=(dP);unfold T at bL;omega)):Rd (fun b=>F b∨I.size≤b) _ bM 33 so.v t)).bt),(fun b e=>e.2),(fun x h=>(((Q x h).imp (fun b _ e=>b1 b e):Rd (fun b=>F b∨I.size≤b) _ a1 1 x.v.v x.d)).bt),(fun b e=>e.2),(fun b e=>e.1),bF,M⟩
end kF

namespace mq
open E Go.RowKit eJ eN eW e3 ey eX eY fF fG fO fY gg gx gy kF dz
set_option maxRecDepth 100000 in
theorem dv:c6 Tryz.prog 57 5 1 1:=⟨Tryz.underlying57,_,_,rfl,rfl,rfl,rfl,rfl⟩
theorem Fo:cj 1 1=[1]:=by decide+kernel
theorem Fm:cj 1 0=[0]:=by decide+kernel
theorem nY(k:Nat)(s:aM)(xs:List UInt8)(i:cX)(w0:World)(I:Heap)
 (d:aU k 5 I a1 1 s.v xs) (bb:xs.length≤1099511627776):
 aC Tryz.prog w0 121 #[s.v,bs i] I (fun r M=>∃s2:aM,∃a8:Nat,r=s2.v∧(aU a8 5 M a1 1 s2.v (xs++i.1))∧(T k I.size a8)∧V (aE [k]) I M):=by
 refine aC.aK [s.v,bs i] Tryz.func121 ?_;intro aQ aK;have t:V (aE [k]) I I:=V.refl _ _;have N:=T.refl k I.size;have ac:=d.le;have a_:=i.2;refine G.L (fun aA=>?_);refine o.aO cr ?_;rintro v3 A ⟨rfl,x,K,aS,aB⟩;have a7:A.size=I.size+1:=by rw[aB];simp
 have aF:af k (I.size+1):=af.new d.le;replace d:=d.M K;replace t:=t.bc K;have aV:=K.size;replace x:Var 26 A I.size (b7 i):=x;refine o.aj ?_;refine aA (G.t1 (fun aH=>G.L (fun aI=>?_)));refine o.aj ?_;refine aI (G.aB (fun _ aJ _=>?_))
 refine G.bd (fun(aN:(Nat)×(aM)×(Nat)×(List UInt8))=>match aN with|(j,s1,q,ys)=>[(0,s1.v),(3,.pointer (some ⟨I.size,0,none⟩)),(5,.int .i64 (j:Int))])
  (fun(j,s1,q,ys) (H:Heap)=>(j≤32)∧(aU q 5 H a1 1 s1.v ys)∧(ys=xs++i.1.take j)∧(T k A.size q)∧V (aE [k]) A H)
  (fun(j,s1,q,ys)=>32-j) (0,s,k,xs) ⟨rfl,rfl,rfl,trivial⟩ ?_ ?_
 ·
  exact⟨(by omega),d,(by simp),T.refl _ _,V.refl _ _⟩
 rintro⟨j,s1,q,ys⟩ Q R aO S W;obtain⟨ba,d,C,ad,n⟩:=R;have X:T k I.size q:=T.L (N) ad t.size;replace x:=x.ab n (ah.J aF.symm);replace t:=t.aJ n (ag.J (aq.r N));have aW:=n.size;have ac:=d.le;have am:=ad;have bc:ys.length≤xs.length+32:=by rw[C,List.length_append,List.length_take];omega
 refine G.t2 (fun Y Z=>G.L (fun aa=>?_));refine o.W ?_;refine o.v1 bG (o.nil (aa ?_));refine aT (fun cE=>?_) (fun cE=>?_)
 ·
  refine G.skip (Y (G.t1 (fun ab=>G.aB (fun ae _ _=>G.region ?_))));refine o.ax 2 ?_;refine o.v1 (eU x.N (j) k8 cL) ?_;refine o.v1 (ar (x.N.at (j) (oH i j (by omega))) dQ) ?_;refine o.aO (cU _ ([i.1.getD j 0]) dv eB fH (rfl)) fun aX O ai=>?_;obtain⟨aL,E,aR,ay⟩:=ai;have ap:O.size=Q.size+1:=by rw[ay];simp
  replace d:=d.M E;replace n:=n.bc E;have aY:=E.size;refine o.aO (dO d aL.rd dv (by simp;omega) (by simp;omega)) fun P aZ aj=>?_;obtain⟨L,d,F,B⟩:=aj;replace F:T q O.size L:=F;replace B:=B.md;have az:T k A.size L:=T.L (am) F n.size;replace n:=n.aJ B (ag.J (aq.r am));have a6:=B.size;have ac:=d.le;obtain⟨an,rfl⟩:∃s:aM,P=s.v:=⟨cg P,d.bm.symm⟩;refine o.aj ?_;refine ae (ab (G.region ?_));refine o.W ?_;refine o.v1 bD ?_;refine o.aj ?_;refine aP.sub (S (j+1,an,L,ys++[i.1.getD j 0]) _ ?_ ?_) ⟨rfl,rfl,(aD (by omega)),trivial⟩
  ·exact⟨(by omega),d,by rw[C,List.take_succ_eq_append_getElem (by omega),si (l:=i.1) (j:=j) (by omega),List.append_assoc],az,n⟩
  ·first|omega|(simp only;omega)|(simp;omega)
 ·
  obtain rfl:j=32:=by omega
  rw[List.take_of_length_le (by omega)]at C;subst C;refine G.exit (Z (W (aJ ?_)));refine aH (G.L (fun au=>?_));refine o.aR 2 ?_;refine au ?_;refine G.ret (aK ?_);exact⟨s1,q,rfl,d,X,t⟩
theorem tJ(k:Nat)(s:aM)(xs t:List UInt8)(w0:World)(I:Heap)
 (d:aU k 5 I a1 1 s.v xs) (ab:xs.length≤549755813888) (aa:t.length≤255):
 aC Tryz.prog w0 119 #[s.v,.int .i64 1,aI t] I (fun r q=>∃s2:aM,∃a8:Nat,r= .tuple #[s2.v,.bool true]∧(aU a8 5 q a1 1 s2.v (xs++fU 1 t))∧(T k I.size a8)∧V (aE [k]) I q):=by
 refine aC.aK [s.v,.int .i64 1,aI t] Tryz.func119 ?_;intro R Q;have i:V (aE [k]) I I:=V.refl _ _;have x:=T.refl k I.size;have F:=d.le;refine G.L (fun au=>?_);refine o.aR 2 ?_;refine au (G.t1 (fun am=>G.L (fun K=>?_)));refine o.W ?_;refine o.v1 ((bG).gq (by decide)) ?_;refine o.ax 2 ?_;refine o.an (fy dN) ?_;refine o.bU ?_;refine o.an (Y.cast (v2:= .int .i64 8) (Y.jz rfl rfl rfl (by decide)) (rfl)) ?_;refine o.an (Y.cast (v2:= .int .i64 256) (Y.k1 (8) rfl rfl rfl rfl (by decide) (by decide)) (rfl)) ?_;refine o.an ((dH).fC (by omega)) ?_;refine o.N ?_;refine o.nil (K ?_);refine dB ?_;refine G.skip (am (G.L (fun ap=>?_)));refine o.ax 3 ?_;refine o.v1 (fy dN) ?_;refine o.v1 (Y.hx rfl gl gT rfl) ?_;refine aV lT (dz.l5 _ _ _ 1 _ w0 _ d (by decide) (by omega)) (fun j L M=>?_);obtain⟨j,B,rfl,d,H,A⟩:=M;have C:T k I.size B:=T.L (x) H i.size;replace i:=i.aJ A (ag.J (aq.r x));have S:=A.size;have F:=d.le;obtain⟨W,rfl⟩:∃s:aM,j=s.v:=⟨cg j,d.bm.symm⟩;refine o.W ?_;refine o.aO (Z.pN d rfl dv Tryz.underlying9 rfl rfl (by simp[dR];omega)) fun E X N=>?_;obtain⟨n,d,ac,ad⟩:=N;replace ac:T B L.size n:=ac;replace ad:=ad.md;have O:T k I.size n:=T.L (C) ac i.size;replace i:=i.aJ ad (ag.J (aq.r C));obtain⟨P,rfl⟩:∃s:aM,E=s.v:=⟨cg E,d.bm.symm⟩;refine o.aR 2 ?_;refine ap ?_;refine G.ret (Q ?_);exact⟨P,n,rfl,by rw[fU,←List.append_assoc];exact d,O,i⟩
theorem HH(k:Nat)(s:aM)(xs t:List UInt8)(w0:World)(I:Heap)
 (d:aU k 5 I a1 1 s.v xs) (ab:xs.length≤549755813888) (aa:t.length≤65535):
 aC Tryz.prog w0 119 #[s.v,.int .i64 2,aI t] I (fun r q=>∃s2:aM,∃a8:Nat,r= .tuple #[s2.v,.bool true]∧(aU a8 5 q a1 1 s2.v (xs++fU 2 t))∧(T k I.size a8)∧V (aE [k]) I q):=by
 refine aC.aK [s.v,.int .i64 2,aI t] Tryz.func119 ?_;intro R Q;have i:V (aE [k]) I I:=V.refl _ _;have x:=T.refl k I.size;have F:=d.le;refine G.L (fun au=>?_);refine o.aR 2 ?_;refine au (G.t1 (fun am=>G.L (fun K=>?_)));refine o.W ?_;refine o.v1 ((bG).gq (by decide)) ?_;refine o.ax 2 ?_;refine o.an (fy dN) ?_;refine o.bU ?_;refine o.an (Y.cast (v2:= .int .i64 16) (Y.jz rfl rfl rfl (by decide)) (rfl)) ?_;refine o.an (Y.cast (v2:= .int .i64 65536) (Y.k1 (16) rfl rfl rfl rfl (by decide) (by decide)) (rfl)) ?_;refine o.an ((dH).fC (by omega)) ?_;refine o.N ?_;refine o.nil (K ?_);refine dB ?_;refine G.skip (am (G.L (fun ap=>?_)));refine o.ax 3 ?_;refine o.v1 (fy dN) ?_;refine o.v1 (Y.hx rfl gl gT rfl) ?_;refine aV lT (dz.l5 _ _ _ 2 _ w0 _ d (by decide) (by omega)) (fun j L M=>?_);obtain⟨j,B,rfl,d,H,A⟩:=M;have C:T k I.size B:=T.L (x) H i.size;replace i:=i.aJ A (ag.J (aq.r x));have S:=A.size;have F:=d.le;obtain⟨W,rfl⟩:∃s:aM,j=s.v:=⟨cg j,d.bm.symm⟩;refine o.W ?_;refine o.aO (Z.pN d rfl dv Tryz.underlying9 rfl rfl (by simp[dR];omega)) fun E X N=>?_;obtain⟨n,d,ac,ad⟩:=N;replace ac:T B L.size n:=ac;replace ad:=ad.md;have O:T k I.size n:=T.L (C) ac i.size;replace i:=i.aJ ad (ag.J (aq.r C));obtain⟨P,rfl⟩:∃s:aM,E=s.v:=⟨cg E,d.bm.symm⟩;refine o.aR 2 ?_;refine ap ?_;refine G.ret (Q ?_);exact⟨P,n,rfl,by rw[fU,←List.append_assoc];exact d,O,i⟩
theorem HI(k:Nat)(s:aM)(xs t:List UInt8)(w0:World)(I:Heap)
 (d:aU k 5 I a1 1 s.v xs) (ab:xs.length≤549755813888) (aa:t.length≤549755813888):
 aC Tryz.prog w0 119 #[s.v,.int .i64 4,aI t] I (fun r q=>∃s2:aM,∃a8:Nat,r= .tuple #[s2.v,.bool true]∧(aU a8 5 q a1 1 s2.v (xs++fU 4 t))∧(T k I.size a8)∧V (aE [k]) I q):=by
 refine aC.aK [s.v,.int .i64 4,aI t] Tryz.func119 ?_;intro R Q;have i:V (aE [k]) I I:=V.refl _ _;have x:=T.refl k I.size;have F:=d.le;refine G.L (fun au=>?_);refine o.aR 2 ?_;refine au (G.t1 (fun am=>G.L (fun K=>?_)));refine o.W ?_;refine o.v1 ((bG).fC (by decide)) ?_;refine o.ax 8 ?_;refine o.nil (K ?_);refine dB ?_;refine G.skip (am (G.L (fun ap=>?_)));refine o.ax 3 ?_;refine o.v1 (fy dN) ?_;refine o.v1 (Y.hx rfl gl gT rfl) ?_;refine aV lT (dz.l5 _ _ _ 4 _ w0 _ d (by decide) (by omega)) (fun j L M=>?_);obtain⟨j,B,rfl,d,H,A⟩:=M;have C:T k I.size B:=T.L (x) H i.size;replace i:=i.aJ A (ag.J (aq.r x));have S:=A.size;have F:=d.le;obtain⟨W,rfl⟩:∃s:aM,j=s.v:=⟨cg j,d.bm.symm⟩;refine o.W ?_;refine o.aO (Z.pN d rfl dv Tryz.underlying9 rfl rfl (by simp[dR];omega)) fun E X N=>?_;obtain⟨n,d,ac,ad⟩:=N;replace ac:T B L.size n:=ac;replace ad:=ad.md;have O:T k I.size n:=T.L (C) ac i.size;replace i:=i.aJ ad (ag.J (aq.r C));obtain⟨P,rfl⟩:∃s:aM,E=s.v:=⟨cg E,d.bm.symm⟩;refine o.aR 2 ?_;refine ap ?_;refine G.ret (Q ?_);exact⟨P,n,rfl,by rw[fU,←List.append_assoc];exact d,O,i⟩
theorem xJ(k:Nat)(s:aM)(xs:List UInt8)(x:Int)(w0:World)(I:Heap)
 (d:aU k 5 I a1 1 s.v xs) (O:xs.length≤549755813888) (N:0≤x∧x≤255):
 aC Tryz.prog w0 189 #[s.v,.int .i64 1,.int .i64 x] I (fun r j=>∃s2:aM,∃a8:Nat,r= .tuple #[s2.v,.bool true]∧(aU a8 5 j a1 1 s2.v (xs++cj 1 (UInt64.ofNat x.toNat)))∧(T k I.size a8)∧V (aE [k]) I j):=by
 refine aC.aK [s.v,.int .i64 1,.int .i64 x] Tryz.func189 ?_;intro K H;have i:V (aE [k]) I I:=V.refl _ _;have n:=T.refl k I.size;have L:=d.le;refine G.L (fun A=>?_);refine o.aR 2 ?_;refine A (G.t1 (fun B=>G.L (fun C=>?_)));refine o.W ?_;refine o.v1 ((bG).fC (by omega)) ?_;refine o.ax 3 ?_;refine o.an (Y.cast (v2:= .int .i64 8) (Y.jz rfl rfl rfl (by decide)) (rfl)) ?_;refine o.an (Y.cast (v2:= .int .i64 256) (Y.k1 (8) rfl rfl rfl rfl (by decide) (by decide)) (rfl)) ?_;refine o.an ((dH).fC (by omega)) ?_;refine o.dF ?_;refine o.nil (C ?_);refine dB ?_;refine G.skip (B (G.L (fun E=>?_)));refine o.ax 2 ?_;refine o.v1 (Y.cast (v2:= .int .i64 ((x).toNat:Nat)) fp (fJ (by omega))) ?_;refine o.v1 (Y.hx rfl gl gT rfl) ?_;refine aV lT (dz.l5 _ _ _ 1 _ w0 _ d (by decide) (by omega)) (fun ac M F=>?_);obtain⟨ac,q,rfl,d,ad,t⟩:=F;have au:T k I.size q:=T.L (n) ad i.size;replace i:=i.aJ t (ag.J (aq.r n));obtain⟨am,rfl⟩:∃s:aM,ac=s.v:=⟨cg ac,d.bm.symm⟩;refine o.aR 2 ?_;refine E ?_;refine G.ret (H ?_);exact⟨am,q,rfl,d,au,i⟩
theorem xK(k:Nat)(s:aM)(xs:List UInt8)(x:Int)(w0:World)(I:Heap)
 (d:aU k 5 I a1 1 s.v xs) (O:xs.length≤549755813888) (N:0≤x∧x≤65535):
 aC Tryz.prog w0 189 #[s.v,.int .i64 2,.int .i64 x] I (fun r j=>∃s2:aM,∃a8:Nat,r= .tuple #[s2.v,.bool true]∧(aU a8 5 j a1 1 s2.v (xs++cj 2 (UInt64.ofNat x.toNat)))∧(T k I.size a8)∧V (aE [k]) I j):=by
 refine aC.aK [s.v,.int .i64 2,.int .i64 x] Tryz.func189 ?_;intro K H;have i:V (aE [k]) I I:=V.refl _ _;have n:=T.refl k I.size;have L:=d.le;refine G.L (fun A=>?_);refine o.aR 2 ?_;refine A (G.t1 (fun B=>G.L (fun C=>?_)));refine o.W ?_;refine o.v1 ((bG).fC (by omega)) ?_;refine o.ax 3 ?_;refine o.an (Y.cast (v2:= .int .i64 16) (Y.jz rfl rfl rfl (by decide)) (rfl)) ?_;refine o.an (Y.cast (v2:= .int .i64 65536) (Y.k1 (16) rfl rfl rfl rfl (by decide) (by decide)) (rfl)) ?_;refine o.an ((dH).fC (by omega)) ?_;refine o.dF ?_;refine o.nil (C ?_);refine dB ?_;refine G.skip (B (G.L (fun E=>?_)));refine o.ax 2 ?_;refine o.v1 (Y.cast (v2:= .int .i64 ((x).toNat:Nat)) fp (fJ (by omega))) ?_;refine o.v1 (Y.hx rfl gl gT rfl) ?_;refine aV lT (dz.l5 _ _ _ 2 _ w0 _ d (by decide) (by omega)) (fun ac M F=>?_);obtain⟨ac,q,rfl,d,ad,t⟩:=F;have au:T k I.size q:=T.L (n) ad i.size;replace i:=i.aJ t (ag.J (aq.r n));obtain⟨am,rfl⟩:∃s:aM,ac=s.v:=⟨cg ac,d.bm.symm⟩;refine o.aR 2 ?_;refine E ?_;refine G.ret (H ?_);exact⟨am,q,rfl,d,au,i⟩
set_option maxHeartbeats 1600000 in
theorem GX(k:Nat)(s:aM)(xs:List UInt8)(x:cY)(F:Nat→Prop)(w0:World)(I:Heap)
 (d:aU k 5 I a1 1 s.v xs) (e3:xs.length≤274877906944) (A:Rd F I c4 33 x.cM.v x.a6) (S:bg F I.size) (f2:ay F k) (aK:0≤x.k∧x.k≤255) (dS:x.k≠0→oa x):
 aC Tryz.prog w0 122 #[s.v,eo x] I (fun r bn=>∃s2:aM,∃a8:Nat,r= .tuple #[s2.v,.bool true]∧(aU a8 5 bn a1 1 s2.v (xs++ka x))∧(T k I.size a8)∧V (aE [k]) I bn):=by
 refine aC.aK [s.v,eo x] Tryz.func122 ?_;intro dY bm;have q:V (aE [k]) I I:=V.refl _ _;have ac:=T.refl k I.size;have C:=d.le;have e2:=A.len;refine G.L (fun b7=>?_);refine o.aO cr ?_;rintro v3 bo ⟨rfl,j,ae,eA,b8⟩;have ea:bo.size=I.size+1:=by rw[b8];simp
 have bX:af k (I.size+1):=af.new d.le;replace d:=d.M ae;replace A:=A.M ae;replace q:=q.bc ae;have eC:=ae.size;replace j:Var 29 bo I.size (dT x):=j;refine o.aR 2 ?_;refine b7 (G.L (fun ca=>?_));refine o.W ?_;refine o.v1 (Y.ai j.N rfl bu rfl b1) ?_;refine o.v1 (ar j.N cd) ?_;refine aV pV (xJ _ _ _ x.k w0 _ d (by omega) aK) (fun eD eF cK=>?_);have dj:=j.lt;obtain⟨dk,a6,rfl,d,a7,aA⟩:=cK;have bZ:=ay.app (f2) (S.mono q.size) a7;have b0:af (I.size+1) a6:=af.app (bX.symm) dj a7;have bk:T k I.size a6:=T.L (ac) a7 q.size;replace A:=A.ab aA (az.J f2);replace j:=j.ab aA (ah.J bX.symm);replace q:=q.aJ aA (ag.J (aq.r ac));have eG:=aA.size;have C:=d.le;refine o.W ?_;refine o.v1 cN ?_;refine o.v1 cN ?_;refine o.aR 2 ?_;refine ca (G.t2 (fun dm dp=>G.L (fun ce=>?_)));refine o.W ?_;refine o.v1 eI ?_;refine o.W ?_;refine o.an (Y.ai j.N rfl bu rfl b1) ?_;refine o.an (ar j.N cd) ?_;refine o.an b9 ?_;refine o.dF ?_;refine o.nil (ce ?_);refine aT (fun dq=>?_) (fun dq=>?_)
 ·
  have W:x.k=0:=by omega
  refine G.L (fun dt=>?_);refine o.aR 4 ?_;refine dt ?_;refine G.ret (dp (bm ?_));exact⟨dk,a6,rfl,by rw[tA W];exact d,bk,q⟩
 ·
  have W:x.k≠0:=by omega
  have he:=dS W;have eZ:=he.br;have e0:=he.a6;have dN:=he.dn;have dP:=he.md;refine G.skip (dm (G.L (fun dX=>?_)));refine o.W ?_;refine o.v1 (Y.ai j.N rfl bu rfl bO) ?_;refine o.v1 (ar (j.N.drop 1) bL) ?_;refine aV oD (tJ _ _ _ x.br w0 _ d (by simp only[List.length_append,dR,hc,x.bX.2,x.bo.2];omega) (by omega)) (fun eH X ci=>?_);have cL:=j.lt;obtain⟨eJ,P,rfl,d,bb,aF⟩:=ci;have bt:=ay.app (bZ) (S.mono q.size) bb;have Q:af (I.size+1) P:=af.app (b0) cL bb;have bw:T k I.size P:=T.L (bk) bb q.size;replace A:=A.ab aF (az.J bZ);replace j:=j.ab aF (ah.J b0);replace q:=q.aJ aF (ag.J (aq.r bk));have eK:=aF.size;have C:=d.le;refine o.W ?_;refine o.v1 cN ?_;refine o.v1 cN ?_;refine o.aj ?_;refine dX (G.t1 (fun dw=>?_));refine dC (fun N=>V (aE [P]) X N) [] ?_;have B:V (aE [P]) X X:=V.refl _ _;have bx:=T.refl P X.size;refine O.W 0 rfl B ?_;refine O.t1 1 rfl (fun N K=>Y.fieldAddr (j.ab K (ah.J Q)).N rfl bu rfl rfl a_ (by decide) rfl) B ?_;refine O.t1 2 rfl (fun N K=>Y.cast (v2:=bs x.bX) (aW (((j.ab K (ah.J Q)).N.drop 2).take 32) b_ a_ (by rw[hA];exact bB _)) (b6 (hA _))) B ?_;refine O.t1 4 rfl (fun N K=>Y.fieldAddr (j.ab K (ah.J Q)).N rfl bu rfl rfl a_ (by decide) rfl) B ?_;refine O.t1 5 rfl (fun N K=>Y.cast (v2:=bs x.bo) (aW (((j.ab K (ah.J Q)).N.drop 34).take 32) b_ a_ (by rw[hz];exact bB _)) (b6 (hz _))) B ?_;refine O.aY 3 ?_;refine ch nt (nY _ _ _ x.bX w0 _ d (by simp only[List.length_append,dR,hc,x.bX.2,x.bo.2];omega)) (fun eL ai dx=>?_);have cM:=j.lt;obtain⟨eM,R,rfl,d,au,Z⟩:=dx;have bz:=ay.app (bt) (S.mono q.size) au;have bA:af (I.size+1) R:=af.app (Q) cM au;have bC:T k I.size R:=T.L (bw) au q.size;have bT:T P X.size R:=T.L (bx) au B.size;replace A:=A.ab Z (az.J bt);replace j:=j.ab Z (ah.J Q);replace q:=q.aJ Z (ag.J (aq.r bw));replace B:=B.aJ Z (ag.J (aq.r bx));have eb:=Z.size;have C:=d.le;refine O.b3 B (ag.J (aq.r bT)) ?_;have B:V (aE [R]) ai ai:=V.refl _ _;have bE:=T.refl R ai.size;refine O.aY 6 ?_;refine ch nt (nY _ _ _ x.bo w0 _ d (by simp only[List.length_append,dR,hc,x.bX.2,x.bo.2];omega)) (fun ec be dy=>?_);have bY:=j.lt;obtain⟨ed,aj,rfl,d,am,aa⟩:=dy;have bF:=ay.app (bz) (S.mono q.size) am;have bH:af (I.size+1) aj:=af.app (bA) bY am;have bJ:T k I.size aj:=T.L (bC) am q.size;have cO:T R ai.size aj:=T.L (bE) am B.size;replace A:=A.ab aa (az.J bz);replace j:=j.ab aa (ah.J bA);replace q:=q.aJ aa (ag.J (aq.r bC));replace B:=B.aJ aa (ag.J (aq.r bE));have dE:=aa.size;have C:=d.le;refine O.b3 B (ag.J (aq.r cO)) ?_;have B:V (aE [aj]) be be:=V.refl _ _;refine O.t1 7 rfl (fun N K=>ev) B ?_;refine cD ?_;refine dw (G.L (fun dD=>?_));refine o.W ?_;refine o.v1 (Y.ai j.N rfl bu rfl en) ?_;refine o.v1 (ar j.N.fL ff) ?_;refine o.v1 (ba A fm) ?_;refine o.v1 (Y.hx rfl gl gT rfl) ?_;refine aV lT (dz.l5 _ _ _ 2 _ w0 _ d (by decide) (by simp only[List.length_append,dR,hc,x.bX.2,x.bo.2];omega)) (fun bl a9 dF=>?_);have bi:=j.lt;obtain⟨bl,L,rfl,d,bc,aH⟩:=dF;have bM:=ay.app (bF) (S.mono q.size) bc;have bN:af (I.size+1) L:=af.app (bH) bi bc;have bP:T k I.size L:=T.L (bJ) bc q.size;replace A:=A.ab aH (az.J bF);replace j:=j.ab aH (ah.J bH);replace q:=q.aJ aH (ag.J (aq.r bJ));have ef:=aH.size;have C:=d.le;obtain⟨co,rfl⟩:∃s:aM,bl=s.v:=⟨cg bl,d.bm.symm⟩;refine o.aj ?_;refine dD (G.t1 (fun dG=>G.L (fun cP=>?_)));refine o.aj ?_;refine cP (G.aB (fun _ aB _=>?_))
  refine G.bd (fun(dW:(Nat)×(aM)×(Nat)×(List UInt8))=>match dW with|(i,s1,M,ys)=>[(0,s1.v),(3,.pointer (some ⟨I.size,0,none⟩)),(6,.bool true),(7,.int .i64 (i:Int))])
   (fun(i,s1,M,ys) (H:Heap)=>(i≤x.a6.length)∧(aU M 5 H a1 1 s1.v ys)∧(ys=xs++cj 1 (UInt64.ofNat x.k.toNat)++fU 1 x.br++x.bX.1++x.bo.1++cj 2 (UInt64.ofNat x.a6.length)++(x.a6.take i).flatMap kb)∧(T L a9.size M)∧V (aE [L]) a9 H)
   (fun(i,s1,M,ys)=>x.a6.length-i) (0,co,L,xs++cj 1 (UInt64.ofNat x.k.toNat)++fU 1 x.br++x.bX.1++x.bo.1++cj 2 (UInt64.ofNat x.a6.length)) ⟨rfl,rfl,rfl,rfl,trivial⟩ ?_ ?_
  ·
   exact⟨(by omega),d,(by simp),T.refl _ _,V.refl _ _⟩
  rintro⟨i,s1,M,ys⟩ eg dH eh cQ cS;obtain⟨e1,d,ab,an,E⟩:=dH;have cT:=ay.app (bM) (S.mono q.size) an;have aO:af (I.size+1) M:=af.app (bN) j.lt an;have bQ:T k I.size M:=T.L (bP) an q.size;replace A:=A.ab E (az.J bM);replace j:=j.ab E (ah.J bN);replace q:=q.aJ E (ag.J (aq.r bP));have cE:=E.size;have C:=d.le;have a0:=an;have e4:ys.length≤xs.length+3000000:=by have K:=mP (f:=kb) (n:=33) (l:=x.a6.take i) (fun x _=>by rw[q8];omega);rw[List.length_take]at K;rw[ab];simp only[List.length_append,dR,hc,x.bX.2,x.bo.2];omega
  refine G.t2 (fun cV cZ=>G.L (fun c0=>?_));refine o.W ?_;refine o.v1 (Y.ai j.N rfl bu rfl en) ?_;refine o.v1 (ar j.N.fL ff) ?_;refine o.v1 (ba A fm) ?_;refine o.v1 bG (o.nil (c0 ?_));refine aT (fun dI=>?_) (fun dI=>?_)
  ·
   refine G.skip (cV (G.t1 (fun c1=>G.aB (fun c2 _ _=>G.L (fun c3=>?_)))));refine o.W ?_;refine o.v1 (Y.ai j.N rfl bu rfl en) ?_;refine o.v1 (ar j.N.fL ff) ?_;refine o.W ?_;have b5:i<x.a6.length:=by omega
   obtain⟨t,aN⟩:∃t,t=x.a6[i]:=⟨_,rfl⟩;have dQ:=he.dd t (by rw[aN];exact List.getElem_mem b5);refine o.bR (Y.bJ A (i) rfl fm ha rfl rfl) fun cs a2=>?_;refine o.v1 (Y.ai a2.N rfl jE rfl b1) ?_;refine o.v1 (Y.cast (v2:= .int .i64 t.d) (ar (a2.N.drop 0) cd) (by rw[aN])) ?_;refine aV pV (xJ _ _ _ t.d w0 _ d (by omega) dQ) (fun ei ej dJ=>?_);obtain⟨eN,dA,rfl,d,bv,ap⟩:=dJ;have a3:T L a9.size dA:=T.L (a0) bv E.size;replace A:=A.ab ap (az.J cT);replace j:=j.ab ap (ah.J aO);replace E:=E.aJ ap (ag.J (aq.r a0));have eR:=ap.size;have C:=d.le;refine o.W ?_;refine o.v1 cN ?_;refine o.v1 cN ?_;refine o.aR 2 ?_;refine c3 (G.t1 (fun c5=>G.L (fun c6=>?_)));refine o.W ?_;refine o.v1 eI (o.nil (c6 ?_));refine dB ?_;refine G.skip (c5 (G.region ?_));refine o.W ?_;refine o.v1 (Y.ai j.N rfl bu rfl en) ?_;refine o.v1 (ar j.N.fL ff) ?_;refine o.W ?_;refine o.bR (Y.bJ A (i) rfl fm ha rfl rfl) fun eO a4=>?_;refine o.v1 (Y.ai a4.N rfl jE rfl a_) ?_;refine o.v1 (Y.cast (v2:=bs t.i) (aW ((a4.N.drop 1).take 32) b_ a_ (by rw[kP];exact bB _)) ((by rw[aN];exact b6 (kP _)))) ?_;refine aV nt (nY _ _ _ t.i w0 _ d (by rw[List.length_append,dR];omega)) (fun bf ee dK=>?_);obtain⟨dL,b2,rfl,d,c_,a5⟩:=dK;have cb:T L a9.size b2:=T.L (a3) c_ E.size;replace E:=E.aJ a5 (ag.J (aq.r a3));have eS:=a5.size;have C:=d.le;refine o.aj ?_;refine c2 (c1 (G.region ?_));refine o.W ?_;refine o.v1 bD ?_;refine o.aj ?_;refine aP.sub (cQ (i+1,dL,b2,ys++cj 1 (UInt64.ofNat t.d.toNat)++t.i.1) _ ?_ ?_) ⟨rfl,rfl,rfl,(aD (by omega)),trivial⟩
   ·exact⟨(by omega),d,(by rw[nE b5,←aN,ab,kb];simp only[List.append_assoc]),cb,E⟩
   ·first|omega|(simp only;omega)|(simp;omega)
  ·
   obtain rfl:i=x.a6.length:=by omega
   rw[List.take_length]at ab;refine G.exit (cZ (cS (aB ?_)));refine dG (G.L (fun cc=>?_));refine o.W ?_;refine o.v1 (Y.ai j.N rfl bu rfl b1) ?_;refine o.v1 (ar j.N.ir cd) ?_;refine aV pV (xK _ _ _ x.dn w0 _ d (by omega) dN) (fun gO eT dM=>?_);have cf:=j.lt;obtain⟨eU,b3,rfl,d,bp,aQ⟩:=dM;have cl:af (I.size+1) b3:=af.app (aO) cf bp;have bq:T k I.size b3:=T.L (bQ) bp q.size;replace j:=j.ab aQ (ah.J aO);replace q:=q.aJ aQ (ag.J (aq.r bQ));have ek:=aQ.size;have C:=d.le;refine o.W ?_;refine o.v1 cN ?_;refine o.v1 cN ?_;refine o.aR 2 ?_;refine cc (G.t1 (fun cn=>G.L (fun cp=>?_)));refine o.W ?_;refine o.v1 eI (o.nil (cp ?_));refine dB ?_;refine G.skip (cn (G.L (fun cq=>?_)));refine o.W ?_;refine o.v1 (Y.ai j.N rfl bu rfl b1) ?_;refine o.v1 (ar j.N.jD cd) ?_;refine aV pV (xK _ _ _ x.md w0 _ d (by rw[List.length_append,dR];omega) dP) (fun eV b4 da=>?_);obtain⟨eW,bd,rfl,d,ct,aR⟩:=da;have aI:T k I.size bd:=T.L (bq) ct q.size;replace j:=j.ab aR (ah.J cl);replace q:=q.aJ aR (ag.J (aq.r bq));have ep:=aR.size;have C:=d.le;refine o.W ?_;refine o.v1 cN ?_;refine o.v1 cN ?_;refine o.aR 2 ?_;refine cq (G.t2 (fun cu cv=>G.L (fun cw=>?_)));refine o.v1 (Y.ai j.N rfl bu rfl cW) ?_;refine o.v1 (ar j.N.k3 dr) (o.nil (cw ?_));refine cI (fun db=>?_) (fun db=>?_)
   ·
    refine G.L (fun cy=>?_);refine o.W ?_;refine o.aO (cU _ ([(1:UInt8)]) dv eB fH (rfl)) fun eX bR dc=>?_;obtain⟨dU,aS,er,cz⟩:=dc;have dZ:bR.size=b4.size+1:=by rw[cz];simp
    replace d:=d.M aS;replace q:=q.bc aS;have et:=aS.size;refine o.aO (dO d dU.rd dv (by simp[dR];omega) (by simp[dR];omega)) fun bS dl de=>?_;obtain⟨bh,d,aX,aJ⟩:=de;replace aX:T bd bR.size bh:=aX;replace aJ:=aJ.md;have cB:T k I.size bh:=T.L (aI) aX q.size;replace q:=q.aJ aJ (ag.J (aq.r aI));have eu:=aJ.size;have C:=d.le;obtain⟨df,rfl⟩:∃s:aM,bS=s.v:=⟨cg bS,d.bm.symm⟩;refine o.aR 3 ?_;refine cy ?_;refine G.ret (cv (bm ?_));exact⟨df,bh,rfl,by rw[tB W,if_pos (by assumption),Fo];rw[ab]at d;simpa only[List.append_assoc]using d,cB,q⟩
   ·
    refine G.skip (cu (G.L (fun cC=>?_)));refine o.W ?_;refine o.aO (cU _ ([(0:UInt8)]) dv eB fH (rfl)) fun cJ bU dg=>?_;obtain⟨dV,aY,ew,cG⟩:=dg;have d_:bU.size=b4.size+1:=by rw[cG];simp
    replace d:=d.M aY;replace q:=q.bc aY;have ey:=aY.size;refine o.aO (dO d dV.rd dv (by simp[dR];omega) (by simp[dR];omega)) fun bV eY dh=>?_;obtain⟨bj,d,aZ,aL⟩:=dh;replace aZ:T bd bU.size bj:=aZ;replace aL:=aL.md;have cH:T k I.size bj:=T.L (aI) aZ q.size;replace q:=q.aJ aL (ag.J (aq.r aI));have ez:=aL.size;have C:=d.le;obtain⟨di,rfl⟩:∃s:aM,bV=s.v:=⟨cg bV,d.bm.symm⟩;refine o.aR 3 ?_;refine cC ?_;refine G.ret (bm ?_);exact⟨di,bj,rfl,by rw[tB W,if_neg (by simp_all),Fm];rw[ab]at d;simpa only[List.append_assoc]using d,cH,q⟩
end mq

namespace ng
open E Go.RowKit eJ eN eW e3 ey eX eY fF fG fO fY gg gx gy kF mq dz
set_option maxRecDepth 100000 in
theorem dv:c6 Tryz.prog 57 5 1 1:=⟨Tryz.underlying57,_,_,rfl,rfl,rfl,rfl,rfl⟩
abbrev mO(x:b0):UInt8:=if x.bE=true then 1 else 0
abbrev nD(x:b0):UInt8:=if x.ao=true then 2 else 0
section
variable {H : Heap} {ad : Addr}
theorem _root_.Go.Proofs.YtfjmpninmdjcaaaGreatDoor.E.cc.rb{x:b0}(h:cc H ad (df x)):cc H ((ad.add 4).add 66) (jb x.q++[x.cB.v]):=by
 have:=h.ra.drop 66;rwa[List.drop_append_of_le_length (by rw[ef];omega),wj]at this
end
theorem wA(a b:Bool):[((if a=true then 1 else 0)+(if b=true then 2 else 0):UInt8)]=cj 1 ((if a=true then 1 else 0)|||(if b=true then 2 else 0)):=by
 cases a<;>cases b<;>decide+kernel
theorem Ez(x:b0)(w0:World)(I:Heap)
 (hm:bw I dt 66 x.eL.v x.ml) (E:k_ x) (aY:x.al.length≤140737488355328∧x.q.br.length≤140737488355328):
 aC Tryz.prog w0 118 #[eg x] I (fun r Q=>r= .bool false∧ak I Q):=by
 refine aC.aK [eg x] Tryz.func118 ?_;intro aH aE;have t:ak I I:=V.refl _ _;replace hm:=hm.bt;have aV:=hm.len;obtain⟨P,C⟩:∃b,b=(x.ao&&decide (x.q.k≠0)):=⟨_,rfl⟩;have az:P=true→x.ao=true∧x.q.k≠0:=fun h=>by rw[C,Bool.and_eq_true,decide_eq_true_eq]at h;exact h
 refine G.L (fun au=>?_);refine o.aO cr ?_;rintro v1 H1 ⟨rfl,j,A,aL,am⟩;have aQ:H1.size=I.size+1:=by rw[am];simp
 replace hm:=hm.M A;replace t:=t.L A;have aM:=A.size;replace j:Var 32 H1 I.size (df x):=j;refine o.aj ?_;refine au (G.t1 (fun ap=>G.L (fun ab=>?_)));refine o.v1 (Y.ai j.N rfl bx rfl cW) ?_;refine o.v1 (ar j.N dr) ?_;refine o.W ?_;refine o.join (d:=11) (v:= .bool false) 5 (fun L=>?_) ?_
 ·
  refine o.split (d:=6) rfl (fun g6=>?_) (fun g6=>?_)
  ·
   have aR:=E.al (by simpa using g6);refine o.an (Y.ai j.N rfl bx rfl bO) ?_;refine o.an (ar (j.N.drop 1) bL) ?_;refine o.an (fy dN) ?_;refine o.an ((eT).fC (by omega)) ?_;refine o.N ?_;exact L _ (congrArg (fun b=>some (Value.bool b)) (by simp[g6])) (ae (ae (ae (ae (ae (bC (congrArg Value.bool g6.symm)))))))
  ·
   refine o.ax 5 ?_;exact L _ (congrArg (fun b=>some (Value.bool b)) (by simp[g6])) (ae (ae (ae (ae (ae (bC (congrArg Value.bool g6.symm)))))))
 refine o.W ?_;refine o.an (Y.ai j.N rfl bx rfl cW) ?_;refine o.an (ar (j.N.drop 3) dr) ?_;refine o.bU ?_;refine o.join (d:=20) (v:= .bool P) 5 (fun F=>?_) ?_
 ·
  refine o.split (d:=15) rfl (fun ac=>?_) (fun ac=>?_)
  ·
   refine o.an (Y.ai j.N rfl bx rfl cT) ?_;refine o.an (Y.ai (j.N.drop 4) rfl bu rfl b1) ?_;refine o.an (ar j.N.n2 cd) ?_;refine o.an c1 ?_;refine o.an eh ?_;exact F _ (congrArg (fun b=>some (Value.bool b)) (by rw[C];simp[ac])) (ae (ae (ae (ae (ae (bC (congrArg Value.bool ac.symm)))))))
  ·
   refine o.ax 4 ?_;refine o.an dI ?_;exact F _ (congrArg (fun b=>some (Value.bool b)) (by rw[C];simp[ac])) (ae (ae (ae (ae (ae (bC (congrArg Value.bool ac.symm)))))))
 refine o.bU ?_;refine o.join (d:=27) (v:= .bool false) 6 (fun K=>?_) ?_
 ·
  refine o.split (d:=21) rfl (fun k=>?_) (fun k=>?_)
  ·
   have O:=az (by simpa using k);have aB:=E.h5 O.1 O.2;have aW:=aB.br;refine o.an (Y.ai j.N rfl bx rfl cT) ?_;refine o.an (Y.ai (j.N.drop 4) rfl bu rfl bO) ?_;refine o.an (ar (j.N.ra.drop 1) bL) ?_;refine o.an (fy dN) ?_;refine o.an ((eT).fC (by omega)) ?_;refine o.an eh ?_;exact K _ (congrArg (fun b=>some (Value.bool b)) (by simp[k])) (ae (ae (ae (ae (ae (ae (bC (congrArg Value.bool k.symm))))))))
  ·
   refine o.ax 5 ?_;refine o.an dI ?_;exact K _ (congrArg (fun b=>some (Value.bool b)) (by simp[k])) (ae (ae (ae (ae (ae (ae (bC (congrArg Value.bool k.symm))))))))
 refine o.dF ?_;refine o.nil (ab ?_);refine dB ?_;refine G.skip (ap (G.t1 (fun af=>G.L (fun ag=>?_))));refine o.aj ?_;refine ag (G.aB (fun _ ah _=>?_))
 refine G.bd (fun(i:(Nat))=>[(1,.pointer (some ⟨I.size,0,none⟩)),(3,.int .i64 (i:Int))])
  (fun(i:(Nat)) (H:Heap)=>(i≤x.ml.length)∧ak H1 H)
  (fun(i:(Nat))=>x.ml.length-i) 0 ⟨rfl,rfl,trivial⟩ ?_ ?_
 ·
  exact⟨(by omega),V.refl _ _⟩
 intro i aN ai aF aj an;obtain⟨aS,n⟩:=ai;replace hm:=hm.M n;replace j:=j.M n;replace t:=t.L n;have aO:=n.size;refine G.t2 (fun aq R=>G.L (fun S=>?_));refine o.W ?_;refine o.v1 (Y.ai j.N rfl bx rfl ek) ?_;refine o.v1 (ar (j.N.drop 2) ez) ?_;refine o.v1 (ba hm dG) ?_;refine o.v1 bG (o.nil (S ?_));refine aT (fun T=>?_) (fun T=>?_)
 ·
  refine G.skip (aq (G.t1 (fun W=>G.aB (fun X _ _=>G.L (fun Z=>?_)))));refine o.v1 (Y.ai j.N rfl bx rfl ek) ?_;refine o.v1 (ar (j.N.drop 2) ez) ?_;refine o.W ?_;have ay:i<x.ml.length:=by omega
  obtain⟨y,B⟩:∃q,q=x.ml[i]:=⟨_,rfl⟩;have aA:y∈x.ml:=by rw[B];exact List.getElem_mem ay
  have aX:=E.iM y aA;refine o.bR (Y.bJ hm (i) rfl dG dM rfl rfl) fun aJ M=>?_;refine o.v1 (Y.ai M.N rfl cy rfl bO) ?_;refine o.v1 (Y.cast (v2:=aI y.n) (ar (M.N.drop 0) bL) (by rw[B])) ?_;refine o.v1 (fy dN) ?_;refine o.v1 ((eT).fC (by omega)) ?_;refine o.W ?_;refine o.an (Y.ai j.N rfl bx rfl ek) ?_;refine o.an (ar (j.N.drop 2) ez) ?_;refine o.bU ?_;refine o.e (g:=fun ad=> .pointer (some ad)) (Y.bJ hm (i) rfl dG dM rfl rfl) bh rfl rfl (fun aK N=>?_);refine o.an (Y.ai N.N rfl cy rfl bO) ?_;refine o.an (Y.cast (v2:=aI y.y) (ar (N.N.mV) bL) (by rw[B])) ?_;refine o.an (fy dN) ?_;refine o.an ((eT).fC (by omega)) ?_;refine o.dF ?_;refine o.nil (Z ?_);refine dB ?_;refine G.skip (X (W (G.region ?_)));refine o.W ?_;refine o.v1 bD ?_;refine o.aj ?_;refine aP.sub (aj (i+1) _ ?_ ?_) ⟨rfl,(aD (by omega)),trivial⟩
  ·exact⟨(by omega),n⟩
  ·first|omega|(simp only;omega)|(simp;omega)
 ·
  refine G.exit (R (an (ah ?_)));refine af (G.L (fun aa=>?_));refine o.aj ?_;refine aa ?_;refine G.ret (aE ?_);exact⟨rfl,t⟩
set_option maxHeartbeats 1600000 in
theorem C4(x:b0)(F:Nat→Prop)(w0:World)(I:Heap)
 (n:e6 F I x) (Q:bg F I.size) (K:k_ x) (fC:x.al.length≤140737488355328∧x.q.br.length≤140737488355328):
 aC Tryz.prog w0 44 #[eg x] I (fun r bQ=>∃s2:aM,∃a8:Nat,r= .tuple #[s2.v,.int .i64 0]∧(aU a8 5 bQ a1 1 s2.v (fi x))∧(T 0 I.size a8)∧ak I bQ):=by
 refine aC.aK [eg x] Tryz.func44 ?_;intro fD fA;have t:ak I I:=V.refl _ _;have gE:=n.m.len;have gB:=n.e.len;have aK:=K.ml;have gA:=K.el;have fy:=pa K;obtain⟨c6,bP⟩:∃b,b=(x.ao&&decide (x.q.k≠0)):=⟨_,rfl⟩;have fu:c6=true→x.ao=true∧x.q.k≠0:=fun h=>by rw[bP,Bool.and_eq_true,decide_eq_true_eq]at h;exact h
 refine G.L (fun dW=>?_);refine o.aO cr ?_;rintro v1 H1 ⟨rfl,j,bJ,fW,dZ⟩;have fG:H1.size=I.size+1:=by rw[dZ];simp
 replace n:=n.M bJ;replace t:=t.L bJ;have fX:=bJ.size;replace j:Var 32 H1 I.size (df x):=j;refine o.aR 2 ?_;refine dW (G.t1 (fun dE=>G.L (fun d_=>?_)));refine o.v1 (Y.ai j.N rfl bx rfl ek) ?_;refine o.v1 (ar (j.N.drop 2) ez) ?_;refine o.v1 (ba n.m dG) ?_;refine o.v1 ((eT).fC (by omega)) ?_;refine o.W ?_;refine o.an (Y.ai j.N rfl bx rfl dp) ?_;refine o.an (ar j.N.fT dS) ?_;refine o.an (ba n.e cq) ?_;refine o.an ((eT).fC (by omega)) ?_;refine o.ax 2 ?_;refine o.an (Y.ai j.N rfl bx rfl cW) ?_;refine o.an (ar (j.N.drop 3) dr) ?_;refine o.bU ?_;refine o.join (d:=27) (v:= .bool c6) 5 (fun bR=>?_) ?_
 ·
  refine o.split (d:=22) rfl (fun a5=>?_) (fun a5=>?_)
  ·
   refine o.an (Y.ai j.N rfl bx rfl cT) ?_;refine o.an (Y.ai (j.N.drop 4) rfl bu rfl b1) ?_;refine o.an (ar j.N.n2 cd) ?_;refine o.an c1 ?_;refine o.an eh ?_;exact bR _ (congrArg (fun b=>some (Value.bool b)) (by rw[bP];simp[a5])) (ae (ae (ae (ae (ae (bC (congrArg Value.bool a5.symm)))))))
  ·
   refine o.ax 4 ?_;refine o.an dI ?_;exact bR _ (congrArg (fun b=>some (Value.bool b)) (by rw[bP];simp[a5])) (ae (ae (ae (ae (ae (bC (congrArg Value.bool a5.symm)))))))
 refine o.bU ?_;refine o.join (d:=34) (v:= .bool false) 6 (fun bS=>?_) ?_
 ·
  refine o.split (d:=28) rfl (fun a0=>?_) (fun a0=>?_)
  ·
   have B:=fu (by simpa using a0);have fz:=K.h5 B.1 B.2;have gI:=fz.a6;refine o.an (Y.ai j.N rfl bx rfl cT) ?_;refine o.an (Y.ai (j.N.drop 4) rfl bu rfl en) ?_;refine o.an (ar j.N.rb ff) ?_;refine o.an (ba n.q fm) ?_;refine o.an ((eT).fC (by omega)) ?_;refine o.an eh ?_;exact bS _ (congrArg (fun b=>some (Value.bool b)) (by simp[a0])) (ae (ae (ae (ae (ae (ae (bC (congrArg Value.bool a0.symm))))))))
  ·
   refine o.ax 5 ?_;refine o.an dI ?_;exact bS _ (congrArg (fun b=>some (Value.bool b)) (by simp[a0])) (ae (ae (ae (ae (ae (ae (bC (congrArg Value.bool a0.symm))))))))
 refine o.dF ?_;refine o.nil (d_ ?_);refine dB ?_;refine G.skip (dE (G.t1 (fun ea=>G.L (fun eb=>?_))));refine o.v1 (aW j.N gM fk (dY _)) ?_;refine aV AW (Ez x w0 _ n.m.any K fC) (fun fY bM cE=>?_);obtain⟨rfl,aS⟩:=cE;replace n:=n.M aS;replace j:=j.M aS;replace t:=t.L aS;have fZ:=aS.size;refine o.nil (eb ?_);refine dB ?_;refine G.skip (ea (G.L (fun ec=>?_)));refine o.aj ?_;refine ec ?_
 refine G.cut (fun(_:Unit)=>[(1,.pointer (some ⟨I.size,0,none⟩)),(4,.int .u8 (mO x).toNat)])
  (fun(_:Unit) (H:Heap)=>(True)∧ak bM H) (fun _ cQ _=>?_) ?_
 ·
  have bU:ak bM bM:=V.refl _ _;refine G.L (fun ed=>?_);refine o.v1 (Y.ai j.N rfl bx rfl cW) ?_;refine o.v1 (ar j.N dr) (o.nil (ed ?_));refine cI (fun eN=>?_) (fun eN=>?_)
  ·
   refine G.region ?_;refine o.aj ?_;refine aP.sub (cQ () _ ?_) ⟨rfl,(by first|(rw[mO,if_pos (by assumption)];rfl)|(rw[mO,if_neg (by simp_all)];rfl)),trivial⟩;exact⟨trivial,bU⟩
  ·
   refine G.skip ?_;refine aP.sub (cQ () _ ?_) ⟨rfl,(by first|(rw[mO,if_pos (by assumption)];rfl)|(rw[mO,if_neg (by simp_all)];rfl)),trivial⟩;exact⟨trivial,bU⟩
 ·
  intro _ bF de;obtain⟨fB,bc⟩:=de;replace n:=n.M bc;replace j:=j.M bc;replace t:=t.L bc;have f_:=bc.size
  refine G.cut (fun(_:Unit)=>[(1,.pointer (some ⟨I.size,0,none⟩)),(4,.int .u8 (mO x+nD x).toNat)])
   (fun(_:Unit) (H:Heap)=>(True)∧ak bF H) (fun _ cS _=>?_) ?_
  ·
   have bV:ak bF bF:=V.refl _ _;refine G.L (fun dF=>?_);refine o.v1 (Y.ai j.N rfl bx rfl cW) ?_;refine o.v1 (ar (j.N.drop 3) dr) (o.nil (dF ?_));refine cI (fun fg=>?_) (fun fg=>?_)
   ·
    refine G.region ?_;refine o.W ?_;refine o.v1 (Y.z1 (b:=(UInt8.ofNat 2)) rfl rfl rfl) ?_;refine o.aj ?_;refine aP.sub (cS () _ ?_) ⟨rfl,(by first|(rw[nD,if_pos (by assumption)];rfl)|(rw[nD,if_neg (by simp_all),UInt8.add_zero];rfl)),trivial⟩;exact⟨trivial,bV⟩
   ·
    refine G.skip ?_;refine aP.sub (cS () _ ?_) ⟨rfl,(by first|(rw[nD,if_pos (by assumption)];rfl)|(rw[nD,if_neg (by simp_all),UInt8.add_zero];rfl)),trivial⟩;exact⟨trivial,bV⟩
  ·
   intro _ ac c_;obtain⟨fB,bd⟩:=c_;replace n:=n.M bd;replace j:=j.M bd;replace t:=t.L bd;have ga:=bd.size;refine G.L (fun dH=>?_);refine o.W ?_;refine o.aO (cU _ ([mO x+nD x]) dv eB fH (rfl)) fun cV W bf=>?_;obtain⟨k,aX,ee,dJ⟩:=bf;have fI:W.size=ac.size+1:=by rw[dJ];simp
   have cY:=(ay.new (Q.mono t.size):ay _ (ac.size+1));have cZ:af (I.size+1) (ac.size+1):=af.new j.lt;have c0:T 0 I.size (ac.size+1):=T.new t.size;replace n:=n.M aX;replace j:=j.M aX;replace t:=t.L aX;have gd:=aX.size;obtain⟨dd,rfl⟩:∃s:aM,cV=s.v:=⟨cg cV,k.bm.symm⟩;refine o.aj ?_;refine dH ?_
   refine G.cut (fun(Z:(aM)×(Nat))=>match Z with|(s1,aj)=>[(1,.pointer (some ⟨I.size,0,none⟩)),(5,s1.v)])
    (fun(s1,aj) (H:Heap)=>(aU aj 5 H a1 1 s1.v (jk x))∧(T (ac.size+1) W.size aj)∧V (aE [(ac.size+1)]) W H) (fun _ bX _=>?_) ?_
   ·
    have ap:V (aE [(ac.size+1)]) W W:=V.refl _ _;have bA:=T.refl (ac.size+1) W.size;refine G.L (fun dK=>?_);refine o.v1 (Y.ai j.N rfl bx rfl cW) ?_;refine o.v1 (ar j.N dr) (o.nil (dK ?_));refine cI (fun bk=>?_) (fun bk=>?_)
    ·
     refine G.region ?_;refine o.W ?_;refine o.v1 (Y.ai j.N rfl bx rfl bO) ?_;refine o.v1 (ar (j.N.drop 1) bL) ?_;refine aV oD (tJ _ _ _ x.al w0 _ k (by simp) (by have:=K.al bk;omega)) (fun gf gg fh=>?_);obtain⟨gO,c2,rfl,k,dL,a9⟩:=fh;have dN:T (ac.size+1) W.size c2:=T.L (bA) dL ap.size;replace ap:=ap.aJ a9 (ag.J (aq.r bA));have gh:=a9.size;have L:=k.le;refine o.W ?_;refine o.v1 cN ?_;refine o.v1 cN ?_;refine o.aj ?_;refine aP.sub (bX (gO,c2) _ ?_) ⟨rfl,rfl,trivial⟩;exact⟨(by rw[jk,if_pos bk,qj,←wA];exact k),dN,ap⟩
    ·
     refine G.skip ?_;refine aP.sub (bX (dd,(ac.size+1)) _ ?_) ⟨rfl,rfl,trivial⟩;exact⟨(by rw[jk,if_neg (by simp[bk]),List.append_nil,qj,←wA];exact k),bA,ap⟩
   ·
    rintro⟨s1,aj⟩ fE db;obtain⟨k,C,au⟩:=db;have b7:=ay.app (cY) (Q.mono t.size) C;have cu:af (I.size+1) aj:=af.app (cZ) j.lt C;have cv:T 0 I.size aj:=T.L (c0) C t.size;replace n:=n.ab au (az.J cY);replace j:=j.ab au (ah.J cZ);replace t:=t.bl au (ag.J (aq.q c0));have gi:=au.size;have L:=k.le;refine G.L (fun dO=>?_);refine o.W ?_;refine o.v1 (Y.ai j.N rfl bx rfl ek) ?_;refine o.v1 (ar (j.N.drop 2) ez) ?_;refine o.v1 (ba n.m dG) ?_;refine o.v1 (Y.hx rfl gl gT rfl) ?_;refine aV lT (dz.l5 _ _ _ 2 _ w0 _ k (by decide) (by omega)) (fun bN a2 fj=>?_);have dP:=j.lt;obtain⟨bN,R,rfl,k,bq,aY⟩:=fj;have cw:=ay.app (b7) (Q.mono t.size) bq;have bT:af (I.size+1) R:=af.app (cu) dP bq;have be:T 0 I.size R:=T.L (cv) bq t.size;replace n:=n.ab aY (az.J b7);replace j:=j.ab aY (ah.J cu);replace t:=t.bl aY (ag.J (aq.q cv));have gj:=aY.size;have L:=k.le;obtain⟨fl,rfl⟩:∃s:aM,bN=s.v:=⟨cg bN,k.bm.symm⟩;refine o.aj ?_;refine dO (G.t1 (fun dQ=>G.L (fun dg=>?_)));refine o.aj ?_;refine dg (G.aB (fun _ dh _=>?_))
    refine G.bd (fun(Z:(Nat)×(aM)×(Nat))=>match Z with|(i,an,M)=>[(1,.pointer (some ⟨I.size,0,none⟩)),(5,an.v),(6,.int .i64 (i:Int))])
     (fun(i,an,M) (H:Heap)=>(i≤x.ml.length)∧(aU M 5 H a1 1 an.v ((jk x++cj 2 (UInt64.ofNat x.ml.length)++(x.ml.take i).flatMap iN)))∧(T R a2.size M)∧V (aE [R]) a2 H)
     (fun(i,an,M)=>x.ml.length-i) (0,fl,R) ⟨rfl,rfl,rfl,trivial⟩ ?_ ?_
    ·
     exact⟨(by omega),(by simpa using k),T.refl _ _,V.refl _ _⟩
    rintro⟨i,an,M⟩ a3 fo gk di dj;obtain⟨fr,k,C,E⟩:=fo;have aF:=ay.app (cw) (Q.mono t.size) C;have aZ:af (I.size+1) M:=af.app (bT) j.lt C;have bt:T 0 I.size M:=T.L (be) C t.size;replace n:=n.ab E (az.J cw);replace j:=j.ab E (ah.J bT);replace t:=t.bl E (ag.J (aq.q be));have gm:=E.size;have L:=k.le;have bY:=C;have ft:=sM K i;have c5:(jk x++cj 2 (UInt64.ofNat x.ml.length)++(x.ml.take i).flatMap iN).length≤4400000000:=by simp only[List.length_append,dR];omega
    refine G.t2 (fun dk dm=>G.L (fun dq=>?_));refine o.W ?_;refine o.v1 (Y.ai j.N rfl bx rfl ek) ?_;refine o.v1 (ar (j.N.drop 2) ez) ?_;refine o.v1 (ba n.m dG) ?_;refine o.v1 bG (o.nil (dq ?_));refine aT (fun fp=>?_) (fun fp=>?_)
    ·
     refine G.skip (dk (G.t1 (fun dt=>G.aB (fun dw _ _=>G.L (fun dx=>?_)))));refine o.W ?_;refine o.v1 (Y.ai j.N rfl bx rfl ek) ?_;refine o.v1 (ar (j.N.drop 2) ez) ?_;refine o.W ?_;have aR:i<x.ml.length:=by omega
     obtain⟨y,N⟩:∃q,q=x.ml[i]:=⟨_,rfl⟩;have bm:y∈x.ml:=by rw[N];exact List.getElem_mem aR
     have gH:=K.iM y bm;refine o.bR (Y.bJ n.m (i) rfl dG dM rfl rfl) fun gn cz=>?_;refine o.v1 (Y.ai cz.N rfl cy rfl bO) ?_;refine o.v1 (Y.cast (v2:=aI y.n) (ar (cz.N.drop 0) bL) (by rw[N])) ?_;refine aV oD (tJ _ _ _ y.n w0 _ k (by omega) (by omega)) (fun d0 aQ dl=>?_);have dT:=j.lt;obtain⟨d1,a4,rfl,k,bw,aH⟩:=dl;have ab:=ay.app (aF) (Q.mono t.size) bw;have ai:af (I.size+1) a4:=af.app (aZ) dT bw;have bi:T R a2.size a4:=T.L (bY) bw E.size;replace n:=n.ab aH (az.J aF);replace j:=j.ab aH (ah.J aZ);replace t:=t.bl aH (ag.J (aq.q bt));replace E:=E.aJ aH (ag.J (aq.r bY));have cJ:=aH.size;have L:=k.le;refine o.W ?_;refine o.v1 cN ?_;refine o.v1 cN ?_;refine o.aj ?_;refine dx (G.t1 (fun eO=>?_));refine dC (fun P=>V (aE [a4]) aQ P) [] ?_;have A:V (aE [a4]) aQ aQ:=V.refl _ _;have cB:=T.refl a4 aQ.size;refine O.W 0 rfl A ?_;refine O.t1 1 rfl (fun P B=>Y.fieldAddr (j.ab B (ah.J ai)).N rfl bx rfl rfl ek (by decide) rfl) A ?_;refine O.t1 2 rfl (fun P B=>ar ((j.ab B (ah.J ai)).N.drop 2) ez) A ?_;refine O.W 3 rfl A ?_;refine O.e (g:=fun ad=> .pointer (some ad)) 4 (by kernel_rfl) rfl (by kernel_rfl) (by kernel_rfl) (by kernel_rfl) (Y.bJ n.m (i) rfl dG dM rfl rfl) cR rfl rfl A (fun dn aB=>?_);refine O.t1 5 rfl (fun P B=>Y.fieldAddr (aB.ab B (az.J ab)).N rfl cy rfl rfl a_ (by decide) rfl) A ?_;refine O.t1 6 rfl (fun P B=>Y.cast (v2:=bs y.J) (aW (((aB.ab B (az.J ab)).N.drop 1).take 32) b_ a_ (by rw[gY];exact bB _)) ((by rw[N];exact b6 (gY _)))) A ?_;refine O.t1 8 rfl (fun P B=>Y.fieldAddr (j.ab B (ah.J ai)).N rfl bx rfl rfl ek (by decide) rfl) A ?_;refine O.t1 9 rfl (fun P B=>ar ((j.ab B (ah.J ai)).N.drop 2) ez) A ?_;refine O.W 10 rfl A ?_;refine O.e (g:=fun ad=> .pointer (some ad)) 11 (by kernel_rfl) rfl (by kernel_rfl) (by kernel_rfl) (by kernel_rfl) (Y.bJ n.m (i) rfl dG dM rfl rfl) cR rfl rfl A (fun gp cC=>?_);refine O.t1 12 rfl (fun P B=>Y.fieldAddr (cC.ab B (az.J ab)).N rfl cy rfl rfl a_ (by decide) rfl) A ?_;refine O.t1 13 rfl (fun P B=>Y.cast (v2:=bs y.w) (aW (((cC.ab B (az.J ab)).N.drop 33).take 32) b_ a_ (by rw[e1];exact bB _)) ((by rw[N];exact b6 (e1 _)))) A ?_;refine O.aY 7 ?_;refine ch nt (nY _ _ _ y.J w0 _ k (by rw[List.length_append,hc];omega)) (fun d2 bl fq=>?_);have eR:=j.lt;obtain⟨d3,aa,rfl,k,a6,aJ⟩:=fq;have eU:=ay.app (ab) (Q.mono t.size) a6;have eV:af (I.size+1) aa:=af.app (ai) eR a6;have cG:T R a2.size aa:=T.L (bi) a6 E.size;have ce:T a4 aQ.size aa:=T.L (cB) a6 A.size;replace n:=n.ab aJ (az.J ab);replace j:=j.ab aJ (ah.J ai);replace E:=E.aJ aJ (ag.J (aq.r bi));replace A:=A.aJ aJ (ag.J (aq.r cB));have gb:=aJ.size;have L:=k.le;refine O.b3 A (ag.J (aq.r ce)) ?_;have A:V (aE [aa]) bl bl:=V.refl _ _;have cH:=T.refl aa bl.size;refine O.aY 14 ?_;refine ch nt (nY _ _ _ y.w w0 _ k (by rw[List.length_append,List.length_append,hc,y.J.2];omega)) (fun d4 c3 ds=>?_);obtain⟨d5,bH,rfl,k,cK,aL⟩:=ds;have cL:T R a2.size bH:=T.L (cG) cK E.size;have eW:T aa bl.size bH:=T.L (cH) cK A.size;replace n:=n.ab aL (az.J eU);replace j:=j.ab aL (ah.J eV);replace E:=E.aJ aL (ag.J (aq.r cG));replace A:=A.aJ aL (ag.J (aq.r cH));have gq:=aL.size;have L:=k.le;refine O.b3 A (ag.J (aq.r eW)) ?_;have A:V (aE [bH]) c3 c3:=V.refl _ _;refine O.t1 15 rfl (fun P B=>ev) A ?_;refine cD ?_;refine eO (G.region ?_);refine o.W ?_;refine o.v1 (Y.ai j.N rfl bx rfl ek) ?_;refine o.v1 (ar (j.N.drop 2) ez) ?_;refine o.W ?_;refine o.bR (Y.bJ n.m (i) rfl dG dM rfl rfl) fun gr cM=>?_;refine o.v1 (Y.ai cM.N rfl cy rfl bO) ?_;refine o.v1 (Y.cast (v2:=aI y.y) (ar (cM.N.mV) bL) (by rw[N])) ?_;refine aV oD (HH _ _ _ y.y w0 _ k (by rw[List.length_append,List.length_append,List.length_append,hc,y.J.2,y.w.2];omega) (by omega)) (fun gv gw dX=>?_);obtain⟨ci,cO,rfl,k,dU,bZ⟩:=dX;have eX:T R a2.size cO:=T.L (cL) dU E.size;replace E:=E.aJ bZ (ag.J (aq.r cL));have gx:=bZ.size;have L:=k.le;refine o.W ?_;refine o.v1 cN ?_;refine o.v1 cN ?_;refine o.aj ?_;refine dw (dt (G.region ?_));refine o.W ?_;refine o.v1 bD ?_;refine o.aj ?_;refine aP.sub (di (i+1,ci,cO) _ ?_ ?_) ⟨rfl,rfl,(aD (by omega)),trivial⟩
     ·exact⟨(by omega),(by rw[nE aR,←N,iN];simpa only[List.append_assoc]using k),eX,E⟩
     ·first|omega|(simp only;omega)|(simp;omega)
    ·
     obtain rfl:i=x.ml.length:=by omega
     rw[List.take_length]at k c5;have fy:=pa K;refine G.exit (dm (dj (dh ?_)));refine dQ ?_
     refine G.cut (fun(Z:(aM)×(Nat))=>match Z with|(bn,ib)=>[(1,.pointer (some ⟨I.size,0,none⟩)),(5,bn.v)])
      (fun(bn,ib) (H:Heap)=>(aU ib 5 H a1 1 bn.v (jh x))∧(T M a3.size ib)∧V (aE [M]) a3 H) (fun _ bv _=>?_) ?_
     ·
      have aO:V (aE [M]) a3 a3:=V.refl _ _;have bE:=T.refl M a3.size;refine G.L (fun eY=>?_);refine o.v1 (Y.ai j.N rfl bx rfl cW) ?_;refine o.v1 (ar (j.N.drop 3) dr) (o.nil (eY ?_));refine cI (fun aN=>?_) (fun aN=>?_)
      ·
       refine G.L (fun eZ=>?_);refine o.aj ?_;refine eZ (G.L (fun e0=>?_));refine o.W ?_;refine o.v1 (Y.ai j.N rfl bx rfl cT) ?_;refine o.v1 (Y.cast (v2:=eo x.q) (aW ((j.N.drop 4).take 70) h8 cT (by rw[jc];exact ef _)) (b6 (jc x))) ?_;refine aV AY (GX _ _ _ x.q F w0 _ k (by omega) n.q (Q.mono t.size) (aF) (K.kR aN) (K.h5 aN)) (fun gy gz e2=>?_);obtain⟨co,cP,rfl,k,dV,b2⟩:=e2;have e3:T M a3.size cP:=T.L (bE) dV aO.size;replace aO:=aO.aJ b2 (ag.J (aq.r bE));have fL:=b2.size;have L:=k.le;refine o.W ?_;refine o.v1 cN ?_;refine o.v1 cN ?_;refine o.aR 2 ?_;refine e0 (G.L (fun e4=>?_));refine o.W ?_;refine o.v1 eI (o.nil (e4 ?_));refine dB ?_;refine G.skip ?_;refine aP.sub (bv (co,cP) _ ?_) ⟨rfl,rfl,trivial⟩;exact⟨(by rw[jh,if_pos aN];exact k),e3,aO⟩
      ·
       refine G.skip ?_;refine aP.sub (bv (an,M) _ ?_) ⟨rfl,rfl,trivial⟩;exact⟨(by rw[jh,if_neg (by simp[aN]),List.append_nil];exact k),bE,aO⟩
     ·
      rintro⟨bn,ib⟩ fF dc;obtain⟨k,C,bb⟩:=dc;have b8:=ay.app (aF) (Q.mono t.size) C;have b9:af (I.size+1) ib:=af.app (aZ) j.lt C;have ca:T 0 I.size ib:=T.L (bt) C t.size;replace n:=n.ab bb (az.J aF);replace j:=j.ab bb (ah.J aZ);replace t:=t.bl bb (ag.J (aq.q bt));have fM:=bb.size;have L:=k.le;refine G.L (fun e5=>?_);refine o.W ?_;refine o.v1 (Y.ai j.N rfl bx rfl dp) ?_;refine o.v1 (ar j.N.fT dS) ?_;refine o.v1 (ba n.e cq) ?_;refine o.v1 (Y.hx rfl gl gT rfl) ?_;refine aV lT (dz.l5 _ _ _ 2 _ w0 _ k (by decide) (by have:=qE K;omega)) (fun bz a7 cs=>?_);have e7:=j.lt;obtain⟨bz,X,rfl,k,bp,bh⟩:=cs;have cb:=ay.app (b8) (Q.mono t.size) bp;have cc:af (I.size+1) X:=af.app (b9) e7 bp;have cl:T 0 I.size X:=T.L (ca) bp t.size;replace n:=n.ab bh (az.J b8);replace j:=j.ab bh (ah.J b9);replace t:=t.bl bh (ag.J (aq.q ca));have fN:=bh.size;have L:=k.le;obtain⟨bo,rfl⟩:∃s:aM,bz=s.v:=⟨cg bz,k.bm.symm⟩;refine o.aj ?_;refine e5 (G.t1 (fun dA=>G.L (fun e8=>?_)));refine o.aj ?_;refine e8 (G.aB (fun _ e_ _=>?_))
      refine G.bd (fun(Z:(Nat)×(aM)×(Nat))=>match Z with|(i,aA,S)=>[(1,.pointer (some ⟨I.size,0,none⟩)),(5,aA.v),(8,.int .i64 (i:Int))])
       (fun(i,aA,S) (H:Heap)=>(i≤x.el.length)∧(aU S 5 H a1 1 aA.v (jh x++cj 2 (UInt64.ofNat x.el.length)++(x.el.take i).flatMap iL))∧(T X a7.size S)∧V (aE [X]) a7 H)
       (fun(i,aA,S)=>x.el.length-i) (0,bo,X) ⟨rfl,rfl,rfl,trivial⟩ ?_ ?_
      ·
       exact⟨(by omega),(by simpa using k),T.refl _ _,V.refl _ _⟩
      rintro⟨i,aA,S⟩ d6 fe d7 fa fc;obtain⟨fr,k,C,am⟩:=fe;have ei:=ay.app (cb) (Q.mono t.size) C;have ej:af (I.size+1) S:=af.app (cc) j.lt C;have ep:T 0 I.size S:=T.L (cl) C t.size;replace n:=n.ab am (az.J cb);replace j:=j.ab am (ah.J cc);replace t:=t.bl am (ag.J (aq.q cl));have fO:=am.size;have L:=k.le;have cn:=C;have ft:=vO K i;have gF:=qE K;have gC:=K.el;have c5:(jh x++cj 2 (UInt64.ofNat x.el.length)++(x.el.take i).flatMap iL).length≤8800000000:=by simp only[List.length_append,dR];omega
      refine G.t2 (fun er et=>G.L (fun eu=>?_));refine o.W ?_;refine o.v1 (Y.ai j.N rfl bx rfl dp) ?_;refine o.v1 (ar j.N.fT dS) ?_;refine o.v1 (ba n.e cq) ?_;refine o.v1 bG (o.nil (eu ?_));refine aT (fun ew=>?_) (fun ew=>?_)
      ·
       refine G.skip (er (G.t1 (fun ey=>G.aB (fun eC _ _=>G.L (fun eD=>?_)))));refine o.W ?_;refine o.v1 (Y.ai j.N rfl bx rfl dp) ?_;refine o.v1 (ar j.N.fT dS) ?_;refine o.W ?_;have aR:i<x.el.length:=by omega
       obtain⟨y,N⟩:∃q,q=x.el[i]:=⟨_,rfl⟩;have bm:y∈x.el:=by rw[N];exact List.getElem_mem aR
       have gG:=K.md y bm;refine o.bR (Y.bJ n.e (i) rfl cq cf rfl rfl) fun fJ b3=>?_;refine o.v1 (Y.ai b3.N rfl eS rfl a_) ?_;refine o.v1 (Y.cast (v2:=bs y.k) (aW ((b3.N.drop 0).take 32) b_ a_ (by rw[eK];exact bB _)) ((by rw[N];exact b6 (eK _)))) ?_;refine aV nt (nY _ _ _ y.k w0 _ k (by omega)) (fun fP fQ eF=>?_);obtain⟨fR,eG,rfl,k,dy,bj⟩:=eF;have cp:T X a7.size eG:=T.L (cn) dy am.size;replace n:=n.ab bj (az.J ei);replace j:=j.ab bj (ah.J ej);replace am:=am.aJ bj (ag.J (aq.r cn));have fS:=bj.size;have L:=k.le;refine o.aj ?_;refine eD (G.region ?_);refine o.W ?_;refine o.v1 (Y.ai j.N rfl bx rfl dp) ?_;refine o.v1 (ar j.N.fT dS) ?_;refine o.W ?_;refine o.bR (Y.bJ n.e (i) rfl cq cf rfl rfl) fun fK b4=>?_;refine o.v1 (Y.ai b4.N rfl eS rfl da) ?_;refine o.v1 (Y.cast (v2:=y.v.v) (ar (b4.N.ji) eA) (by rw[N])) ?_;refine o.v1 (Y.nr (n.d y bm) rfl Tryz.underlying57 Tryz.underlying9 Tryz.underlying5 rfl) ?_;refine aV oD (HI _ _ _ y.d w0 _ k (by rw[List.length_append,y.k.2];omega) (by omega)) (fun fT fU eH=>?_);obtain⟨eJ,ct,rfl,k,dD,b5⟩:=eH;have eL:T X a7.size ct:=T.L (cp) dD am.size;replace am:=am.aJ b5 (ag.J (aq.r cp));have fV:=b5.size;have L:=k.le;refine o.W ?_;refine o.v1 cN ?_;refine o.v1 cN ?_;refine o.aj ?_;refine eC (ey (G.region ?_));refine o.W ?_;refine o.v1 bD ?_;refine o.aj ?_;refine aP.sub (fa (i+1,eJ,ct) _ ?_ ?_) ⟨rfl,rfl,(aD (by omega)),trivial⟩
       ·exact⟨(by omega),(by rw[nE aR,←N,iL];simpa only[List.append_assoc]using k),eL,am⟩
       ·first|omega|(simp only;omega)|(simp;omega)
      ·
       obtain rfl:i=x.el.length:=by omega
       rw[List.take_length]at k;refine G.exit (et (fc (e_ ?_)));refine dA (G.L (fun eM=>?_));refine o.aR 3 ?_;refine eM ?_;refine G.ret (fA ?_);exact⟨aA,S,rfl,by rw[vR];exact k,ep,t⟩
end ng

namespace nh
open E Go.RowKit eJ eN eW e3 ey eX eY fF fG fO fY gg gx gy kF mq ng dz
def gF(l:List bF):Nat:=(l.map (fun m=>m.n.length+m.y.length)).sum
def h1(l:List bA):Nat:=(l.map (fun x=>x.d.length)).sum
theorem Fg{l:List bF}{i:Nat}(h:i<l.length):gF (l.take (i+1))=gF (l.take i)+(l[i].n.length+l[i].y.length):=by
 unfold gF;rw[List.take_succ_eq_append_getElem h,List.map_append,List.sum_append];simp only[List.map_cons,List.map_nil,List.sum_cons,List.sum_nil,Nat.add_zero]
theorem Fe{l:List bA}{i:Nat}(h:i<l.length):h1 (l.take (i+1))=h1 (l.take i)+l[i].d.length:=by
 unfold h1;rw[List.take_succ_eq_append_getElem h,List.map_append,List.sum_append];simp only[List.map_cons,List.map_nil,List.sum_cons,List.sum_nil,Nat.add_zero]
structure oj (t:b0):Prop where
 al:t.al.length≤140737488355328
 br:t.q.br.length≤140737488355328
 eL:∀m∈t.ml,m.n.length≤140737488355328∧m.y.length≤140737488355328
 md:∀x∈t.el,x.d.length≤140737488355328
def nS(t:b0):Nat:=t.al.length+t.q.br.length+gF t.ml+h1 t.el
def iv(t:b0):Prop:=nS t<20000∧t.ml.length<40∧t.el.length<40∧t.q.a6.length<200
instance (t:b0):Decidable (iv t):=by unfold iv;exact inferInstance
theorem Fh{l:List bF}(h:∀m∈l,m.n.length≤140737488355328∧m.y.length≤140737488355328):gF l≤281474976710656*l.length:=by
 induction l with
 |nil=>simp[gF]
 |cons x l ih=>
  have d:=h x List.mem_cons_self;have U:=ih (fun m hm=>h m (List.mem_cons_of_mem _ hm));unfold gF at U⊢;simp only[List.map_cons,List.sum_cons,List.length_cons];omega
theorem Ff{l:List bA}(h:∀x∈l,x.d.length≤140737488355328):h1 l≤140737488355328*l.length:=by
 induction l with
 |nil=>simp[h1]
 |cons x l ih=>
  have d:=h x List.mem_cons_self;have U:=ih (fun m hm=>h m (List.mem_cons_of_mem _ hm));unfold h1 at U⊢;simp only[List.map_cons,List.sum_cons,List.length_cons];omega
theorem sS:∀{l:List bF} {m:bF},m∈l→m.n.length+m.y.length≤gF l
 |x::l,m,h=>by
  unfold gF;simp only[List.map_cons,List.sum_cons];rcases List.mem_cons.1 h with rfl|h
  ·omega
  ·have:=sS h;unfold gF at this;omega
theorem xE:∀(l:List bF),(l.flatMap iN).length=67*l.length+gF l
 |[]=>rfl
 |x::l=>by
  have:=xE l;rw[List.flatMap_cons,List.length_append,nQ,this];unfold gF;simp only[List.map_cons,List.sum_cons,List.length_cons];omega
theorem xr:∀(l:List bA),(l.flatMap iL).length=36*l.length+h1 l
 |[]=>rfl
 |x::l=>by
  have:=xr l;rw[List.flatMap_cons,List.length_append,xp,this];unfold h1;simp only[List.map_cons,List.sum_cons,List.length_cons];omega
theorem Hk(q:cY):(ka q).length≤100+q.br.length+33*q.a6.length:=by
 have d:=mP (f:=kb) (n:=33) (l:=q.a6) (fun x _=>by rw[q8];omega);unfold ka;split<;>simp only[List.length_append,dR,hc,q.bX.2,q.bo.2,List.length_nil]<;>omega
theorem Dj{t:b0}(h:iv t):(fi t).length≤31000:=by
 obtain⟨i,U,k,n⟩:=h;have aK:=xE t.ml;have d:=xr t.el;have j:=Hk t.q;unfold nS at i;unfold fi;simp only[List.length_append,dR,aK,d];split<;>split<;>simp only[List.length_append,dR,hc,List.length_nil]<;>omega
theorem wm{t:b0}(h:iv t):lf t:=by
 have k:=Dj h;obtain⟨d,U,i,j⟩:=h;unfold nS at d;exact⟨by omega,by omega,fun m hm=>by have:=sS hm;omega,fun m hm=>by have:=sS hm;omega,by omega,by omega,by omega,by omega⟩
set_option maxHeartbeats 1600000 in
theorem Di(x:b0)(w0:World)(I:Heap)
 (hm:bw I dt 66 x.eL.v x.ml) (j:bw I c4 33 x.q.cM.v x.q.a6) (he:bw I bM 33 x.cB.v x.el) (al:∀y∈x.el,bw I a1 1 y.v.v y.d) (hw:oj x):
 aC Tryz.prog w0 13 #[eg x] I (fun r ag=>r= .bool (decide (iv x))∧ak I ag):=by
 refine aC.aK [eg x] Tryz.func13 ?_;intro bj bf;have A:ak I I:=V.refl _ _;replace hm:=hm.bt;replace j:=j.bt;replace he:=he.bt;replace al:=fun y B=>(al y B).bt;have bF:=hm.len;have bE:=j.len;have bt:=he.len;have an:=hw.al;have bH:=hw.br;refine G.L (fun ai=>?_);refine o.aO cr ?_;rintro v1 H1 ⟨rfl,i,ac,bo,aj⟩;have bk:H1.size=I.size+1:=by rw[aj];simp
 replace hm:=hm.M ac;replace j:=j.M ac;replace he:=he.M ac;replace al:=fun y B=>(al y B).M ac;replace A:=A.L ac;have bp:=ac.size;replace i:Var 32 H1 I.size (df x):=i;refine o.aj ?_;refine ai (G.L (fun aq=>?_));refine o.v1 (Y.ai i.N rfl bx rfl bO) ?_;refine o.v1 (ar (i.N.drop 1) bL) ?_;refine o.v1 (fy dN) ?_;refine o.v1 (Y.ai i.N rfl bx rfl cT) ?_;refine o.v1 (Y.ai (i.N.drop 4) rfl bu rfl bO) ?_;refine o.v1 (ar (i.N.ra.drop 1) bL) ?_;refine o.v1 (fy dN) ?_;refine o.v1 (Y.cast (v2:= .int .i64 (x.al.length+x.q.br.length:Nat)) bD (fJ (by omega))) ?_;refine o.aj ?_;refine aq (G.t1 (fun ay=>G.L (fun az=>?_)));refine o.aj ?_;refine az (G.aB (fun _ aA _=>?_))
 refine G.bd (fun(i1:(Nat))=>[(1,.pointer (some ⟨I.size,0,none⟩)),(3,.int .i64 ((x.al.length+x.q.br.length+gF (x.ml.take i1)):Nat)),(4,.int .i64 (i1:Int))])
  (fun(i1:(Nat)) (H:Heap)=>(i1≤x.ml.length∧i1≤40)∧ak H1 H)
  (fun(i1:(Nat))=>x.ml.length-i1) 0 ⟨rfl,(by simp[gF,cK]),rfl,trivial⟩ ?_ ?_
 ·
  exact⟨(by omega),V.refl _ _⟩
 intro i1 aB aE bh aF aH;obtain⟨bz,k⟩:=aE;replace hm:=hm.M k;replace j:=j.M k;replace he:=he.M k;replace al:=fun y B=>(al y B).M k;replace i:=i.M k;replace A:=A.L k;have bq:=k.size;have bc:=Fh (l:=x.ml.take i1) (fun m hm=>hw.eL m (List.mem_of_mem_take hm));rw[List.length_take]at bc;refine G.t2 (fun aJ aL=>G.L (fun aM=>?_));refine o.W ?_;refine o.v1 (Y.ai i.N rfl bx rfl ek) ?_;refine o.v1 (ar (i.N.drop 2) ez) ?_;refine o.v1 (ba hm dG) ?_;refine o.v1 bG ?_;refine o.W ?_;refine o.join (d:=22) (v:= .bool (decide ((i1:Int)<x.ml.length∧(i1:Int)<40))) 3 (fun O=>?_) ?_
 ·
  refine o.bj (d:=19) rfl (fun C=>?_) (fun C=>?_)
  ·
   refine o.bU ?_;refine o.an bG ?_;refine o.N ?_;exact O _ (congrArg (fun b=>some (Value.bool b)) (by simp[C])) (ae (ae (ae (bC (congrArg Value.bool (decide_eq_true C).symm)))))
  ·
   refine o.ax 3 ?_;exact O _ (congrArg (fun b=>some (Value.bool b)) (by simp[C])) (ae (ae (ae (bC (congrArg Value.bool (decide_eq_false C).symm)))))
 refine o.nil (aM ?_);refine aT (fun aN=>?_) (fun aN=>?_)
 ·
  refine G.skip (aJ (G.t1 (fun aO=>G.aB (fun am _ _=>?_))));refine hf ?_;refine o.W ?_;refine o.v1 (Y.ai i.N rfl bx rfl ek) ?_;refine o.v1 (ar (i.N.drop 2) ez) ?_;refine o.W ?_;have L:i1<x.ml.length:=by omega
  obtain⟨y,t⟩:∃q,q=x.ml[i1]:=⟨_,rfl⟩;have M:y∈x.ml:=by rw[t];exact List.getElem_mem L
  have bg:=hw.eL y M;refine o.bR (Y.bJ hm (i1) rfl dG dM rfl rfl) fun bl T=>?_;refine o.v1 (Y.ai T.N rfl cy rfl bO) ?_;refine o.v1 (Y.cast (v2:=aI y.n) (ar (T.N.drop 0) bL) (by rw[t])) ?_;refine o.v1 (fy dN) ?_;refine o.v1 (Y.cast (v2:= .int .i64 ((x.al.length+x.q.br.length+gF (x.ml.take i1))+y.n.length:Nat)) bD (fJ (by omega))) ?_;refine o.v1 (Y.ai i.N rfl bx rfl ek) ?_;refine o.v1 (ar (i.N.drop 2) ez) ?_;refine o.W ?_;refine o.bR (Y.bJ hm (i1) rfl dG dM rfl rfl) fun bm W=>?_;refine o.v1 (Y.ai W.N rfl cy rfl bO) ?_;refine o.v1 (Y.cast (v2:=aI y.y) (ar (W.N.mV) bL) (by rw[t])) ?_;refine o.v1 (fy dN) ?_;refine o.v1 (Y.cast (v2:= .int .i64 ((x.al.length+x.q.br.length+gF (x.ml.take (i1+1))):Nat)) bD (fJ (by rw[Fg L,←t];omega))) ?_;refine o.aj ?_;refine am (aO (G.region ?_));refine o.W ?_;refine o.v1 bD ?_;refine o.aj ?_;refine aP.sub (aF (i1+1) _ ?_ ?_) ⟨rfl,(aD (by omega)),(aD (by omega)),trivial⟩
  ·exact⟨(by omega),k⟩
  ·first|omega|(simp only;omega)|(simp;omega)
 ·
  have ab:x.ml.length<40→i1=x.ml.length:=fun bb=>by omega
  refine G.exit (aL (aH (aA ?_)));refine ay (G.t1 (fun aS=>G.L (fun ap=>?_)));refine o.aj ?_;refine ap (G.aB (fun _ aV _=>?_))
  refine G.bd (fun(i2:(Nat))=>[(1,.pointer (some ⟨I.size,0,none⟩)),(3,.int .i64 (((x.al.length+x.q.br.length+gF (x.ml.take i1))+h1 (x.el.take i2)):Nat)),(5,.int .i64 (i2:Int))])
   (fun(i2:(Nat)) (H:Heap)=>(i2≤x.el.length∧i2≤40)∧ak aB H)
   (fun(i2:(Nat))=>x.el.length-i2) 0 ⟨rfl,(by simp[h1,cK]),rfl,trivial⟩ ?_ ?_
  ·
   exact⟨(by omega),V.refl _ _⟩
  intro i2 bs aQ a0 aW aX;obtain⟨bA,n⟩:=aQ;replace hm:=hm.M n;replace j:=j.M n;replace he:=he.M n;replace al:=fun y B=>(al y B).M n;replace i:=i.M n;replace A:=A.L n;have b2:=n.size;have bd:=Ff (l:=x.el.take i2) (fun m hm=>hw.md m (List.mem_of_mem_take hm));rw[List.length_take]at bd;refine G.t2 (fun aY aZ=>G.L (fun a6=>?_));refine o.W ?_;refine o.v1 (Y.ai i.N rfl bx rfl dp) ?_;refine o.v1 (ar i.N.fT dS) ?_;refine o.v1 (ba he cq) ?_;refine o.v1 bG ?_;refine o.W ?_;refine o.join (d:=50) (v:= .bool (decide ((i2:Int)<x.el.length∧(i2:Int)<40))) 3 (fun P=>?_) ?_
  ·
   refine o.bj (d:=47) rfl (fun E=>?_) (fun E=>?_)
   ·
    refine o.bU ?_;refine o.an bG ?_;refine o.N ?_;exact P _ (congrArg (fun b=>some (Value.bool b)) (by simp[E])) (ae (ae (ae (bC (congrArg Value.bool (decide_eq_true E).symm)))))
   ·
    refine o.ax 3 ?_;exact P _ (congrArg (fun b=>some (Value.bool b)) (by simp[E])) (ae (ae (ae (bC (congrArg Value.bool (decide_eq_false E).symm)))))
  refine o.nil (a6 ?_);refine aT (fun aR=>?_) (fun aR=>?_)
  ·
   refine G.skip (aY (G.t1 (fun a7=>G.aB (fun a8 _ _=>G.region ?_))));refine o.W ?_;refine o.v1 (Y.ai i.N rfl bx rfl dp) ?_;refine o.v1 (ar i.N.fT dS) ?_;refine o.W ?_;have L:i2<x.el.length:=by omega
   obtain⟨y,t⟩:∃q,q=x.el[i2]:=⟨_,rfl⟩;have M:y∈x.el:=by rw[t];exact List.getElem_mem L
   have bg:=hw.md y M;refine o.bR (Y.bJ he (i2) rfl cq cf rfl rfl) fun bn X=>?_;refine o.v1 (Y.ai X.N rfl eS rfl da) ?_;refine o.v1 (Y.cast (v2:=y.v.v) (ar (X.N.ji) eA) (by rw[t])) ?_;refine o.v1 (ba (al y M) db) ?_;refine o.v1 (Y.cast (v2:= .int .i64 (((x.al.length+x.q.br.length+gF (x.ml.take i1))+h1 (x.el.take (i2+1))):Nat)) bD (fJ (by rw[Fe L,←t];omega))) ?_;refine o.aj ?_;refine a8 (a7 (G.region ?_));refine o.W ?_;refine o.v1 bD ?_;refine o.aj ?_;refine aP.sub (aW (i2+1) _ ?_ ?_) ⟨rfl,(aD (by omega)),(aD (by omega)),trivial⟩
   ·exact⟨(by omega),n⟩
   ·first|omega|(simp only;omega)|(simp;omega)
  ·
   have af:x.el.length<40→i2=x.el.length:=fun bb=>by omega
   refine G.exit (aZ (aX (aV ?_)));refine aS (G.L (fun ah=>?_));refine o.W ?_;refine o.v1 bG ?_;refine o.W ?_;refine o.join (d:=69) (v:= .bool (decide (((((x.al.length+x.q.br.length+gF (x.ml.take i1))+h1 (x.el.take i2)):Nat):Int)<20000∧(x.ml.length:Int)<40))) 5 (fun Q=>?_) ?_
   ·
    refine o.bj (d:=64) rfl (fun F=>?_) (fun F=>?_)
    ·
     refine o.an (Y.ai i.N rfl bx rfl ek) ?_;refine o.an (ar (i.N.drop 2) ez) ?_;refine o.an (ba hm dG) ?_;refine o.an bG ?_;refine o.N ?_;exact Q _ (congrArg (fun b=>some (Value.bool b)) (decide_eq_decide.2 ⟨fun h=>⟨F,h⟩,fun h=>h.2⟩)) (ae (ae (ae (ae (ae (bC (congrArg Value.bool (decide_eq_true F).symm)))))))
    ·
     refine o.ax 5 ?_;exact Q _ (congrArg (fun b=>some (Value.bool b)) ((decide_eq_false (fun h=>F h.1)).symm)) (ae (ae (ae (ae (ae (bC (congrArg Value.bool (decide_eq_false F).symm)))))))
   refine o.W ?_;refine o.join (d:=75) (v:= .bool (decide ((((((x.al.length+x.q.br.length+gF (x.ml.take i1))+h1 (x.el.take i2)):Nat):Int)<20000∧(x.ml.length:Int)<40)∧(x.el.length:Int)<40))) 5 (fun R=>?_) ?_
   ·
    refine o.bj (d:=70) rfl (fun K=>?_) (fun K=>?_)
    ·
     refine o.an (Y.ai i.N rfl bx rfl dp) ?_;refine o.an (ar i.N.fT dS) ?_;refine o.an (ba he cq) ?_;refine o.an bG ?_;refine o.N ?_;exact R _ (congrArg (fun b=>some (Value.bool b)) (decide_eq_decide.2 ⟨fun h=>⟨K,h⟩,fun h=>h.2⟩)) (ae (ae (ae (ae (ae (bC (congrArg Value.bool (decide_eq_true K).symm)))))))
    ·
     refine o.ax 5 ?_;exact R _ (congrArg (fun b=>some (Value.bool b)) ((decide_eq_false (fun h=>K h.1)).symm)) (ae (ae (ae (ae (ae (bC (congrArg Value.bool (decide_eq_false K).symm)))))))
   refine o.W ?_;refine o.join (d:=82) (v:= .bool (decide (((((((x.al.length+x.q.br.length+gF (x.ml.take i1))+h1 (x.el.take i2)):Nat):Int)<20000∧(x.ml.length:Int)<40)∧(x.el.length:Int)<40)∧(x.q.a6.length:Int)<200))) 6 (fun S=>?_) ?_
   ·
    refine o.bj (d:=76) rfl (fun au=>?_) (fun au=>?_)
    ·
     refine o.an (Y.ai i.N rfl bx rfl cT) ?_;refine o.an (Y.ai (i.N.drop 4) rfl bu rfl en) ?_;refine o.an (ar i.N.rb ff) ?_;refine o.an (ba j fm) ?_;refine o.an bG ?_;refine o.N ?_;exact S _ (congrArg (fun b=>some (Value.bool b)) (decide_eq_decide.2 ⟨fun h=>⟨au,h⟩,fun h=>h.2⟩)) (ae (ae (ae (ae (ae (ae (bC (congrArg Value.bool (decide_eq_true au).symm))))))))
    ·
     refine o.ax 6 ?_;exact S _ (congrArg (fun b=>some (Value.bool b)) ((decide_eq_false (fun h=>au h.1)).symm)) (ae (ae (ae (ae (ae (ae (bC (congrArg Value.bool (decide_eq_false au).symm))))))))
   refine o.aj ?_;refine ah ?_;refine G.ret (bf ?_)
   exact⟨congrArg Value.bool (decide_eq_decide.2 (by
    unfold iv nS;constructor
    ·rintro⟨⟨⟨Z,U⟩,aa⟩,a_⟩
     have aK:=ab (by omega);have N:=af (by omega);rw[aK,N,List.take_length,List.take_length]at Z;omega
    ·rintro⟨Z,U,aa,a_⟩
     have aK:=ab U;have N:=af aa;rw[aK,N,List.take_length,List.take_length];omega)),A⟩
end nh

namespace tZ
open E Go.RowKit eJ eN eW e3 ey eX eY fF fG fO fY gg gx gy hQ kF mq ng nh dz
set_option maxRecDepth 100000 in
theorem qq:c6 Tryz.prog 24 52 66 96:=⟨Tryz.underlying24,_,_,rfl,rfl,rfl,rfl,rfl⟩
set_option maxRecDepth 100000 in
theorem lY:c6 Tryz.prog 27 129 33 40:=⟨Tryz.underlying27,_,_,rfl,rfl,rfl,rfl,rfl⟩
set_option maxRecDepth 100000 in
theorem iI:c6 Tryz.prog 30 68 33 56:=⟨Tryz.underlying30,_,_,rfl,rfl,rfl,rfl,rfl⟩
set_option maxRecDepth 100000 in
theorem dv:c6 Tryz.prog 57 5 1 1:=⟨Tryz.underlying57,_,_,rfl,rfl,rfl,rfl,rfl⟩
section
variable {x : b0}
theorem Hl{q:cY}(s:aM)(l:List fA):(dT q).set 66 s.v=dT {q with cM:=s,a6:=l}:=by
 show Value.int .i64 q.k::aI q.br::((b7 q.bX++(b7 q.bo++jb q)).set 64 s.v)=_;rw[List.set_append_right _ _ (by rw[bB];omega),List.set_append_right _ _ (by rw[bB,bB];omega),bB,bB];rfl
theorem HP(s:aM)(l:List bF):(df x).set 2 s.v=df {x with eL:=s,ml:=l}:=rfl
theorem HQ(s:aM)(l:List fA):(df x).set 70 s.v=df {x with q:={x.q with cM:=s,a6:=l}}:=by
 show Value.bool x.bE::aI x.al::x.eL.v:: .bool x.ao::((dT x.q++[x.cB.v]).set 66 s.v)=_;rw[List.set_append_left _ _ (by rw[ef];omega),Hl (l:=l)];rfl
theorem HO(s:aM)(l:List bA):(df x).set 74 s.v=df {x with cB:=s,el:=l}:=by
 show Value.bool x.bE::aI x.al::x.eL.v:: .bool x.ao::((dT x.q++[x.cB.v]).set 70 s.v)=_;rw[List.set_append_right _ _ (by rw[ef];omega),ef];rfl
end
structure my (F:Nat→Prop) (H:Heap) (t:b0):Prop where
 q:Rd F H c4 33 t.q.cM.v t.q.a6
 e:Rd F H bM 33 t.cB.v t.el
 d:∀y∈t.el,Rd F H a1 1 y.v.v y.d
section
variable {F aS : Nat → Prop} {H aa : Heap} {t : b0} {ks : List Nat}
theorem my.M(x:my F H t)(w:ak H aa):my F aa t:=⟨x.q.M w,x.e.M w,fun y hy=>(x.d y hy).M w⟩
theorem my.ab(x:my F H t)(w:V (aE ks) H aa)(d:az F ks):my F aa t:=⟨x.q.ab w d,x.e.ab w d,fun y hy=>(x.d y hy).ab w d⟩
end
def lK(a b:b0):Prop:=a.bE=b.bE∧a.al=b.al∧a.ml=b.ml∧a.ao=b.ao∧a.q.p=b.q.p∧a.el.map (fun x=>(x.k,x.d))=b.el.map (fun x=>(x.k,x.d))
set_option maxHeartbeats 1600000 in
theorem HM(t:b0)(F:Nat→Prop)(w0:World)(I:Heap)
 (B:e6 F I t) (bj:bg F I.size) (e1:t.ml.length≤1000000) (e2:t.q.a6.length≤1000000) (eX:t.el.length≤1000000) (dJ:∀y∈t.el,y.d.length≤140737488355328):
 aC Tryz.prog w0 18 #[eg t] I (fun r R=>∃eD:aM,∃st:aM,∃aa:aM,∃N:List bA,∃mT:Nat,∃aS:Nat→Prop,r=eg {t with eL:=eD,q:={t.q with cM:=st},cB:=aa,el:=N}∧(aU mT 52 R dt 66 eD.v t.ml)∧(T 0 I.size mT)∧(∀u:Unit,my aS R {t with eL:=eD,q:={t.q with cM:=st},cB:=aa,el:=N})∧(bg aS R.size)∧(∀b,aS b→I.size≤b)∧(ay aS mT)∧(N.map (fun x=>(x.k,x.d))=t.el.map (fun x=>(x.k,x.d)))∧ak I R):=by
 refine aC.enter (args:=[eg t]) Tryz.func18 rfl rfl rfl ?_;intro dQ dK;have j:ak I I:=V.refl _ _;refine G.L (fun cc=>?_);refine o.aO cr ?_;rintro v1 H1 ⟨rfl,d,b2,eh,cd⟩;have dT:H1.size=I.size+1:=by rw[cd];simp
 have bS:=(ay.new (bj.mono j.size):ay _ (I.size+1));have a2:T 0 I.size (I.size+1):=T.new j.size;replace B:=B.M b2;replace j:=j.L b2;have ei:=b2.size;replace d:Var 32 H1 I.size (df t):=d;refine o.aO (cQ n9) ?_;rintro v2 R ⟨rfl,n,bd,ej,ch⟩;have dU:R.size=H1.size+1:=by rw[ch];simp
 have a3:af (I.size+1) (H1.size+1):=af.new d.lt;have cj:T 0 I.size (H1.size+1):=T.new j.size;replace B:=B.M bd;replace d:=d.M bd;replace j:=j.L bd;have eo:=bd.size;refine o.nil (cc (G.L (fun cl=>?_)));refine o.aO (cU _ (([]:List bF)) qq e0 kO (rfl)) ?_;rintro v5 bn ⟨A,a6,er,cn⟩;have dV:bn.size=R.size+1:=by rw[cn];simp
 have cL:=(ay.new (bj.mono j.size):ay _ (R.size+1));have bU:af (I.size+1) (R.size+1):=af.new d.lt;have bV:af (H1.size+1) (R.size+1):=af.new n.lt;have bX:T 0 I.size (R.size+1):=T.new j.size;replace B:=B.M a6;replace d:=d.M a6;replace n:=n.M a6;replace j:=j.L a6;have et:=a6.size;refine o.v1 (Y.ai d.N rfl bx rfl ek) ?_;refine o.v1 (ar (d.N.drop 2) ez) ?_;refine o.aO (dO A B.m qq (by simp;omega) (by simp;omega)) ?_;rintro b7 dN ⟨Z,A,a7,aH⟩;replace a7:T (R.size+1) bn.size Z:=a7;replace aH:=aH.md;have bm:af (I.size+1) Z:=af.app (bU) d.lt a7;have a4:af (H1.size+1) Z:=af.app (bV) n.lt a7;have a5:T 0 I.size Z:=T.L (bX) a7 j.size;replace B:=B.ab aH (az.J cL);replace d:=d.ab aH (ah.J bU);replace n:=n.ab aH (ah.J bV);replace j:=j.bl aH (ag.J (aq.q bX));have eu:=aH.size;have dR:=A.le;rw[List.nil_append]at A;obtain⟨a8,rfl⟩:∃s:aM,b7=s.v:=⟨cg b7,A.bm.symm⟩;refine o.v1 (Y.ai d.N rfl bx rfl ek) ?_;refine o.s1 (dh d 2 (df {t with eL:=a8}) (rfl) ek (by rw[dY];omega) ((HP _ _))) fun ap b8=>?_;obtain⟨d,aI⟩:=b8;replace aI:=aI.bp;replace B:=B.ab aI (az.J bS);replace n:=n.ab aI (ah.J a3.symm);replace A:=A.ab aI (ah.J bm.symm);replace j:=j.bl aI (ag.J (aq.q a2));have ew:=aI.size;refine o.nil (cl (G.L (fun dk=>?_)));refine o.aO (cU _ (([]:List fA)) lY hU mM (rfl)) fun ey bZ dm=>?_;obtain⟨P,aQ,eN,b9⟩:=dm;have dZ:bZ.size=ap.size+1:=by rw[b9];simp
 have a9:=(ay.new (bj.mono j.size):ay _ (ap.size+1));have bp:af (I.size+1) (ap.size+1):=af.new d.lt;have bq:af (H1.size+1) (ap.size+1):=af.new n.lt;have bt:af Z (ap.size+1):=af.new A.le;have bw:T 0 I.size (ap.size+1):=T.new j.size;replace B:=B.M aQ;replace d:=d.M aQ;replace n:=n.M aQ;replace A:=A.M aQ;replace j:=j.L aQ;have eC:=aQ.size;refine o.v1 (Y.ai d.N rfl bx rfl cT) ?_;refine o.v1 (Y.ai (d.N.drop 4) rfl bu rfl en) ?_;refine o.v1 (ar d.N.rb ff) ?_;refine o.aO (dO P B.q lY (by simp;omega) (by simp;omega)) fun b1 eF dq=>?_;obtain⟨aN,P,aR,au⟩:=dq;replace aR:T (ap.size+1) bZ.size aN:=aR;replace au:=au.md;have bz:af (I.size+1) aN:=af.app (bp) d.lt aR;have cb:af (H1.size+1) aN:=af.app (bq) n.lt aR;have cN:af Z aN:=af.app (bt) A.le aR;have cP:T 0 I.size aN:=T.L (bw) aR j.size;replace B:=B.ab au (az.J a9);replace d:=d.ab au (ah.J bp);replace n:=n.ab au (ah.J bq);replace A:=A.ab au (ah.J bt);replace j:=j.bl au (ag.J (aq.q bw));have eG:=au.size;have eb:=P.le;rw[List.nil_append]at P;obtain⟨bf,rfl⟩:∃s:aM,b1=s.v:=⟨cg b1,P.bm.symm⟩;refine o.v1 (Y.ai d.N rfl bx rfl cT) ?_;refine o.v1 (Y.ai (d.N.drop 4) rfl bu rfl en) ?_;refine o.s1 (dh d 70 (df {t with eL:=a8,q:={t.q with cM:=bf}}) (rfl) en (by rw[dY];omega) ((HQ _ _))) fun bb bT=>?_;obtain⟨d,aj⟩:=bT;replace aj:=aj.bp;replace B:=B.ab aj (az.J bS);replace n:=n.ab aj (ah.J a3.symm);replace A:=A.ab aj (ah.J bm.symm);replace P:=P.ab aj (ah.J bz.symm);replace j:=j.bl aj (ag.J (aq.q a2));have eH:=aj.size;refine o.nil (dk (G.L (fun ce=>?_)));refine o.aj ?_;refine ce (G.t1 (fun dr=>G.L (fun dw=>?_)));refine o.aj ?_;refine dw (G.aB (fun _ dX _=>?_))
 refine G.bd (fun(dM:(Nat)×(aM)×(Nat)×(List bA)×(Nat→Prop))=>match dM with|(i,aa,C,N,aS)=>[(1,.pointer (some ⟨I.size,0,none⟩)),(2,.pointer (some ⟨H1.size,0,none⟩)),(3,aa.v),(4,.int .i64 (i:Int))])
  (fun(i,aa,C,N,aS) (H:Heap)=>(i≤t.el.length)∧(aU C 68 H bM 33 aa.v N)∧(∀y∈N,Rd aS H a1 1 y.v.v y.d)∧(bg aS H.size)∧(ay aS C)∧(ay aS (I.size+1))∧(ay aS (H1.size+1))∧(ay aS Z)∧(∀b,aS b→I.size≤b)∧(N.map (fun x=>(x.k,x.d))=(t.el.take i).map (fun x=>(x.k,x.d)))∧(T 0 bb.size C)∧ak bb H)
  (fun(i,aa,C,N,aS)=>t.el.length-i) (0,cO,0,[],fun _=>False) ⟨rfl,rfl,rfl,rfl,trivial⟩ ?_ ?_
 ·
  exact⟨(by omega),aU.nil cZ gX,(fun x h=>by cases h),(fun b e=>e.elim),(fun b e=>e.elim),(fun b e=>e.elim),(fun b e=>e.elim),(fun b e=>e.elim),(fun b e=>e.elim),rfl,T.refl _ _,V.refl _ _⟩
 rintro⟨i,aa,C,N,aS⟩ L ci dP dx dz;obtain⟨eY,E,Q,bh,f1,f2,f3,f4,bP,bk,aO,K⟩:=ci;have bc:=ay.app (ay.z) (bj.mono j.size) aO;have aZ:af (I.size+1) C:=af.app (af.z) d.lt aO;have be:af (H1.size+1) C:=af.app (af.z) n.lt aO;have bY:af Z C:=af.app (af.z) A.le aO;have cS:T 0 I.size C:=T.L (T.refl 0 _) aO j.size;replace B:=B.M K;replace d:=d.M K;replace n:=n.M K;replace A:=A.M K;replace P:=P.M K;replace j:=j.L K;have eI:=K.size;have ca:=E.le;have bC:=aO;have eZ:N.length=i:=by have dI:=congrArg List.length bk;simp at dI;omega
 refine G.t2 (fun dB dD=>G.L (fun cV=>?_));refine o.W ?_;refine o.v1 (Y.ai d.N rfl bx rfl dp) ?_;refine o.v1 (ar d.N.fT dS) ?_;refine o.v1 (ba B.e cq) ?_;refine o.v1 bG (o.nil (cV ?_));refine aT (fun dE=>?_) (fun dE=>?_)
 ·
  refine G.skip (dB (G.t1 (fun bi=>G.aB (fun cW _ _=>?_))));refine dC (fun W=>V (aE [C]) L W) [] ?_;have k:V (aE [C]) L L:=V.refl _ _;have aB:=T.refl C L.size;refine O.W 0 rfl k ?_;refine O.t1 1 rfl (fun W M=>Y.fieldAddr (d.ab M (ah.J aZ)).N rfl bx rfl rfl dp (by decide) rfl) k ?_;refine O.t1 2 rfl (fun W M=>Y.fQ (d.ab M (ah.J aZ)).N.fT rfl dS rfl) k ?_;refine O.W 3 rfl k ?_;have b4:i<t.el.length:=by omega
  obtain⟨y,bl⟩:∃q,q=t.el[i]:=⟨_,rfl⟩;have b5:y∈t.el:=by rw[bl];exact List.getElem_mem b4
  have eW:=dJ y b5;refine O.e (g:=fun ad=> .pointer (some ad)) 4 (by kernel_rfl) rfl (by kernel_rfl) (by kernel_rfl) (by kernel_rfl) (Y.bJ B.e (i) rfl cq cf rfl rfl) cR rfl rfl k (fun co bE=>?_);refine O.t1 5 rfl (fun W M=>Y.fieldAddr (bE.ab M (az.J bc)).N rfl eS rfl rfl a_ (by decide) rfl) k ?_;refine O.t1 6 rfl (fun W M=>Y.cast (v2:=bs y.k) (aW (((bE.ab M (az.J bc)).N.drop 0).take 32) b_ a_ (by rw[eK];exact bB _)) ((by rw[bl];exact b6 (eK _)))) k ?_;refine O.t1 8 rfl (fun W M=>Y.fieldAddr (d.ab M (ah.J aZ)).N rfl bx rfl rfl dp (by decide) rfl) k ?_;refine O.t1 9 rfl (fun W M=>Y.fQ (d.ab M (ah.J aZ)).N.fT rfl dS rfl) k ?_;refine O.W 10 rfl k ?_;refine O.e (g:=fun ad=> .pointer (some ad)) 11 (by kernel_rfl) rfl (by kernel_rfl) (by kernel_rfl) (by kernel_rfl) (Y.bJ B.e (i) rfl cq cf rfl rfl) cR rfl rfl k (fun eO bH=>?_);refine O.t1 12 rfl (fun W M=>Y.fieldAddr (bH.ab M (az.J bc)).N rfl eS rfl rfl da (by decide) rfl) k ?_;refine O.t1 13 rfl (fun W M=>Y.cast (v2:=y.v.v) (ar ((bH.ab M (az.J bc)).N.ji) eA) (by rw[bl])) k ?_;refine O.aY 7 ?_;refine ep rfl (cU _ (([]:List UInt8)) dv eB fH (rfl)) (fun eJ aF dF=>?_);obtain⟨S,ab,eR,cY⟩:=dF;have d_:aF.size=L.size+1:=by rw[cY];simp
  have c1:af (I.size+1) (L.size+1):=af.new d.lt;have c2:af (H1.size+1) (L.size+1):=af.new n.lt;have c3:af Z (L.size+1):=af.new A.le;have bJ:af C (L.size+1):=af.new E.le;have c5:=(ay.new (bh.mono (by omega)):ay _ (L.size+1));have c6:T 0 I.size (L.size+1):=T.new j.size;have br:T 0 bb.size (L.size+1):=T.new K.size;have c_:T 0 L.size (L.size+1):=T.new k.size;replace B:=B.M ab;replace d:=d.M ab;replace n:=n.M ab;replace A:=A.M ab;replace E:=E.M ab;replace Q:=fun y X=>(Q y X).M ab;replace j:=j.L ab;replace K:=K.L ab;replace k:=k.bc ab;have cs:=ab.size;refine O.b3 k (ag.cons (aq.r aB) (ag.J (aq.q c_))) ?_;have k:V (aE [C,(L.size+1)]) aF aF:=V.refl _ _;have db:=T.refl C aF.size;have bL:=T.refl (L.size+1) aF.size;refine O.aY 14 ?_;refine ep rfl (dO S (B.d y b5) dv (by simp;omega) (by simp;omega)) (fun b3 ae dG=>?_);obtain⟨am,S,aA,aJ⟩:=dG;replace aA:T (L.size+1) aF.size am:=aA;replace aJ:=aJ.md;have dc:af (I.size+1) am:=af.app (c1) d.lt aA;have bv:af (H1.size+1) am:=af.app (c2) n.lt aA;have de:af Z am:=af.app (c3) A.le aA;have bN:af C am:=af.app (bJ) E.le aA;have dg:T 0 I.size am:=T.L (c6) aA j.size;have di:T (L.size+1) aF.size am:=T.L (bL) aA k.size;replace E:=E.ab aJ (ah.J bJ);replace Q:=fun y X=>(Q y X).ab aJ (az.J c5);replace K:=K.bl aJ (ag.J (aq.q br));replace k:=k.aJ aJ (ag.J (aq.r bL));have bo:=aJ.size;have dW:=S.le;obtain⟨a0,rfl⟩:∃s:aM,b3=s.v:=⟨cg b3,S.bm.symm⟩;rw[List.nil_append]at S;refine O.b3 k (ag.cons (aq.r db) (ag.J (aq.r di))) ?_;have k:V (aE [C,am]) ae ae:=V.refl _ _;have cp:=T.refl C ae.size;have ct:=T.refl am ae.size;refine O.t1 (v:= .agg (bM (⟨y.k,a0,y.d⟩:bA)).toArray) 15 rfl (fun W M=>?_) k ?_
  ·exact Y.build (v:= .agg (bM (⟨y.k,a0,y.d⟩:bA)).toArray) rfl rfl (by intro w;exact oA _ _ _)
  refine O.aY 16 ?_;refine ep rfl (cU _ ([(⟨y.k,a0,y.d⟩:bA)]) iI cZ gX (rfl)) (fun eM ai dA=>?_);obtain⟨dL,aV,eT,cu⟩:=dA;have ea:ai.size=ae.size+1:=by rw[cu];simp
  have cv:T 0 ae.size (ae.size+1):=T.new k.size;replace E:=E.M aV;replace Q:=fun y X=>(Q y X).M aV;replace S:=S.M aV;replace K:=K.L aV;replace k:=k.bc aV;have eU:=aV.size;refine O.b3 k (ag.cons (aq.r cp) (ag.cons (aq.r ct) (ag.J (aq.q cv)))) ?_;have k:V (aE [C,am,(ae.size+1)]) ai ai:=V.refl _ _;have bO:=T.refl C ai.size;have cw:=T.refl am ai.size;have cy:=T.refl (ae.size+1) ai.size;refine O.aY 17 ?_;refine ep rfl (dO E dL.rd iI (by simp;omega) (by simp;omega)) (fun bQ bR dH=>?_);obtain⟨aL,E,aX,aK⟩:=dH;replace aX:T C ai.size aL:=aX;replace aK:=aK.md;have cz:=ay.app (f1) (bh.mono (by omega)) aX;have cC:af am aL:=af.app (bN.symm) S.le aX;have cE:T 0 bb.size aL:=T.L (bC) aX K.size;have cG:T C ai.size aL:=T.L (bO) aX k.size;replace Q:=fun y X=>(Q y X).ab aK (az.J f1);replace S:=S.ab aK (ah.J bN.symm);replace K:=K.bl aK (ag.J (aq.q bC));replace k:=k.aJ aK (ag.J (aq.r bO));have eV:=aK.size;have ca:=E.le;obtain⟨dj,rfl⟩:∃s:aM,bQ=s.v:=⟨cg bQ,E.bm.symm⟩;refine O.b3 k (ag.cons (aq.r cG) (ag.cons (aq.r cw) (ag.J (aq.r cy)))) ?_;have k:V (aE [aL,am,(ae.size+1)]) bR bR:=V.refl _ _;refine O.t1 18 rfl (fun W M=>ev) k ?_;refine cD ?_;refine cW (bi (G.region ?_));refine o.W ?_;refine o.v1 bD ?_;refine o.aj ?_;refine aP.sub (dx (i+1,dj,aL,N++[(⟨y.k,a0,y.d⟩:bA)],fun b=>aS b∨b+1=am) _ ?_ ?_) ⟨rfl,rfl,rfl,(aD (by omega)),trivial⟩
  ·exact⟨(by omega),E,tu Q (fun b e=> .inl e) (S.rd.imp (fun b _ e=> .inr e)),bg.eG (bh.mono (by omega)) S.le,ay.eG (cz) (cC.symm),ay.eG (f2) (dc),ay.eG (f3) (bv),ay.eG (f4) (de),mB bP (dg),by rw[List.map_append,bk,List.take_succ_eq_append_getElem b4,List.map_append,←bl];rfl,cE,K⟩
  ·first|omega|(simp only;omega)|(simp;omega)
 ·
  obtain rfl:i=t.el.length:=by omega
  rw[List.take_length]at bk;refine G.exit (dD (dz (dX ?_)));refine dr (G.L (fun cH=>?_));refine o.W ?_;refine o.v1 (Y.ai d.N rfl bx rfl dp) ?_;refine o.s1 (dh d 74 (df {t with eL:=a8,q:={t.q with cM:=bf},cB:=aa,el:=N}) (rfl) dp (by rw[dY];omega) ((HO _ _))) fun ec cI=>?_;obtain⟨d,ac⟩:=cI;replace ac:=ac.bp;replace n:=n.ab ac (ah.J a3.symm);replace A:=A.ab ac (ah.J bm.symm);replace P:=P.ab ac (ah.J bz.symm);replace E:=E.ab ac (ah.J aZ.symm);replace Q:=fun y X=>(Q y X).ab ac (az.J f2);replace j:=j.bl ac (ag.J (aq.q a2));have ed:=ac.size;refine o.nil (cH (G.L (fun cJ=>?_)));refine o.v1 (aW d.N gM fk (dY _)) ?_;refine o.s1 (dy n (_) (df {t with eL:=a8,q:={t.q with cM:=bf},cB:=aa,el:=N}) (mN _) fk (dY _) ((c0 (dY _).symm))) fun ee cK=>?_;obtain⟨n,an⟩:=cK;replace an:=an.bp;replace A:=A.ab an (ah.J a4.symm);replace P:=P.ab an (ah.J cb.symm);replace E:=E.ab an (ah.J be.symm);replace Q:=fun y X=>(Q y X).ab an (az.J f3);replace j:=j.bl an (ag.J (aq.q cj));have ef:=an.size;refine o.nil (cJ ?_);refine G.ret (dK .ret (.inr rfl) _ _ _ (jA rfl rfl n.N gM fk (dY _)) ?_);exact⟨a8,bf,aa,N,Z,fun b=>aS b∨b+1=C∨b+1=aN,rfl,A,(a5),(fun _=>⟨P.rd.imp (fun b _ e=> .inr (.inr e)),E.rd.imp (fun b _ e=> .inr (.inl e)),fun y hy=>(Q y hy).imp (fun b _ e=> .inl e)⟩),(fun b e=>e.elim (fun e=>by have aY:=bh b e;omega) (fun e=>e.elim (fun e=>by have aY:=E.le;omega) (fun e=>by have aY:=P.le;omega))),(fun b e=>e.elim (bP b) (fun e=>e.elim (fun e=>by have aY:=(cS);unfold T at aY;omega) (fun e=>by have aY:=(cP);unfold T at aY;omega))),(fun b e h=>e.elim (fun e=>(f4) b e h) (fun e=>e.elim (fun e=>(bY.symm) b e h) (fun e=>(cN.symm) b e h))),bk,j⟩
def kV(b5:dP)(on:List Bool)(i:Nat)(m:bF):bF:=if on.getD i false=true then{m with J:=hG b5 m.n}else m
def j5(b5:dP)(on:List Bool)(ml:List bF):List bF:=ml.mapIdx (kV b5 on)
def ig(b5:dP)(on:List Bool)(i:Nat)(ml:List bF):List bF:=ml.mapIdx (fun j m=>if j<i then kV b5 on j m else m)
theorem Ft(b5:dP)(on:List Bool)(ml:List bF):ig b5 on 0 ml=ml:=by
 unfold ig;refine List.ext_getElem (by simp) (fun i d U=>by simp)
theorem o7(b5:dP)(on:List Bool)(i:Nat)(ml:List bF):(ig b5 on i ml).length=ml.length:=by unfold ig;simp
theorem Fu(b5:dP)(on:List Bool)(ml:List bF):ig b5 on ml.length ml=j5 b5 on ml:=by
 unfold ig j5;refine List.ext_getElem (by simp) (fun i d U=>by simp at d;simp[d])
theorem sY{b5:dP}{on:List Bool}{i:Nat}{ml:List bF}(h:i<ml.length):(ig b5 on i ml)[i]'(by rw[o7];exact h)=ml[i]:=by unfold ig;simp
theorem xI{b5:dP}{on:List Bool}{i:Nat}{ml:List bF}(h:i<ml.length):ig b5 on (i+1) ml=(ig b5 on i ml).set i (kV b5 on i ml[i]):=by
 refine List.ext_getElem (by simp[o7]) (fun j k U=>?_);rw[List.getElem_set];by_cases e:i=j
 ·subst e;simp[ig]
 ·rw[if_neg e]
  by_cases d:j<i
  ·simp[ig,d,show j<i+1 by omega]
  ·simp[ig,d,show ¬j<i+1 by omega]
theorem Fv{b5:dP}{on:List Bool}{i:Nat}{ml:List bF}(h:i<ml.length)(d:on.getD i false=false):ig b5 on (i+1) ml=ig b5 on i ml:=by
 rw[xI h,show kV b5 on i ml[i]=(ig b5 on i ml)[i]'(by rw[o7];exact h)by rw[sY h];unfold kV;rw[if_neg (by rw[d];decide)],List.set_getElem_self]
theorem E8(m:bF)(z:cX):dt {m with J:=z}=ec (dt m) 1 (b7 z):=by
 unfold ec;rw[bB,show 1+32=33 from rfl,sb];rfl
set_option maxHeartbeats 1600000 in
theorem xG(s:c2)(t:b0)(v:Value)(on:List Bool)(F:Nat→Prop)(w0:World)(I:Heap)
 (E:bw I du 33 s.ej.v s.bb) (ab:e6 F I t) (cf:bg F I.size) (C:bw I oI 1 v on) (ct:t.ml.length≤1000000) (cz:t.q.a6.length≤1000000) (cq:t.el.length≤1000000) (cl:∀y∈t.el,y.d.length≤140737488355328):
 aC Tryz.prog w0 16 #[ed s,eg t,v] I (fun r aJ=>∃eD:aM,∃st:aM,∃bo:aM,∃aQ:List bA,∃aS:Nat→Prop,r=eg {t with eL:=eD,ml:=j5 (bN s.bb) on t.ml,q:={t.q with cM:=st},cB:=bo,el:=aQ}∧(∀u:Unit,e6 aS aJ {t with eL:=eD,ml:=j5 (bN s.bb) on t.ml,q:={t.q with cM:=st},cB:=bo,el:=aQ})∧(bg aS aJ.size)∧(∀b,aS b→I.size≤b)∧(aQ.map (fun x=>(x.k,x.d))=t.el.map (fun x=>(x.k,x.d)))∧ak I aJ):=by
 refine aC.enter (args:=[ed s,eg t,v]) Tryz.func16 rfl rfl rfl ?_;intro cG cw;have A:ak I I:=V.refl _ _;replace E:=E.bt;have bd:=E.bY;replace C:=C.bt;have bc:=C.bY;have c_:=C.len;refine G.L (fun b4=>?_);refine o.aO cr ?_;rintro v3 M ⟨rfl,K,ap,cN,b5⟩;have a0:M.size=I.size+1:=by rw[b5];simp
 replace E:=E.M ap;replace ab:=ab.M ap;replace C:=C.M ap;replace A:=A.L ap;have cO:=ap.size;replace K:Var 47 M I.size (bS s):=K;refine o.aO cr ?_;rintro v4 W ⟨rfl,B,ai,cP,b2⟩;have a2:W.size=M.size+1:=by rw[b2];simp
 have a3:=(ay.new (bd.mono A.size):ay _ (M.size+1));have a4:=(ay.new (bc.mono A.size):ay _ (M.size+1));have a5:af (I.size+1) (M.size+1):=af.new K.lt;have bq:T 0 I.size (M.size+1):=T.new A.size;replace E:=E.M ai;replace ab:=ab.M ai;replace C:=C.M ai;replace K:=K.M ai;replace A:=A.L ai;have cS:=ai.size;replace B:Var 32 W M.size (df t):=B;refine o.aO (cQ n9) ?_;rintro v6 bp ⟨rfl,P,Z,cT,bs⟩;have cH:bp.size=W.size+1:=by rw[bs];simp
 have bu:af (M.size+1) (W.size+1):=af.new B.lt;have bz:T 0 I.size (W.size+1):=T.new A.size;replace E:=E.M Z;replace ab:=ab.M Z;replace C:=C.M Z;replace K:=K.M Z;replace B:=B.M Z;replace A:=A.L Z;have br:=Z.size;refine o.nil (b4 (G.L (fun a9=>?_)));refine o.v1 (aW B.N gM fk (dY _)) ?_;refine aV Bq (HM t F w0 _ ab (cf.mono (by omega)) ct cz cq cl) ?_;rintro v9 cC ⟨aH,aZ,aY,aR,R,a1,rfl,n,aj,k,b9,aK,cn,cp,aa⟩;have bE:=ay.app (ay.z) (bd.mono A.size) aj;have bH:=ay.app (ay.z) (bc.mono A.size) aj;have bJ:af (I.size+1) R:=af.app (af.z) K.lt aj;have bf:af (M.size+1) R:=af.app (af.z) B.lt aj;have bj:af (W.size+1) R:=af.app (af.z) P.lt aj;have bk:T 0 I.size R:=T.L (T.refl 0 _) aj A.size;replace E:=E.M aa;replace C:=C.M aa;replace K:=K.M aa;replace B:=B.M aa;replace P:=P.M aa;replace A:=A.L aa;have cU:=aa.size;have au:=n.le;have bM:=cn;have bP:=(fun b e h=>by have bn:=aK b e;omega:ay a1 ((M.size+1)));have bQ:=(fun b e h=>by have bn:=aK b e;omega:ay a1 ((W.size+1)));rw[←Ft (bN s.bb) on t.ml]at n;refine o.s1 (S.var B (_) (df {t with eL:=aH,q:={t.q with cM:=aZ},cB:=aY,el:=aR}) rfl rfl rfl rfl (mN _) fk (dY _) (by rw[dY];exact Nat.le_refl _) ((c0 ((dY _).trans (dY _).symm)))) fun bl bR=>?_;obtain⟨B,Q⟩:=bR;replace Q:=Q.bp;replace E:=E.ab Q (az.J a3);replace C:=C.ab Q (az.J a4);replace K:=K.ab Q (ah.J a5);replace P:=P.ab Q (ah.J bu.symm);replace n:=n.ab Q (ah.J bf.symm);replace k:=fun u=>(k u).ab Q (az.J bP);replace A:=A.bl Q (ag.J (aq.q bq));have cV:=Q.size;refine o.nil (a9 (G.t1 (fun b6=>G.L (fun cb=>?_))));refine o.aj ?_;refine cb (G.aB (fun _ cc _=>?_))
 refine G.bd (fun(i:(Nat))=>[(2,v),(3,.pointer (some ⟨I.size,0,none⟩)),(4,.pointer (some ⟨M.size,0,none⟩)),(6,.pointer (some ⟨W.size,0,none⟩)),(7,.int .i64 (i:Int))])
  (fun(i:(Nat)) (H:Heap)=>(i≤t.ml.length)∧(aU R 52 H dt 66 aH.v (ig (bN s.bb) on i t.ml))∧(T R bl.size R)∧V (aE [R]) bl H)
  (fun(i:(Nat))=>t.ml.length-i) 0 ⟨rfl,rfl,rfl,rfl,rfl,trivial⟩ ?_ ?_
 ·
  exact⟨(by omega),n,T.refl _ _,V.refl _ _⟩
 intro i a7 cd cE a8 bT;obtain⟨c5,n,aO,L⟩:=cd;have bU:af (W.size+1) R:=af.app (bj) P.lt aO;have bV:T 0 I.size R:=T.L (bk) aO A.size;replace E:=E.ab L (az.J bE);replace C:=C.ab L (az.J bH);replace K:=K.ab L (ah.J bJ);replace B:=B.ab L (ah.J bf);replace P:=P.ab L (ah.J bj);replace k:=fun u=>(k u).ab L (az.J bM);replace A:=A.bl L (ag.J (aq.q bk));have cY:=L.size;have au:=n.le;have am:=aO;have c6:=o7 (bN s.bb) on i t.ml;refine G.t2 (fun be cg=>G.L (fun cj=>?_));refine o.W ?_;refine o.v1 (Y.ai B.N rfl bx rfl ek) ?_;refine o.v1 (ar (B.N.drop 2) ez) ?_;refine o.v1 (Y.cast (v2:= .int .i64 (t.ml.length:Int)) (ba n.rd dG) (fJ (by rw[o7]))) ?_;refine o.v1 bG (o.nil (cj ?_));refine aT (fun bi=>?_) (fun bi=>?_)
 ·
  refine G.skip (be (G.t1 (fun bb=>G.aB (fun bm _ _=>G.L (fun bX=>?_)))));refine o.ax 2 ?_;refine o.v1 (ba C zh) ?_;refine o.v1 bG ?_;refine o.W ?_;refine o.join (d:=26) (v:= .bool (on.getD i false)) 5 (fun a6=>?_) ?_
  ·
   refine o.bj (d:=21) rfl (fun aL=>?_) (fun aL=>?_)
   ·
    refine o.ax 2 ?_;refine o.e (g:=fun ad=> .pointer (some ad)) (Y.bJ C (i) rfl zh cW rfl rfl) bh rfl rfl (fun cK bY=>?_);refine o.an (ar bY.N dr) ?_;refine o.N ?_;exact a6 _ (congrArg (fun b=>some (Value.bool b)) (by rw[List.getD_eq_getElem?_getD,List.getElem?_eq_getElem (by omega)];rfl)) (ae (ae (ae (ae (ae (bC (congrArg Value.bool (decide_eq_true aL).symm)))))))
   ·
    refine o.ax 5 ?_;exact a6 _ (congrArg (fun b=>some (Value.bool b)) (by rw[List.getD_eq_getElem?_getD,List.getElem?_eq_none (by omega)];rfl)) (ae (ae (ae (ae (ae (bC (congrArg Value.bool (decide_eq_false aL).symm)))))))
  refine o.nil (bX ?_);refine cI (fun aN=>?_) (fun aN=>?_)
  ·
   have cu:=aN;have aA:i<t.ml.length:=by omega
   obtain⟨y,aX⟩:∃q,q=t.ml[i]:=⟨_,rfl⟩;refine dC (fun X=>ak a7 X) [11,12,13] ?_;have N:=ak.refl a7;refine O.t1 0 rfl (fun X k=>Y.ai (B.N.M k) rfl bx rfl ek) N ?_;refine O.t1 1 rfl (fun X k=>ar ((B.N.drop 2).M k) ez) N ?_;refine O.W 2 rfl N ?_;refine O.t1 3 rfl (fun X k=>aW (K.N.M k) fg dx (b8 _)) N ?_;refine O.t1 4 rfl (fun X k=>Y.ai (B.N.M k) rfl bx rfl ek) N ?_;refine O.t1 5 rfl (fun X k=>ar ((B.N.drop 2).M k) ez) N ?_;refine O.W 6 rfl N ?_;refine O.t1 7 rfl (fun X k=>Y.qP (n.M k) (i) rfl dG dM rfl rfl (by first|rfl|omega) (by omega)) N ?_;refine O.t1 8 rfl (fun X k=>Y.fieldAddr ((n.N (j:=i) (by omega)).M k) rfl cy rfl rfl bO (by decide) rfl) N ?_;refine O.t1 9 rfl (fun X k=>Y.cast (v2:=aI y.n) (ar (((n.N (j:=i) (by omega)).drop 0).M k) bL) (by rw[sY aA,aX])) N ?_;refine O.aY 10 ?_;refine ch vc (uB s y.n w0 _ E.any) (fun bv b3 aB=>?_);obtain⟨rfl,an⟩:=aB;replace n:=n.M an;replace k:=fun u=>(k u).M an;replace L:=L.bc an;have cZ:=an.size;have b_:=N.L an;refine O.cn b_ ?_;have ca:=ak.refl b3;refine O.aY 11 ?_;refine hg rfl (Y.qP n (i) rfl dG dM rfl rfl (by first|rfl|omega) (by omega)) (.inl rfl) ?_;refine O.aY 12 ?_;refine hg rfl (Y.ai (n.N (j:=i) (by omega)) rfl cy rfl a_) (.inl rfl) ?_;refine O.aY 13 ?_;refine gJ rfl (S.s6 n i 1 ({y with J:=hG (bN s.bb) y.n}:bF) (b7 (hG (bN s.bb) y.n)) rfl rfl rfl rfl (jT _) a_ (bB _) (by omega) (by decide) (by rw[sY aA,←aX];exact E8 _ _)) (fun cJ bt=>?_);obtain⟨n,aF⟩:=bt;replace aF:=aF.md;replace L:=L.aJ aF (ag.J (aq.r am));have c1:=aF.size;refine⟨.inl rfl,?_⟩;refine cD ?_;have da:=ca;refine bm (bb (G.region ?_));refine o.W ?_;refine o.v1 bD ?_;refine o.aj ?_;refine aP.sub (a8 (i+1) _ ?_ ?_) ⟨rfl,rfl,rfl,rfl,(aD (by omega)),trivial⟩
   ·exact⟨(by omega),by rw[xI aA,←aX];unfold kV;rw[if_pos cu];exact n,am,L⟩
   ·first|omega|(simp only;omega)|(simp;omega)
  ·
   have cv:=aN;have aA:i<t.ml.length:=by omega
   refine G.skip (bm (bb (G.region ?_)));refine o.W ?_;refine o.v1 bD ?_;refine o.aj ?_;refine aP.sub (a8 (i+1) _ ?_ ?_) ⟨rfl,rfl,rfl,rfl,(aD (by omega)),trivial⟩
   ·exact⟨(by omega),by rw[Fv aA cv];exact n,am,L⟩
   ·first|omega|(simp only;omega)|(simp;omega)
 ·
  obtain rfl:i=t.ml.length:=by omega
  rw[Fu]at n;refine G.exit (cg (bT (cc ?_)));refine b6 (G.L (fun bZ=>?_));refine o.v1 (aW B.N gM fk (dY _)) ?_;refine o.s1 (dy P (_) (df {t with eL:=aH,q:={t.q with cM:=aZ},cB:=aY,el:=aR}) (mN _) fk (dY _) ((c0 (dY _).symm))) fun cL b1=>?_;obtain⟨P,ac⟩:=b1;replace ac:=ac.bp;replace n:=n.ab ac (ah.J bU.symm);replace k:=fun u=>(k u).ab ac (az.J bQ);replace A:=A.bl ac (ag.J (aq.q bz));have c3:=ac.size;refine o.nil (bZ ?_);refine G.ret (cw .ret (.inr rfl) _ _ _ (jA rfl rfl P.N gM fk (dY _)) ?_);exact⟨aH,aZ,aY,aR,_,rfl,(fun _=>⟨n.rd.imp (fun b _ e=>Or.inr e),(k ()).q.imp (fun b _ e=>Or.inl e),(k ()).e.imp (fun b _ e=>Or.inl e),(fun y hy=>((k ()).d y hy).imp (fun b _ e=>Or.inl e))⟩),(bg.eG (b9.mono (by omega)) n.le),(mB (fun b e=>by have bn:=aK b e;omega) (bV)),cp,A⟩
end tZ
end Go.Proofs.YtfjmpninmdjcaaaGreatDoor
