/-
  Contracts of functions of the program, and plain laws: put together of several texts.
-/
import Derived.Test.YtfjmpninmdjcaaaGreatDoorGc
import Derived.Test.YtfjmpninmdjcaaaGreatDoorGa
import Derived.Test.YtfjmpninmdjcaaaGreatDoorGb
set_option linter.unusedVariables false
set_option linter.unusedSimpArgs false
set_option linter.unusedSectionVars false
set_option linter.defProp false
set_option maxHeartbeats 8000000
set_option maxRecDepth 20000
namespace Go.Proofs.YtfjmpninmdjcaaaGreatDoor

namespace gq
open E Go.RowKit eM eP e1 e7 ev eQ eR fC fD pC fI fS ga gz
set_option maxRecDepth 100000 in
theorem jX:c4 Tryz.prog 44 71 33 48:=⟨Tryz.underlying44,_,_,rfl,rfl,rfl,rfl,rfl⟩
set_option maxRecDepth 100000 in
theorem jY:c4 Tryz.prog 45 62 2 40:=⟨Tryz.underlying45,_,_,rfl,rfl,rfl,rfl,rfl⟩
theorem xB{a:bA}{i:Nat}{x:UInt8}(h:a.k.1[i]?=some x):((bO a).drop 0)[i]?=some (.int .u8 x.toNat):=by
 rw[List.drop_zero,bO,List.getElem?_append_left (by rw[bB];have:=(List.getElem?_eq_some_iff.1 h).1;rw[a.k.2]at this;exact this),b7,List.getElem?_map,h];rfl
def oe(l:List bA):Prop:=l.Pairwise (fun a b=>blt a.k.1 b.k.1)
theorem oe.of{l:List bA}(h:de (cn l)):oe l:=by unfold de cn at h;rw[List.pairwise_map]at h;exact h
theorem EF(a b:bA)(w0:World)(I:Heap)
 :
 aC Tryz.prog w0 61 #[gZ a,gZ b] I (fun r d=>r= .int .i64 (Lib.compareBytes a.k.1 b.k.1)∧aj I d):=by
 refine aC.aK [gZ a,gZ b] Tryz.func61 ?_;intro O M;have j:aj I I:=W.refl _ _;refine G.L (fun ac=>?_);refine o.aO cq ?_;rintro v2 d ⟨rfl,k,A,S,ad⟩;have Q:d.size=I.size+1:=by rw[ad];simp
 replace j:=j.L A;have T:=A.size;replace k:Var 68 d I.size (bO a):=k;refine o.aO cq ?_;rintro v3 t ⟨rfl,n,q,au,E⟩;have R:t.size=d.size+1:=by rw[E];simp
 replace k:=k.M q;replace j:=j.L q;have am:=q.size;replace n:Var 68 t d.size (bO b):=n;refine o.ak ?_;refine ac (G.t1 (fun H=>?_));refine iW 4 (fun P L=>?_);refine o.v1 (Y.ai k.N rfl eX rfl a_) ?_;refine o.aK (g:=fun v=>v) (Y.pn (F:=fun c=>c=I.size) (f:=a1) (xs:=a.k.1) k.N rfl k.lt (a.k.2) (fun i x h=>⟨xB h,rfl⟩) (0) (32) rfl (fun w=> .inl (k9 w)) cN rfl (.inl ⟨rfl,rfl⟩) (.inl ⟨rfl,rfl⟩) (by omega) (by omega) (by decide)) fun v6 B=>?_;rw[List.drop_zero,List.take_of_length_le (by rw[a.k.2];omega)]at B;refine o.v1 (Y.ai n.N rfl eX rfl a_) ?_;refine o.aK (g:=fun v=>v) (Y.pn (F:=fun c=>c=d.size) (f:=a1) (xs:=b.k.1) n.N rfl n.lt (b.k.2) (fun i x h=>⟨xB h,rfl⟩) (0) (32) rfl (fun w=> .inl (k9 w)) cN rfl (.inl ⟨rfl,rfl⟩) (.inl ⟨rfl,rfl⟩) (by omega) (by omega) (by decide)) fun V C=>?_;rw[List.drop_zero,List.take_of_length_le (by rw[b.k.2];omega)]at C;refine o.nil (L _ ?_);refine aW B1 (Cz _ _ a.k.1 b.k.1 w0 _ B.any C.any) ?_;rintro v9 N ⟨rfl,K⟩;replace j:=j.L K;refine o.ak ?_;refine H ?_;refine G.ret (M ?_);exact⟨rfl,j⟩
theorem xo(w0:World)(H:Heap)(x y:bA):ff Tryz.prog w0 (.func (.func 61) #[] #[]) [gZ x,gZ y] H (fun r d=>r= .int .i64 (Lib.compareBytes x.k.1 y.k.1)∧aj H d):=
 ff.of (caps:=[]) B0 (EF x y w0 H)
theorem AQ(v1:Value)(l:List bA)(x:bA)(w0:World)(I:Heap)
 (A:bx I bO 33 v1 l) (bc:l.length≤1000000) (al:oe l):
 aC Tryz.prog w0 60 #[v1,gZ x,.func (.func 61) #[] #[]] I (fun r Z=>∃at_:Nat,∃fd:Bool,r= .tuple #[.int .i64 (at_:Int),.bool fd]∧(at_≤l.length∧(∀j (h:j<l.length),j<at_→blt l[j].k.1 x.k.1)∧(∀j (h:j<l.length),at_≤j→¬blt l[j].k.1 x.k.1))∧(fd=true↔∃h:at_<l.length,l[at_].k=x.k)∧aj I Z):=by
 refine aC.aK [v1,gZ x,.func (.func 61) #[] #[]] Tryz.func60 ?_;intro aO X;have C:aj I I:=W.refl _ _;replace A:=A.bw;refine G.L (fun aE=>?_);refine o.aO cq ?_;rintro v4 L ⟨rfl,E,M,aW,aF⟩;have a_:L.size=I.size+1:=by rw[aF];simp
 replace A:=A.M M;replace C:=C.L M;have aX:=M.size;replace E:Var 68 L I.size (bO x):=E;refine o.aQ 2 ?_;refine aE (G.L (fun aH=>?_));refine o.V ?_;refine o.v1 (bb A cu) ?_;refine o.ak ?_;refine aH (G.L (fun aI=>?_));refine o.aQ 3 ?_;refine aI (G.t1 (fun aJ=>G.aB (fun _ aa _=>?_)))
 refine G.bg (fun(aM:(Nat)×(Nat))=>match aM with|(i,j)=>[(0,v1),(2,.func (.func 61) #[] #[]),(4,.pointer (some ⟨I.size,0,none⟩)),(8,.int .i64 (l.length:Int)),(9,.int .i64 (i:Int)),(10,.int .i64 (j:Int))])
  (fun(i,j) (H:Heap)=>(i≤j∧j≤l.length)∧(∀q (h:q<l.length),q<i→blt l[q].k.1 x.k.1)∧(∀q (h:q<l.length),j≤q→¬blt l[q].k.1 x.k.1)∧aj L H)
  (fun(i,j)=>j-i) (0,l.length) ⟨rfl,rfl,rfl,rfl,rfl,rfl,trivial⟩ ?_ ?_
 ·
  exact⟨(by omega),fun q h U=>by omega,fun q h U=>by omega,W.refl _ _⟩
 rintro⟨i,j⟩ S ab aN ap ae;obtain⟨ba,N,U,B⟩:=ab;replace A:=A.M B;replace E:=E.M B;replace C:=C.L B;have aY:=B.size;refine G.t2 (fun af ag=>G.L (fun ah=>?_));refine o.ax 2 ?_;refine o.v1 bJ (o.nil (ah ?_));refine aU (fun ai=>?_) (fun ai=>?_)
 ·
  refine G.skip (af (G.aB (fun T _ _=>G.L (fun az=>?_))));refine o.ax 2 ?_;refine o.v1 (Y.cast (v2:= .int .i64 ((i+j:Nat):Int)) bD (fM (by omega))) ?_;refine o.v1 (Y.hA rfl gn ua rfl) ?_;refine o.v1 (Y.cast (v2:= .int .u64 (((i+j)/2:Nat):Int)) (Y.pj (1) rfl rfl rfl (by first|rfl|omega) (by omega)) (by rw[tD,UInt64.toNat_ofNat',Nat.mod_eq_of_lt (by omega)])) ?_;refine o.v1 (Y.vN rfl ua gn rfl (IntWalk.i64_in _ (by omega))) ?_;refine o.ak ?_;refine az (G.t1 (fun aA=>?_));refine iW 6 (fun aQ aK=>?_);refine o.ax 3 ?_;refine o.bR (Y.mS A ((i+j)/2) rfl cu ck rfl rfl (by first|rfl|omega) (by omega)) fun aR au=>?_;refine o.v1 (aT au.N hJ ck (c0 _)) ?_;refine o.v1 (aT E.N hJ ck (c0 _)) ?_;refine o.nil (aK _ ?_);refine o.kk rfl rfl rfl cQ rfl rfl (xo w0 _ _ x) (fun aZ a1 ak=>?_);obtain⟨rfl,Q⟩:=ak;replace B:=B.L Q;have a6:=Q.size;refine o.v1 bJ (o.nil (aA ?_));refine aU (fun K=>?_) (fun K=>?_)
  ·
   refine G.region ?_;refine o.V ?_;refine o.v1 bD ?_;refine o.ak ?_;refine T ?_;refine aP.sub (ap ((i+j)/2+1,j) _ ?_ ?_) ⟨rfl,rfl,rfl,(aD (by omega)),(aD (by omega)),(aD (by omega)),trivial⟩
   ·exact⟨(by omega),fun q h P=>by
     by_cases n:q=(i+j)/2
     ·subst n;exact oG.1 K
     ·exact nr (List.pairwise_iff_getElem.1 al q ((i+j)/2) h (by omega) (by omega)) (oG.1 K),U,B⟩
   ·first|omega|(simp only;omega)|(simp;omega)
  ·
   refine G.region ?_;refine o.aQ 2 ?_;refine T ?_;refine aP.sub (ap (i,(i+j)/2) _ ?_ ?_) ⟨rfl,rfl,rfl,(aD (by omega)),(aD (by omega)),(aD (by omega)),trivial⟩
   ·exact⟨(by omega),N,fun q h P V=>by
     by_cases n:q=(i+j)/2
     ·subst n;exact absurd (oG.2 V) K
     ·exact absurd (oG.2 (nr (List.pairwise_iff_getElem.1 al ((i+j)/2) q (by omega) h (by omega)) V)) K,B⟩
   ·first|omega|(simp only;omega)|(simp;omega)
 ·
  refine G.exit (ag (ae (aa ?_)));refine aJ (G.t1 (fun R=>?_));refine dx (fun t=>aj S t) [] ?_;have k:=aj.refl S;refine O.V 0 rfl k ?_;refine O.V 1 rfl k ?_;refine O.V 2 rfl k ?_;refine O.t1 3 rfl (fun t n=>bJ) k ?_;refine O.V 4 rfl k ?_;refine O.bj (d:=39) rfl (fun aq=>?_) (fun aq=>?_)
  ·
   refine O.bI 5 rfl (fun t n=>fc) bd k ?_;refine O.bI 6 rfl (fun t n=>fc) bd k ?_;refine O.bI 7 rfl (fun t n=>fc) bd k ?_;refine O.e (g:=fun ad=> .pointer (some ad)) 8 (by kernel_rfl) rfl (by kernel_rfl) (by kernel_rfl) (by kernel_rfl) (Y.mS A (_) rfl cu ck rfl rfl rfl (by first|omega|(simp;omega)|(simp;done))) bd rfl rfl k (fun aS am=>?_);refine O.bI 9 rfl (fun t n=>aT (am.N.M n) hJ ck (c0 _)) bd k ?_;refine O.bI 10 rfl (fun t n=>aT (E.N.M n) hJ ck (c0 _)) bd k ?_;refine O.aX 11 ?_;refine dq.kk rfl rfl rfl rfl bd rfl rfl (xo w0 _ _ x) (fun a7 aB ar=>?_);obtain⟨rfl,ac⟩:=ar;replace C:=C.L ac;have a8:=ac.size;have ay:=k.L ac;refine O.cc ay ?_;have F:=aj.refl aB;refine O.bI 12 rfl (fun t n=>b9) bd F ?_;refine O.t1 13 rfl (fun t n=>eh) F ?_;refine O.t1 14 rfl (fun t n=>ej) F ?_;refine O.t1 15 rfl (fun t n=>ej) F ?_;refine cx ?_;have aL:=F;refine R ?_;refine G.ret (X ?_);exact⟨i,_,rfl,⟨by omega,N,fun q h P=>U q h (by omega)⟩,⟨fun h=>⟨by omega,Subtype.ext (r9.1 (of_decide_eq_true h))⟩,fun⟨_,h⟩=>decide_eq_true (r9.2 (by rw[h]))⟩,C⟩
  ·
   refine O.g1 5 rfl rfl rfl rfl k ?_;refine O.g1 6 rfl rfl rfl rfl k ?_;refine O.g1 7 rfl rfl rfl rfl k ?_;refine O.g1 8 rfl rfl rfl rfl k ?_;refine O.g1 9 rfl rfl rfl rfl k ?_;refine O.g1 10 rfl rfl rfl rfl k ?_;refine O.g1 11 rfl rfl rfl rfl k ?_;refine O.g1 12 rfl rfl rfl rfl k ?_;refine O.t1 13 rfl (fun t n=>dH) k ?_;refine O.t1 14 rfl (fun t n=>ej) k ?_;refine O.t1 15 rfl (fun t n=>ej) k ?_;refine cx ?_;have aL:=k;refine R ?_;refine G.ret (X ?_);exact⟨i,_,rfl,⟨by omega,N,fun q h P=>U q h (by omega)⟩,⟨fun h=>(by cases h),fun⟨h,_⟩=>(by omega)⟩,C⟩
abbrev ry(z:aN×List cE):Value:=z.1.v
abbrev lH:aN×List cE:=(cM,[])
theorem sW{β:Type}{m:List (aH×β)}{k:aH}{b:β}{p:aH×β}(h:p∈fN m k b):p.2=b∨p∈m:=by
 unfold fN at h;split at h
 ·obtain⟨q,d,e⟩:=List.mem_map.1 h
  split at e
  ·rw[←e];exact .inl rfl
  ·rw[←e];exact .inr d
 ·rcases List.mem_append.1 h with h|h
  ·exact .inr h
  ·rw[List.mem_singleton.1 h];exact .inl rfl
theorem Ef{l:List e8}{m:List (aH×(aN×List cE))}{j:Nat}(aA:((cp l).map (·.1)).Nodup)(h:∀q,(aM m q).map (·.2)=aM (cp (l.take j)) q)(i:j<l.length):∀q,(aM (fN m l[j].n (l[j].v,l[j].l)) q).map (·.2)=aM (cp (l.take (j+1))) q:=by
 intro q;have e:cp (l.take (j+1))=cp (l.take j)++[(l[j].n,l[j].l)]:=by unfold cp;rw[List.take_succ_eq_append_getElem i,List.map_append];rfl
 have o:aM (cp (l.take j)) l[j].n=none:=by
  cases n:aM (cp (l.take j)) l[j].n with
  |none=>rfl
  |some z=>
   have k:=gQ.1 (show(aM (cp (l.take j)) l[j].n).isSome=true by rw[n];rfl)
   have U:(cp l).map (·.1)=(cp (l.take j)).map (·.1)++l[j].n::(cp (l.drop (j+1))).map (·.1):=by
    conv=>lhs;rw[←List.take_append_drop j l,List.drop_eq_getElem_cons i]
    unfold cp;rw[List.map_append,List.map_append,List.map_cons,List.map_cons]
   rw[U,List.nodup_append]at aA;exact absurd rfl (aA.2.2 _ k _ List.mem_cons_self)
 rw[kV,e,rA.sT];by_cases d:q=l[j].n
 ·rw[if_pos d,d,o,if_pos rfl];rfl
 ·rw[if_neg d,if_neg d,h];simp
theorem yy{aR:Nat→Prop}{H:Heap}{m:List (aH×(aN×List cE))}{k:aH}{z:aN×List cE}(h:∀p∈m,Rd aR H dt 65 p.2.1.v p.2.2)(d:z=(aM m k).getD lH):Rd aR H dt 65 z.1.v z.2:=by
 cases i:aM m k with
 |none=>rw[i]at d;rw[d];exact Rd.nil _ _ _ _
 |some y=>rw[i]at d;rw[d];exact h _ (E.o2 i)
theorem D_{m:List (aH×(aN×List cE))}{k:aH}{z:aN×List cE}{n:Nat}(h:∀p∈m,p.2.2.length≤n)(d:z=(aM m k).getD lH):z.2.length≤n:=by
 cases i:aM m k with
 |none=>rw[i]at d;rw[d];exact Nat.zero_le _
 |some y=>rw[i]at d;rw[d];exact h _ (E.o2 i)
theorem Ee{m:List (aH×(aN×List cE))}{d:kc}{y:bF}{s:aN}{z:aN×List cE}(h:∀q,(aM m q).map (·.2)=aM d q)(c7:de d)(hw:¬y.w=bz)(j:z=(aM m y.n).getD lH):∀q,(aM (fN m y.n (s,h0 (z.2++[⟨y.J,y.w,y.y⟩]))) q).map (·.2)=aM (hl d y) q:=by
 intro q
 have e:(aM d y.n).getD []=z.2:=by
  rw[←h]
  cases k:aM m y.n with
  |none=>rw[k]at j;rw[j];rfl
  |some w=>rw[k]at j;rw[j];rfl
 unfold hl;rw[if_neg hw,kV,o1 _ _ _ _ c7,e];by_cases i:q=y.n
 ·rw[if_pos i,if_pos i];rfl
 ·rw[if_neg i,if_neg i,h]
theorem Ec{m:List (aH×(aN×List cE))}{i:kc}{y:bF}(h:∀q,(aM m q).map (·.2)=aM i q)(hw:y.w=bz):∀q,(aM (ea m y.n) q).map (·.2)=aM (hl i y) q:=by
 intro q;unfold hl;rw[if_pos hw,jg,jg];by_cases d:q=y.n
 ·rw[if_pos d,if_pos d];rfl
 ·rw[if_neg d,if_neg d,h]
def h4(m:List (aH×cY))(x:aH):cA:=⟨x,(aM m x).getD bz⟩
def ik(m:List (aH×(aN×List cE)))(x:aH):e8:=⟨x,((aM m x).getD lH).1,((aM m x).getD lH).2⟩
theorem sR{β:Type}(f:aH→β):∀(out:List aH) (q:aH),aM (out.map (fun x=>(x,f x))) q=if q∈out then some (f q)else none
 |[],q=>by simp[aM]
 |x::out,q=>by
  rw[List.map_cons,aM,sR f out q];by_cases d:q=x
  ·subst d;simp
  ·simp[d]
theorem wS{β:Type}{f:aH→β}{out:List aH}(h:jJ out):de (out.map (fun x=>(x,f x))):=by
 unfold de;rw[List.pairwise_map];exact h
theorem Dk{m:List (aH×cY)}{u:dR}{out:List aH}(hu:de u)(j:∀q,aM m q=aM u q)(i:jJ out)(hm:∀k,k∈out↔k∈m.map (·.1)):bG (out.map (h4 m))=u:=by
 have e:bG (out.map (h4 m))=out.map (fun x=>(x,(aM m x).getD bz)):=by simp[bG,h4]
 rw[e];refine sw (wS i) hu (fun q=>?_);rw[sR,←j];by_cases h:q∈out
 ·rw[if_pos h]
  have U:=gQ.2 ((hm q).1 h);obtain⟨z,d⟩:=Option.isSome_iff_exists.1 U;rw[d];rfl
 ·rw[if_neg h]
  cases d:aM m q with
  |none=>rfl
  |some z=>exact absurd ((hm q).2 (gQ.1 (by rw[d];rfl))) h
theorem Dj{m:List (aH×cY)}{w:List (aH×(aN×List cE))}{u:dR}{d:kc}{out:List aH}(r:de d)(t:d.map (·.1)=u.map (·.1))(B:∀q,aM m q=aM u q)(hw:∀q,(aM w q).map (·.2)=aM d q)(A:jJ out)(hm:∀k,k∈out↔k∈m.map (·.1)):cp (out.map (ik w))=d:=by
 have e:cp (out.map (ik w))=out.map (fun x=>(x,((aM w x).getD lH).2)):=by simp[cp,ik]
 rw[e];refine sw (wS A) r (fun q=>?_)
 have o:q∈out↔(aM d q).isSome=true:=by
  rw[hm,←gQ,B,gQ,←t,gQ]
 rw[sR];by_cases h:q∈out
 ·rw[if_pos h]
  obtain⟨z,j⟩:=Option.isSome_iff_exists.1 (o.1 h);rw[j];have i:=hw q;rw[j]at i
  cases n:aM w q with
  |none=>rw[n]at i;cases i
  |some y=>rw[n]at i;rw[←i];rfl
 ·rw[if_neg h]
  cases j:aM d q with
  |none=>rfl
  |some z=>exact absurd (o.2 (by rw[j];rfl)) h
theorem ET(y:bA)(s:aN):(bO y).set 32 s.v=bO ⟨y.k,s,y.d⟩:=by
 unfold bO;rw[List.set_append,if_neg (by rw[bB];omega),bB];rfl
theorem vW{l:List bA}{x:bA}{p:Nat}(d:∀j (h:j<l.length),j<p→blt l[j].k.1 x.k.1)(n:p<l.length)(U:l[p].k=x.k):cn (l.set p x)=d_ (cn l) x.k.1 x.d:=by
 rw[Dx (k:=p) (by simpa[cn]using n) (fun j h i=>by have:=d j (by simpa[cn]using h) i;simpa[cn]using this) (by simp[cn,U])];simp[cn,List.map_set]
theorem C0{l:List bA}{x:bA}{p:Nat}(i:∀j (h:j<l.length),j<p→blt l[j].k.1 x.k.1)(n:∀j (h:j<l.length),p≤j→¬blt l[j].k.1 x.k.1)(A:p≤l.length)(U:¬ ∃h:p<l.length,l[p].k=x.k):cn (l.take p++x::l.drop p)=d_ (cn l) x.k.1 x.d:=by
 rw[sy (k:=p) (by simpa[cn]using A) (fun j h t=>by have:=i j (by simpa[cn]using h) t;simpa[cn]using this) (fun h=>by
  have d:p<l.length:=by simpa[cn]using h
  have o:=n p d (Nat.le_refl _);have q:¬l[p].k=x.k:=fun e=>U ⟨d,e⟩;simp only[cn,List.getElem_map];refine Classical.byContradiction (fun r=>q (Subtype.ext (lT o r))))]
 simp[cn,List.map_take,List.map_drop]
theorem yR{F aR:Nat→Prop}{H:Heap}{l:List bA}{x:bA}(p:Nat)(h:∀y∈l,Rd F H a1 1 y.v.v y.d)(d:∀b,F b→aR b)(i:Rd aR H a1 1 x.v.v x.d):∀y∈l.set p x,Rd aR H a1 1 y.v.v y.d:=by
 intro y hy;rcases List.mem_or_eq_of_mem_set hy with hy|hy
 ·exact(h y hy).imp (fun b _ e=>d b e)
 ·rw[hy];exact i
theorem DT{F aR:Nat→Prop}{H:Heap}{l:List bA}{x:bA}(p:Nat)(h:∀y∈l,Rd F H a1 1 y.v.v y.d)(d:∀b,F b→aR b)(i:Rd aR H a1 1 x.v.v x.d):∀y∈l.take p++x::l.drop p,Rd aR H a1 1 y.v.v y.d:=by
 intro y hy;rcases List.mem_append.1 hy with hy|hy
 ·exact(h y (List.mem_of_mem_take hy)).imp (fun b _ e=>d b e)
 ·rcases List.mem_cons.1 hy with hy|hy
  ·rw[hy];exact i
  ·exact(h y (List.mem_of_mem_drop hy)).imp (fun b _ e=>d b e)
theorem z8{el:List bA}{l:jH}{n:Nat}:(gB l (el.take n)).length≤l.length+n:=by
 have d:=rL (el.take n) l;have U:(el.take n).length≤n:=by rw[List.length_take];exact Nat.min_le_left _ _
 omega
set_option maxHeartbeats 16000000 in
theorem rP(s:cW)(t:b1)(F fV:Nat→Prop)(w0:World)(I:Heap)
 (al:eS F I s) (fk:bh F I.size) (M:e2 fV I t) (ec:bh fV I.size) (ok:s.m.Ok) (av:eI s.m t=0) (fP:lh t):
 aC Tryz.prog w0 24 #[eg s,dG t] I (fun r bk=>∃fQ:cW,r=eg fQ∧(eS (fun b=>I.size≤b) bk fQ)∧(fQ.m=s.m.ap t)∧aj I bk):=by
 refine aC.enter (args:=[eg s,dG t]) Tryz.func24 rfl rfl rfl ?_;intro kY kR;have B:aj I I:=W.refl _ _;have nf:=ok.ap av;have gN:=p2 av;have ng:=fP.a6;have nh:=fP.ml;have ni:=fP.el;have z3:=ok.iN;refine G.L (fun f0=>?_);refine o.aO cq ?_;rintro v2 bk ⟨rfl,aZ,e0,my,f1⟩;have f2:bk.size=I.size+1:=by rw[f1];simp
 replace al:=al.M e0;replace M:=M.M e0;replace B:=B.L e0;have mz:=e0.size;replace aZ:Var 47 bk I.size (bS s):=aZ;refine o.aO cq ?_;rintro v3 X ⟨rfl,E,ej,mA,f3⟩;have f4:X.size=bk.size+1:=by rw[f3];simp
 replace al:=al.M ej;replace M:=M.M ej;replace aZ:=aZ.M ej;replace B:=B.L ej;have mB:=ej.size;replace E:Var 32 X bk.size (c_ t):=E;refine o.aO (cV kC) ?_;rintro v4 ho ⟨rfl,C,dK,mD,f5⟩;have f6:ho.size=X.size+1:=by rw[f5];simp
 have im:T 0 I.size (X.size+1):=T.new B.size;replace al:=al.M dK;replace M:=M.M dK;replace aZ:=aZ.M dK;replace E:=E.M dK;replace B:=B.L dK;have mE:=dK.size;refine o.nil (f0 (G.L (fun f7=>?_)));refine o.v1 (aT aZ.N eC di (b4 _)) ?_;refine aW vt (zq s F w0 _ al (fk.mono B.size) ok) (fun mG N f8=>?_);obtain⟨s2,bd,aR,rfl,K,A,fI,kB,hg,fH,dP,dq⟩:=f8;have iq:=ay.app (ay.z) (ec.mono B.size) fI;have gT:af (X.size+1) bd:=af.app (af.z) C.lt fI;have gU:T 0 I.size bd:=T.L (T.refl 0 _) fI B.size;replace al:=al.M dq;replace M:=M.M dq;replace aZ:=aZ.M dq;replace E:=E.M dq;replace C:=C.M dq;replace B:=B.L dq;have mH:=dq.size;have gh:=A.le;have de:=kB;have fo:ay _ (X.size+1):=ay.iy hg (by first|exact mW|exact mX|omega);have m1:=K.g.len;have fE:∀c,aR c→I.size≤c:=fun c e=>by have dc:=hg c e;omega
 refine o.aO (cV kC) ?_;rintro v5 hp ⟨rfl,d,cJ,mI,f9⟩;have lv:hp.size=N.size+1:=by rw[f9];simp
 have fq:=(ay.new (fk.mono B.size):ay _ (N.size+1));have cR:=(ay.new (ec.mono B.size):ay _ (N.size+1));have fr:af (I.size+1) (N.size+1):=af.new aZ.lt;have c1:af (bk.size+1) (N.size+1):=af.new E.lt;have c3:af (X.size+1) (N.size+1):=af.new C.lt;have c4:af bd (N.size+1):=af.new A.le;have a5:=(ay.new (de.mono (by omega)):ay _ (N.size+1));have bT:T 0 I.size (N.size+1):=T.new B.size;replace al:=al.M cJ;replace M:=M.M cJ;replace aZ:=aZ.M cJ;replace E:=E.M cJ;replace C:=C.M cJ;replace A:=A.M cJ;replace K:=K.M cJ;replace B:=B.L cJ;have mJ:=cJ.size;refine o.s1 (dM d (_) (bS s2) (jT _) di (b4 _) ((c9 (b4 _).symm))) fun eO iu=>?_;obtain⟨d,b8⟩:=iu;replace b8:=b8.bs;replace al:=al.ab b8 (az.J fq);replace M:=M.ab b8 (az.J cR);replace aZ:=aZ.ab b8 (ah.J fr);replace E:=E.ab b8 (ah.J c1);replace C:=C.ab b8 (ah.J c3);replace A:=A.ab b8 (ah.J c4);replace K:=K.ab b8 (az.J a5);replace B:=B.bo b8 (ag.J (aq.q bT));have mK:=b8.size;refine o.nil (f7 ?_)
 refine G.cut (fun(aX:(List UInt8))=>[(2,.pointer (some ⟨I.size,0,none⟩)),(3,.pointer (some ⟨bk.size,0,none⟩)),(4,.pointer (some ⟨X.size,0,none⟩)),(5,.pointer (some ⟨N.size,0,none⟩))])
  (fun(aX:(List UInt8)) (H:Heap)=>(Var 47 H N.size (bS {s2 with an:=aX}))∧(aX=if t.bE=true then t.an else s2.an)∧W (aE [(N.size+1)]) eO H) (fun _ hc _=>?_) ?_
 ·
  have eP:W (aE [(N.size+1)]) eO eO:=W.refl _ _;have hF:=T.refl (N.size+1) eO.size;refine G.L (fun kn=>?_);refine o.v1 (Y.ai E.N rfl bu rfl cX) ?_;refine o.v1 (ar E.N dA) (o.nil (kn ?_));refine cK (fun fx=>?_) (fun fx=>?_)
  ·
   refine G.region ?_;refine o.v1 (Y.ai E.N rfl bu rfl bP) ?_;refine o.v1 (ar (E.N.drop 1) bN) ?_;refine o.v1 (Y.ai d.N rfl ca rfl bP) ?_;refine o.s1 (dj d 0 (bS {s2 with an:=t.an}) (rfl) bP (by rw[b4];omega) ((y5 _))) fun gc iv=>?_;obtain⟨d,eW⟩:=iv;replace eW:=eW.bs;replace eP:=eP.aJ eW (ag.J (aq.r hF));have mL:=eW.size;refine o.nil ?_;refine aP.sub (hc (t.an) _ ?_) ⟨rfl,rfl,rfl,rfl,trivial⟩;exact⟨d,by rw[if_pos fx],eP⟩
  ·
   refine G.skip ?_;refine aP.sub (hc (s2.an) _ ?_) ⟨rfl,rfl,rfl,rfl,trivial⟩;exact⟨d,by rw[if_neg (by simp[fx])],eP⟩
 ·
  intro aX eF hB;obtain⟨d,kF,cG⟩:=hB;replace al:=al.ab cG (az.J fq);replace M:=M.ab cG (az.J cR);replace aZ:=aZ.ab cG (ah.J fr);replace E:=E.ab cG (ah.J c1);replace C:=C.ab cG (ah.J c3);replace A:=A.ab cG (ah.J c4);replace K:=K.ab cG (az.J a5);replace B:=B.bo cG (ag.J (aq.q bT));have l7:=cG.size
  refine G.cut (fun(cN:(cZ)×(Nat→Prop))=>match cN with|(bg,cP)=>[(2,.pointer (some ⟨I.size,0,none⟩)),(3,.pointer (some ⟨bk.size,0,none⟩)),(4,.pointer (some ⟨X.size,0,none⟩)),(5,.pointer (some ⟨N.size,0,none⟩))])
   (fun(bg,cP) (H:Heap)=>(Var 47 H N.size (bS {s2 with an:=aX,q:=bg}))∧(∀u:Unit,Rd cP H c2 33 bg.cd.v bg.a6)∧(bh cP H.size)∧(ay cP (N.size+1))∧(ay cP bd)∧(ay cP (X.size+1))∧(∀c,cP c→I.size≤c)∧(bg.p=if t.al=true then(if t.q.k=0 then hE else t.q.p)else s.m.q)∧W (aE [(N.size+1)]) eF H) (fun _ fy _=>?_) ?_
  ·
   have bZ:W (aE [(N.size+1)]) eF eF:=W.refl _ _;have ff:=T.refl (N.size+1) eF.size;refine G.L (fun kr=>?_);refine o.v1 (Y.ai E.N rfl bu rfl cX) ?_;refine o.v1 (ar (E.N.drop 3) dA) (o.nil (kr ?_));refine cK (fun e1=>?_) (fun e1=>?_)
   ·
    refine G.L (fun ge=>?_);refine o.v1 (Y.ai E.N rfl bu rfl cS) ?_;refine o.v1 (Y.cast (v2:=er t.q) (aT ((E.N.drop 4).take 70) h9 cS (by rw[jc];exact ee _)) (b6 (jc t))) ?_;refine o.v1 (Y.ai d.N rfl ca rfl cS) ?_;refine o.s1 (S.var d (_) (bS {s2 with an:=aX,q:=t.q}) rfl rfl rfl rfl ((ko _)) cS (ee _) (by rw[b4];exact Nat.le_of_ble_eq_true rfl) ((q9 _))) fun lV iw=>?_;obtain⟨d,cD⟩:=iw;replace cD:=cD.bs;replace M:=M.ab cD (az.J cR);replace E:=E.ab cD (ah.J c1);replace C:=C.ab cD (ah.J c3);replace A:=A.ab cD (ah.J c4);replace B:=B.bo cD (ag.J (aq.q bT));replace bZ:=bZ.aJ cD (ag.J (aq.r ff));have et:=cD.size;refine o.nil (ge (G.L (fun kt=>?_)));refine o.v1 (Y.ai E.N rfl bu rfl cS) ?_;refine o.v1 (Y.ai (E.N.drop 4) rfl bt rfl ep) ?_;refine o.v1 (ar E.N.HL fi) ?_;refine aW vv (zf t.q.cd.v t.q.a6 w0 _ M.q.any (by omega)) (fun U l8 ku=>?_);obtain⟨hd,ei,rfl,ew,eQ,eR⟩:=ku;have iy:af (X.size+1) ei:=af.app (af.z) C.lt eQ;have iz:af bd ei:=af.app (af.z) A.le eQ;have gm:af (N.size+1) ei:=af.app (af.z) d.lt eQ;have iA:T 0 I.size ei:=T.L (T.refl 0 _) eQ B.size;replace E:=E.M eR;replace d:=d.M eR;replace bZ:=bZ.bc eR;have lW:=eR.size;have k1:=ew.le;refine o.v1 (Y.ai d.N rfl ca rfl cS) ?_;refine o.v1 (Y.ai (d.N.drop 3) rfl bt rfl ep) ?_;refine o.s1 (dj d 69 (bS {s2 with an:=aX,q:={t.q with cd:=hd}}) (rfl) ep (by rw[b4];omega) ((tO _ _))) fun lY iC=>?_;obtain⟨d,dz⟩:=iC;replace dz:=dz.bs;replace E:=E.ab dz (ah.J c1);replace ew:=ew.ab dz (ah.J gm.symm);replace bZ:=bZ.aJ dz (ag.J (aq.r ff));have lZ:=dz.size;refine o.nil (kt (G.L (fun kv=>?_)));refine o.v1 (Y.ai E.N rfl bu rfl cS) ?_;refine o.v1 (Y.ai (E.N.drop 4) rfl bt rfl b0) ?_;refine o.v1 (ar E.N.n4 cj) ?_;refine o.v1 b9 (o.nil (kv ?_));refine aU (fun kx=>?_) (fun kx=>?_)
    ·
     refine G.region ?_;refine o.v1 (Y.build (v:=er hE) rfl rfl (by intro w;kernel_rfl)) ?_;refine o.v1 (Y.ai d.N rfl ca rfl cS) ?_;refine o.s1 (S.var d (_) (bS {s2 with an:=aX,q:=hE}) rfl rfl rfl rfl ((ko _)) cS (ee _) (by rw[b4];exact Nat.le_of_ble_eq_true rfl) ((q9 _))) fun l0 iD=>?_;obtain⟨d,eZ⟩:=iD;replace eZ:=eZ.bs;replace bZ:=bZ.aJ eZ (ag.J (aq.r ff));have l1:=eZ.size;refine o.nil ?_;refine aP.sub (fy (hE,fun _=>False) _ ?_) ⟨rfl,rfl,rfl,rfl,trivial⟩;exact⟨d,(fun _=>Rd.nil _ _ _ _),(fun b e=>e.elim),(fun b e=>e.elim),(fun b e=>e.elim),(fun b e=>e.elim),(fun c e=>e.elim),by rw[if_pos e1,if_pos (by omega)];rfl,bZ⟩
    ·
     refine G.skip ?_;refine aP.sub (fy ({t.q with cd:=hd},fun b=>b+1=ei) _ ?_) ⟨rfl,rfl,rfl,rfl,trivial⟩;exact⟨d,(fun _=>ew.rd),bh.of ew.le,(ay.of (gm.symm)),(ay.of (iz.symm)),(ay.of (iy.symm)),(fun c e=>by have dc:=(iA);unfold T at dc;omega),by rw[if_pos e1,if_neg (by omega)];rfl,bZ⟩
   ·
    refine G.skip ?_;refine aP.sub (fy (s2.q,aR) _ ?_) ⟨rfl,rfl,rfl,rfl,trivial⟩;exact⟨d,(fun _=>K.q),(de.mono (by omega)),(a5),(fH),(fo),fE,by rw[if_neg (by simp[e1])];exact congrArg eA.q dP,bZ⟩
  ·
   rintro⟨bg,cP⟩ kZ hC;obtain⟨d,aL,gj,fc,kW,kX,a9,kN,cH⟩:=hC;replace al:=al.ab cH (az.J fq);replace M:=M.ab cH (az.J cR);replace aZ:=aZ.ab cH (ah.J fr);replace E:=E.ab cH (ah.J c1);replace C:=C.ab cH (ah.J c3);replace A:=A.ab cH (ah.J c4);replace K:=K.ab cH (az.J a5);replace B:=B.bo cH (ag.J (aq.q bT));have l2:=cH.size;refine G.L (fun d0=>?_);refine o.v1 (aT aZ.N eC di (b4 _)) ?_;refine aW vw (zd s F w0 _ al (fk.mono B.size)) (fun l9 ak ky=>?_);obtain⟨bK,rfl,P,be,cA⟩:=ky;have d1:=ay.app (ay.z) (ec.mono B.size) be;have d2:af (bk.size+1) (bK+1):=af.app (af.z) E.lt be;have gn:af (X.size+1) (bK+1):=af.app (af.z) C.lt be;have gp:af bd (bK+1):=af.app (af.z) A.le be;have ft:=ay.app (ay.z) (de.mono (by omega)) be;have d_:af (N.size+1) (bK+1):=af.app (af.z) d.lt be;have d3:=ay.app (ay.z) (gj.mono (by omega)) be;have gq:T 0 I.size (bK+1):=T.L (T.refl 0 _) be B.size;replace M:=M.M cA;replace E:=E.M cA;replace C:=C.M cA;replace A:=A.M cA;replace K:=K.M cA;replace d:=d.M cA;replace aL:=fun u=>(aL u).M cA;replace B:=B.L cA;have gs:=cA.size;have d4:=P.le;have kS:=xv s.ba ok.fa.nodup;refine o.ak ?_;refine d0 (G.L (fun d5=>?_));refine o.aO (Z.nR aI ry rfl) fun l_ e3 gt=>?_;obtain⟨rfl,L,cg,l3,d6⟩:=gt;have k6:e3.size=ak.size+1:=by rw[d6];simp
   have gr:=(ay.new (ec.mono B.size):ay _ (ak.size+1));have gu:af (bk.size+1) (ak.size+1):=af.new E.lt;have gx:af (X.size+1) (ak.size+1):=af.new C.lt;have gy:af bd (ak.size+1):=af.new A.le;have fu:=(ay.new (de.mono (by omega)):ay _ (ak.size+1));have dH:af (N.size+1) (ak.size+1):=af.new d.lt;have gz:=(ay.new (gj.mono (by omega)):ay _ (ak.size+1));have eT:af (bK+1) (ak.size+1):=af.new P.le;have gA:T 0 I.size (ak.size+1):=T.new B.size;replace M:=M.M cg;replace E:=E.M cg;replace C:=C.M cg;replace A:=A.M cg;replace K:=K.M cg;replace d:=d.M cg;replace aL:=fun u=>(aL u).M cg;replace P:=P.M cg;replace B:=B.L cg;have l4:=cg.size;have d7:=L.lt;refine o.ak ?_;refine d5 (G.t1 (fun d8=>G.L (fun d9=>?_)));refine o.v1 (Y.ai d.N rfl ca rfl fW) ?_;refine o.v1 (ar (d.N.drop 2) hx) ?_;refine o.v1 (bb K.g fG) ?_;refine o.V (o.nil (d9 ?_));refine G.aB (fun _ iE _=>?_)
   refine G.bg (fun(cN:(Nat)×(List (aH×(aN×List cE))))=>match cN with|(j,V)=>[(3,.pointer (some ⟨bk.size,0,none⟩)),(4,.pointer (some ⟨X.size,0,none⟩)),(5,.pointer (some ⟨N.size,0,none⟩)),(6,.map (some bK)),(7,.map (some ak.size)),(46,s2.cw.v),(47,.int .i64 (s2.bW.length:Int)),(48,.int .i64 (j:Int))])
    (fun(j,V) (H:Heap)=>(j≤s2.bW.length)∧(df H aI ry ak.size V)∧(∀p∈V,∃y∈s2.bW,p.2=(y.v,y.l))∧(∀q,(aM V q).map (·.2)=aM (cp (s2.bW.take j)) q)∧W (aE [(ak.size+1)]) e3 H)
    (fun(j,V)=>s2.bW.length-j) (0,[]) ⟨rfl,rfl,rfl,rfl,rfl,rfl,rfl,rfl,trivial⟩ ?_ ?_
   ·
    exact⟨(by omega),L,(fun p h=>by cases h),(fun q=>rfl),W.refl _ _⟩
   rintro⟨j,V⟩ co kz ma jC jD;obtain⟨mU,L,fO,fC,a6⟩:=kz;replace M:=M.ab a6 (az.J gr);replace E:=E.ab a6 (ah.J gu);replace C:=C.ab a6 (ah.J gx);replace A:=A.ab a6 (ah.J gy);replace K:=K.ab a6 (az.J fu);replace d:=d.ab a6 (ah.J dH);replace aL:=fun u=>(aL u).ab a6 (az.J gz);replace P:=P.ab a6 (ah.J eT);replace B:=B.bo a6 (ag.J (aq.q gA));have l5:=a6.size;have hG:=T.refl (ak.size+1) e3.size;refine G.L (fun jF=>?_);refine o.v1 bJ (o.nil (jF ?_));refine G.t2 (fun jG jH=>?_);refine aU (fun kA=>?_) (fun kA=>?_)
   ·
    refine G.skip (jG (G.t1 (fun jI=>G.aB (fun jJ _ _=>G.L (fun jK=>?_)))));have bn:j<s2.bW.length:=by omega
    obtain⟨y,bl⟩:∃q,q=s2.bW[j]:=⟨_,rfl⟩;have ev:y∈s2.bW:=by rw[bl];exact List.getElem_mem bn
    refine o.bR (Y.bL K.g (j) rfl fG fp rfl rfl) fun l6 jL=>?_;refine o.v1 (Y.cast (v2:= .agg (ek y).toArray) (aT jL.N lQ fp (fL _)) (by rw[bl])) ?_;refine o.aO (cV pA) ?_;rintro v9 hs ⟨rfl,dT,fD,mb,kc⟩;have lB:hs.size=co.size+1:=by rw[kc];simp
    have em:af (ak.size+1) (co.size+1):=af.new L.lt;have gP:T 0 e3.size (co.size+1):=T.new a6.size;replace L:=L.M fD;replace a6:=a6.bc fD;have lC:=fD.size;refine o.s1 (dM dT (_) (ek y) (ju y) fp (fL _) ((c9 (fL _).symm))) fun k8 hT=>?_;obtain⟨dT,dZ⟩:=hT;replace dZ:=dZ.bs;replace L:=L.ab dZ (ah.J em);replace a6:=a6.aJ dZ (ag.J (aq.q gP));have lD:=dZ.size;refine o.nil (jK (G.region ?_));refine o.V ?_;refine o.v1 (Y.ai dT.N rfl fZ rfl bP) ?_;refine o.v1 (ar dT.N bN) ?_;refine o.v1 (Y.ai dT.N rfl fZ rfl gS) ?_;refine o.v1 (ar (dT.N.drop 1) h_) ?_;refine o.s1 (S.l_ ((y.v,y.l)) L gv rfl ps Tryz.underlying9 rfl rfl rfl) fun k9 hU=>?_;obtain⟨L,ez⟩:=hU;replace ez:=ez.bs;replace a6:=a6.aJ ez (ag.J (aq.r hG));have lE:=ez.size;refine o.nil (jJ (jI (G.region ?_)));refine o.v1 bD ?_;refine o.V (o.nil ?_);refine aP.sub (jC (j+1,fN V y.n (y.v,y.l)) _ ?_ ?_) ⟨rfl,rfl,rfl,rfl,rfl,rfl,(aD (by omega)),(aD (by omega)),trivial⟩
    ·exact⟨(by omega),L,(fun p bF=>by rcases sW bF with h|h;exact⟨y,ev,h⟩;exact fO p h),(by rw[bl];exact Ef (by rw[show cp s2.bW=s.m.dK from congrArg eA.dK dP];exact ok.c7.nodup) fC bn),a6⟩
    ·first|omega|(simp only;omega)|(simp;omega)
   ·
    obtain rfl:j=s2.bW.length:=by omega
    rw[List.take_length,show cp s2.bW=s.m.dK from congrArg eA.dK dP]at fC;have kH:∀p∈V,p.2.2.length≤100:=fun p bF=>by obtain⟨y,hy,e⟩:=fO p bF;rw[e];exact ok.bW (y.n,y.l) (by rw[←show cp s2.bW=s.m.dK from congrArg eA.dK dP];exact List.mem_map.2 ⟨y,hy,rfl⟩)
    refine G.exit (jH (jD (iE ?_)));refine d8 (G.t1 (fun jM=>G.L (fun bR=>?_)));refine o.v1 (Y.ai E.N rfl bu rfl eo) ?_;refine o.v1 (ar (E.N.drop 2) eB) ?_;refine o.v1 (bb M.m dI) ?_;refine o.V (o.nil (bR ?_));refine G.aB (fun _ jN _=>?_)
    refine G.bg (fun(cN:(Nat)×(List (aH×cY))×(List (aH×(aN×List cE)))×(Nat→Prop))=>match cN with|(i,aJ,aF,bs)=>[(3,.pointer (some ⟨bk.size,0,none⟩)),(4,.pointer (some ⟨X.size,0,none⟩)),(5,.pointer (some ⟨N.size,0,none⟩)),(6,.map (some bK)),(7,.map (some ak.size)),(59,t.ei.v),(60,.int .i64 (t.ml.length:Int)),(61,.int .i64 (i:Int))])
     (fun(i,aJ,aF,bs) (H:Heap)=>(i≤t.ml.length)∧(df H aI bq bK aJ)∧(∀q,aM aJ q=aM ((t.ml.take i).foldl dL s.m.b8) q)∧(df H aI ry ak.size aF)∧(∀p∈aF,Rd bs H dt 65 p.2.1.v p.2.2)∧(bh bs H.size)∧(ay bs (bK+1))∧(ay bs (ak.size+1))∧(ay bs (N.size+1))∧(ay bs bd)∧(ay bs (X.size+1))∧(∀c,bs c→I.size≤c)∧(∀q,(aM aF q).map (·.2)=aM ((t.ml.take i).foldl hl s.m.dK) q)∧(∀p∈aF,p.2.2.length≤100)∧W (aE [(bK+1),(ak.size+1)]) co H)
     (fun(i,aJ,aF,bs)=>t.ml.length-i) (0,lF s.ba,V,aR) ⟨rfl,rfl,rfl,rfl,rfl,rfl,rfl,rfl,trivial⟩ ?_ ?_
    ·
     exact⟨(by omega),P,kS,L,(fun p bF=>by obtain⟨y,hy,e⟩:=fO p bF;rw[e];exact K.n y hy),(de.mono (by omega)),(ft),(fu),(a5),(fH),(fo),fE,fC,kH,W.refl _ _⟩
    rintro⟨i,aJ,aF,bs⟩ cv kd mc gC es;obtain⟨mS,P,dS,L,Q,fl,fS,fe,dX,fT,fU,a3,e6,fM,ae⟩:=kd;replace M:=M.ab ae (az.cons d1 (az.J gr));replace E:=E.ab ae (ah.cons d2 (ah.J gu));replace C:=C.ab ae (ah.cons gn (ah.J gx));replace A:=A.ab ae (ah.cons gp (ah.J gy));replace K:=K.ab ae (az.cons ft (az.J fu));replace d:=d.ab ae (ah.cons d_ (ah.J dH));replace aL:=fun u=>(aL u).ab ae (az.cons d3 (az.J gz));replace B:=B.bo ae (ag.cons (aq.q gq) (ag.J (aq.q gA)));have lG:=ae.size;have hH:=T.refl (bK+1) co.size;have fX:=T.refl (ak.size+1) co.size;refine G.L (fun jO=>?_);refine o.v1 bJ (o.nil (jO ?_));refine G.t2 (fun jP jQ=>?_);refine aU (fun ke=>?_) (fun ke=>?_)
    ·
     refine G.skip (jP (G.t1 (fun gD=>G.aB (fun gG _ _=>G.L (fun ex=>?_)))));have bn:i<t.ml.length:=by omega
     obtain⟨y,bl⟩:∃q,q=t.ml[i]:=⟨_,rfl⟩;have ev:y∈t.ml:=by rw[bl];exact List.getElem_mem bn
     refine o.bR (Y.bL M.m (i) rfl dI dO rfl rfl) fun lI jR=>?_;refine o.v1 (Y.cast (v2:= .agg (du y).toArray) (aT jR.N iF dO (e4 _)) (by rw[bl])) ?_;refine o.aO (cV mm) fun mM kf kg=>?_;obtain⟨rfl,bj,cm,lJ,jS⟩:=kg;have qd:kf.size=cv.size+1:=by rw[jS];simp
     have jd:af (X.size+1) (cv.size+1):=af.new C.lt;have je:af bd (cv.size+1):=af.new A.le;have jf:=(ay.new (de.mono (by omega)):ay _ (cv.size+1));have jg:af (N.size+1) (cv.size+1):=af.new d.lt;have gH:af (bK+1) (cv.size+1):=af.new P.le;have jh:af (ak.size+1) (cv.size+1):=af.new L.lt;have ji:=(ay.new (fl.mono (by omega)):ay _ (cv.size+1));have jj:T 0 I.size (cv.size+1):=T.new B.size;have jk:T 0 co.size (cv.size+1):=T.new ae.size;replace C:=C.M cm;replace A:=A.M cm;replace K:=K.M cm;replace d:=d.M cm;replace P:=P.M cm;replace L:=L.M cm;replace Q:=fun p aa=>(Q p aa).M cm;replace B:=B.L cm;replace ae:=ae.bc cm;have lK:=cm.size;refine o.s1 (dM bj (_) (du y) (kO y) dO (e4 _) ((c9 (e4 _).symm))) fun k_ hV=>?_;obtain⟨bj,bQ⟩:=hV;replace bQ:=bQ.bs;replace C:=C.ab bQ (ah.J jd);replace A:=A.ab bQ (ah.J je);replace K:=K.ab bQ (az.J jf);replace d:=d.ab bQ (ah.J jg);replace P:=P.ab bQ (ah.J gH);replace L:=L.ab bQ (ah.J jh);replace Q:=fun p aa=>(Q p aa).ab bQ (az.J ji);replace B:=B.bo bQ (ag.J (aq.q jj));replace ae:=ae.aJ bQ (ag.J (aq.q jk));have lL:=bQ.size;refine o.nil (ex (G.L (fun jl=>?_)));refine o.V ?_;refine o.v1 (aT bj.N iF dO (e4 _)) ?_;refine aW vx (xF bK aJ y w0 _ P) (fun m7 m8 kh=>?_);obtain⟨rfl,P,cr⟩:=kh;replace C:=C.ab cr (ah.J gn);replace A:=A.ab cr (ah.J gp);replace K:=K.ab cr (az.J ft);replace d:=d.ab cr (ah.J d_);replace L:=L.ab cr (ah.J eT.symm);replace Q:=fun p aa=>(Q p aa).ab cr (az.J fS);replace bj:=bj.ab cr (ah.J gH.symm);replace B:=B.bo cr (ag.J (aq.q gq));replace ae:=ae.aJ cr (ag.J (aq.r hH));have lM:=cr.size;refine o.nil (jl (G.L (fun jm=>?_)));refine o.v1 (Y.ai bj.N rfl cC rfl a_) ?_;refine o.v1 (Y.cast (v2:=bq y.w) (aT ((bj.N.drop 33).take 32) b_ a_ (by rw[e5];exact bB _)) (b6 (e5 _))) ?_;refine aW kK (k0 y.w w0 _) (fun m9 e7 ki=>?_);obtain⟨rfl,b2⟩:=ki;replace C:=C.M b2;replace A:=A.M b2;replace K:=K.M b2;replace d:=d.M b2;replace P:=P.M b2;replace L:=L.M b2;replace Q:=fun p aa=>(Q p aa).M b2;replace bj:=bj.M b2;replace B:=B.L b2;replace ae:=ae.bc b2;have lN:=b2.size;refine o.nil (jm ?_);refine aU (fun fB=>?_) (fun fB=>?_)
     ·
      refine G.region ?_;refine o.V ?_;refine o.v1 (Y.ai bj.N rfl cC rfl bP) ?_;refine o.v1 (ar bj.N bN) ?_;refine o.rr (Z.p9 L gv rfl ps Tryz.underlying9 rfl rfl) cQ rfl (fun la lb hX=>?_);obtain⟨rfl,L,dy⟩:=hX;replace dy:=dy.bs;replace P:=P.ab dy (ah.J eT);replace Q:=fun p aa=>(Q p aa).ab dy (az.J fe);replace ae:=ae.aJ dy (ag.J (aq.r fX));have lO:=dy.size;refine o.nil (gG (gD (G.region ?_)));refine o.v1 bD ?_;refine o.V (o.nil ?_);refine aP.sub (gC (i+1,j0 aJ y,ea aF y.n,bs) _ ?_ ?_) ⟨rfl,rfl,rfl,rfl,rfl,rfl,(aD (by omega)),(aD (by omega)),trivial⟩
      ·exact⟨(by omega),P,(fun q=>by rw[kp bn,←bl,sS,o3 (kq ok.fa),dS]),L,(fun p bF=>Q p (qC bF).1),(fl.mono (by omega)),fS,fe,dX,fT,fU,(by omega),by rw[kp bn,←bl];exact Ec e6 (by simpa using fB),(fun p bF=>fM p (qC bF).1),ae⟩
      ·first|omega|(simp only;omega)|(simp;omega)
     ·
      refine dx (fun cc=>aj e7 cc) [9] ?_;have bw:aj e7 e7:=W.refl _ _;obtain⟨z,et⟩:∃z,z=(aM aF y.n).getD lH:=⟨_,rfl⟩;have m6:=D_ fM et;refine O.V 0 rfl bw ?_;refine O.t1 1 rfl (fun cc K=>Y.ai (bj.N.M K) rfl cC rfl bP) bw ?_;refine O.t1 2 rfl (fun cc K=>ar (bj.N.M K) bN) bw ?_;refine O.V 3 rfl bw ?_;refine O.t1 4 rfl (fun cc K=>Y.ai (bj.N.M K) rfl cC rfl bP) bw ?_;refine O.t1 5 rfl (fun cc K=>ar (bj.N.M K) bN) bw ?_;refine O.t1 6 rfl (fun cc K=>Y.cast (v2:=z.1.v) (Y.lookup (z0:=lH) (L.M K).fo gv rfl ps Tryz.underlying9 zT rfl rfl) (by rw[et])) bw ?_;refine O.t1 7 rfl (fun cc K=>aT (bj.N.M K) iF dO (e4 _)) bw ?_;refine O.aX 8 ?_;refine cf BX (Ev z.1.v z.2 y w0 _ (yy Q et).any (by omega)) (fun id kj kk=>?_);obtain⟨hf,cL,rfl,ey,br,dw⟩:=kk;have jn:af (X.size+1) cL:=af.app (af.z) C.lt br;have jo:af bd cL:=af.app (af.z) A.le br;have jq:af (N.size+1) cL:=af.app (af.z) d.lt br;have jr:af (bK+1) cL:=af.app (af.z) P.le br;have gI:af (ak.size+1) cL:=af.app (af.z) L.lt br;have js:T 0 I.size cL:=T.L (T.refl 0 _) br B.size;have hY:T 0 e7.size cL:=T.L (T.refl 0 _) br bw.size;replace K:=K.M dw;replace P:=P.M dw;replace L:=L.M dw;replace Q:=fun p aa=>(Q p aa).M dw;replace ae:=ae.bc dw;replace bw:=bw.L dw;have lP:=dw.size;have k2:=ey.le;refine⟨.inr bw,O.narrow (SH2:=fun cc=>W (aE [cL]) kj cc) (fun cc K=>(W.aJ (ks:=[]) (bw.kU []) K (ag.J (aq.q hY))).nil) ?_⟩;refine O.aX 9 ?_;refine gL rfl (S.l_ ((hf,h0 (z.2++[⟨y.J,y.w,y.y⟩]))) L gv rfl ps Tryz.underlying9 rfl rfl rfl) (fun ld hZ=>?_);obtain⟨L,dk⟩:=hZ;replace dk:=dk.bs;replace P:=P.ab dk (ah.J eT);replace Q:=fun p aa=>(Q p aa).ab dk (az.J fe);replace ey:=ey.ab dk (ah.J gI.symm);replace ae:=ae.aJ dk (ag.J (aq.r fX));have lR:=dk.size;refine⟨.inl rfl,?_⟩;refine cx ?_;refine gG (gD (G.region ?_));refine o.v1 bD ?_;refine o.V (o.nil ?_);refine aP.sub (gC (i+1,j0 aJ y,fN aF y.n (hf,h0 (z.2++[⟨y.J,y.w,y.y⟩])),fun b=>bs b∨b+1=cL) _ ?_ ?_) ⟨rfl,rfl,rfl,rfl,rfl,rfl,(aD (by omega)),(aD (by omega)),trivial⟩
      ·exact⟨(by omega),P,(fun q=>by rw[kp bn,←bl,sS,o3 (kq ok.fa),dS]),L,(fun p bF=>by rcases sW bF with h|h;rw[h];exact ey.rd.imp (fun b _ e=> .inr e);exact(Q p h).imp (fun b _ e=> .inl e)),bh.eG (fl.mono (by omega)) ey.le,ay.eG (fS) (jr),ay.eG (fe) (gI),ay.eG (dX) (jq),ay.eG (fT) (jo),ay.eG (fU) (jn),mC a3 (js),by rw[kp bn,←bl];exact Ee e6 (qo ok.c7) (by simpa using fB) et,(fun p bF=>by rcases sW bF with h|h;rw[h];exact qw _;exact fM p h),ae⟩
      ·first|omega|(simp only;omega)|(simp;omega)
    ·
     obtain rfl:i=t.ml.length:=by omega
     rw[List.take_length]at dS e6;have mY:=sQ P.fo.nodup (kq ok.fa).nodup dS;have m2:=gN.g_;refine G.exit (jQ (es (jN ?_)));refine jM (G.L (fun jt=>?_));refine o.v1 (Y.ai d.N rfl ca rfl hb) ?_;refine o.s1 (dj d 1 (bS {s2 with an:=aX,q:=bg,en:=cM,ba:=[]}) (rfl) hb (by rw[b4];omega) ((tN cM []))) fun lf h2=>?_;obtain⟨d,bC⟩:=h2;replace bC:=bC.bs;replace M:=M.ab bC (az.J cR);replace E:=E.ab bC (ah.J c1);replace C:=C.ab bC (ah.J c3);replace A:=A.ab bC (ah.J c4);replace K:=K.ab bC (az.J a5);replace aL:=fun u=>(aL u).ab bC (az.J fc);replace P:=P.ab bC (ah.J d_.symm);replace L:=L.ab bC (ah.J dH.symm);replace Q:=fun p aa=>(Q p aa).ab bC (az.J dX);replace B:=B.bo bC (ag.J (aq.q bT));have lS:=bC.size;refine o.v1 (Y.ai d.N rfl ca rfl fW) ?_;refine o.s1 (dj d 2 (bS {s2 with an:=aX,q:=bg,en:=cM,ba:=[],cw:=cM,bW:=[]}) (rfl) fW (by rw[b4];omega) ((q8 cM []))) fun iG h3=>?_;obtain⟨d,bE⟩:=h3;replace bE:=bE.bs;replace M:=M.ab bE (az.J cR);replace E:=E.ab bE (ah.J c1);replace C:=C.ab bE (ah.J c3);replace A:=A.ab bE (ah.J c4);replace K:=K.ab bE (az.J a5);replace aL:=fun u=>(aL u).ab bE (az.J fc);replace P:=P.ab bE (ah.J d_.symm);replace L:=L.ab bE (ah.J dH.symm);replace Q:=fun p aa=>(Q p aa).ab bE (az.J dX);replace B:=B.bo bE (ag.J (aq.q bT));have lT:=bE.size;refine o.nil (jt (G.t1 (fun jv=>G.L (fun jw=>?_))));refine o.V ?_;refine aW vy (w6 bK w0 _) (fun m_ na km=>?_);obtain⟨eY,rfl,cb,fK,bL⟩:=km;have h5:af (X.size+1) (eY+1):=af.app (af.z) C.lt fK;have h6:af bd (eY+1):=af.app (af.z) A.le fK;have f_:af (N.size+1) (eY+1):=af.app (af.z) d.lt fK;replace M:=M.M bL;replace E:=E.M bL;replace C:=C.M bL;replace A:=A.M bL;replace K:=K.M bL;replace d:=d.M bL;replace aL:=fun u=>(aL u).M bL;replace P:=P.M bL;replace L:=L.M bL;replace Q:=fun p aa=>(Q p aa).M bL;replace B:=B.L bL;have g0:=bL.size;have k3:=cb.le;refine aW BY (G9 eY bK bq aJ w0 _ cb P (by omega)) (fun ih bm g1=>?_);obtain⟨g2,g3,ab,rfl,on,jx,dR,bx⟩:=g1;have hK:af (N.size+1) g3:=af.app (af.z) d.lt jx;replace M:=M.M bx;replace E:=E.M bx;replace C:=C.M bx;replace A:=A.M bx;replace K:=K.M bx;replace d:=d.M bx;replace aL:=fun u=>(aL u).M bx;replace P:=P.M bx;replace L:=L.M bx;replace Q:=fun p aa=>(Q p aa).M bx;replace cb:=cb.M bx;replace B:=B.L bx;have g4:=bx.size;have k4:=on.le;have kJ:=nV (tr dR.1) (fun k kG=>(dR.2 k).1 kG);rw[List.length_map]at kJ;refine o.v1 (bb on.rd jE) ?_;refine o.V (o.nil (jw ?_));refine G.aB (fun _ jy _=>?_)
     refine G.bg (fun(cN:(Nat)×(aN)×(Nat)×(aN)×(Nat))=>match cN with|(ai,k5,bV,ir,bU)=>[(3,.pointer (some ⟨bk.size,0,none⟩)),(4,.pointer (some ⟨X.size,0,none⟩)),(5,.pointer (some ⟨N.size,0,none⟩)),(6,.map (some bK)),(7,.map (some ak.size)),(88,g2.v),(89,.int .i64 (ab.length:Int)),(90,.int .i64 (ai:Int))])
      (fun(ai,k5,bV,ir,bU) (H:Heap)=>(ai≤ab.length)∧(Var 47 H N.size (bS {s2 with an:=aX,q:=bg,en:=k5,ba:=(ab.take ai).map (h4 aJ),cw:=ir,bW:=(ab.take ai).map (ik aF)}))∧(aV bV 71 H dB 33 k5.v ((ab.take ai).map (h4 aJ)))∧(aV bU 62 H ek 2 ir.v ((ab.take ai).map (ik aF)))∧(T 0 bm.size bV)∧(T 0 bm.size bU)∧(af (N.size+1) bV)∧(af (N.size+1) bU)∧(af bV bU)∧W (aE [(N.size+1)]) bm H)
      (fun(ai,k5,bV,ir,bU)=>ab.length-ai) (0,cM,0,cM,0) ⟨rfl,rfl,rfl,rfl,rfl,rfl,rfl,rfl,trivial⟩ ?_ ?_
     ·
      exact⟨(by omega),d,aV.nil hW lo,aV.nil fL ju,T.refl _ _,T.refl _ _,af.z,af.z,af.z,W.refl _ _⟩
     rintro⟨ai,k5,bV,ir,bU⟩ dr g5 ii jz jA;obtain⟨mZ,d,aS,aQ,dY,eG,hz,hA,hI,R⟩:=g5;have hL:af (X.size+1) bV:=af.app (af.z) C.lt dY;have hM:af bd bV:=af.app (af.z) A.le dY;have dE:af (ak.size+1) bV:=af.app (af.z) L.lt dY;have hO:T 0 I.size bV:=T.L (T.refl 0 _) dY B.size;have hP:af (X.size+1) bU:=af.app (af.z) C.lt eG;have hQ:af bd bU:=af.app (af.z) A.le eG;have cy:T 0 I.size bU:=T.L (T.refl 0 _) eG B.size;replace M:=M.ab R (az.J cR);replace E:=E.ab R (ah.J c1);replace C:=C.ab R (ah.J c3);replace A:=A.ab R (ah.J c4);replace K:=K.ab R (az.J a5);replace aL:=fun u=>(aL u).ab R (az.J fc);replace P:=P.ab R (ah.J d_.symm);replace L:=L.ab R (ah.J dH.symm);replace Q:=fun p aa=>(Q p aa).ab R (az.J dX);replace cb:=cb.ab R (ah.J f_.symm);replace on:=on.ab R (ah.J hK.symm);replace B:=B.bo R (ag.J (aq.q bT));have g6:=R.size;have ht:=aS.le;have hv:=aQ.le;have fg:=hz;have eK:=hA;have ga:=hI;have fY:=T.refl (N.size+1) bm.size;have gb:=dY;have gd:=eG;refine G.L (fun iT=>?_);refine o.v1 bJ (o.nil (iT ?_));refine G.t2 (fun iW iX=>?_);refine aU (fun g7=>?_) (fun g7=>?_)
     ·
      refine G.skip (iW (G.t1 (fun iY=>G.aB (fun iZ _ _=>G.L (fun i_=>?_)))));have bn:ai<ab.length:=by omega
      obtain⟨x,hex⟩:∃x,x=ab[ai]:=⟨_,rfl⟩;have hk:(ab.take (ai+1)).map (h4 aJ)=(ab.take ai).map (h4 aJ)++[h4 aJ x]:=by rw[List.take_succ_eq_append_getElem bn,List.map_append,←hex];rfl
      have hn:(ab.take (ai+1)).map (ik aF)=(ab.take ai).map (ik aF)++[ik aF x]:=by rw[List.take_succ_eq_append_getElem bn,List.map_append,←hex];rfl
      have m3:(ab.take ai).length=ai:=by rw[List.length_take];omega
      refine o.v1 (mj on (ai) jE bP) ?_;refine o.v1 (Y.cast (v2:=aI x) (ar (on.N (j:=ai) (by first|omega|(simp;omega)|(simp;done))) bN) (by rw[hex])) ?_;refine o.ak ?_;refine i_ (G.L (fun jb=>?_));refine o.v1 (Y.ai d.N rfl ca rfl hb) ?_;refine o.v1 (ar (d.N.drop 1) ix) ?_;refine o.ax 3 ?_;refine o.v1 (Y.lookup (z0:=bz) P.fo gv rfl k7 Tryz.underlying9 nc rfl rfl) ?_;refine o.v1 (Y.build (v:= .agg (dB (h4 aJ x)).toArray) rfl rfl (by intro w;exact rY _ _)) ?_;refine o.aO (cT _ ([h4 aJ x]) jX hW lo (rfl)) fun g8 gl jB=>?_;obtain⟨kT,dC,lg,hR⟩:=jB;have lx:gl.size=dr.size+1:=by rw[hR];simp
      replace L:=L.M dC;replace d:=d.M dC;replace aS:=aS.M dC;replace aQ:=aQ.M dC;replace R:=R.bc dC;have g9:=dC.size;refine o.aO (dQ aS kT.rd jX (by simp;omega) (by simp;omega)) fun gJ lU fb=>?_;obtain⟨dJ,aS,bY,dg⟩:=fb;replace bY:T bV gl.size dJ:=bY;replace dg:=dg.md;have fh:af (N.size+1) dJ:=af.app (fg) d.lt bY;have gf:af bU dJ:=af.app (ga.symm) aQ.le bY;have iH:T 0 bm.size dJ:=T.L (gb) bY R.size;replace L:=L.ab dg (ah.J dE);replace d:=d.ab dg (ah.J fg);replace aQ:=aQ.ab dg (ah.J ga.symm);replace R:=R.aJ dg (ag.J (aq.q gb));have mN:=dg.size;have ht:=aS.le;obtain⟨fw,rfl⟩:∃s:aN,gJ=s.v:=⟨cl gJ,aS.bl.symm⟩;refine o.v1 (Y.ai d.N rfl ca rfl hb) ?_;refine o.s1 (dj d 1 (bS {s2 with an:=aX,q:=bg,en:=fw,ba:=(ab.take ai).map (h4 aJ)++[h4 aJ x],cw:=ir,bW:=(ab.take ai).map (ik aF)}) (rfl) hb (by rw[b4];omega) ((tN _ _))) fun h7 h8=>?_;obtain⟨d,am⟩:=h8;replace am:=am.bs;replace L:=L.ab am (ah.J dH.symm);replace aS:=aS.ab am (ah.J fh.symm);replace aQ:=aQ.ab am (ah.J eK.symm);replace R:=R.aJ am (ag.J (aq.r fY));have aw:=am.size;refine o.nil (jb (G.region ?_));refine o.v1 (Y.ai d.N rfl ca rfl fW) ?_;refine o.v1 (ar (d.N.drop 2) hx) ?_;refine o.ax 3 ?_;refine o.v1 (Y.lookup (z0:=lH) L.fo gv rfl ps Tryz.underlying9 zT rfl rfl) ?_;refine o.v1 (Y.build (v:= .agg (ek (ik aF x)).toArray) rfl rfl (by intro w;kernel_rfl)) ?_;refine o.aO (cT _ ([ik aF x]) jY fL ju (rfl)) fun he bf jU=>?_;obtain⟨kU,ed,lj,dW⟩:=jU;have ly:bf.size=h7.size+1:=by rw[dW];simp
      replace d:=d.M ed;replace aS:=aS.M ed;replace aQ:=aQ.M ed;replace R:=R.bc ed;have mQ:=ed.size;refine o.aO (dQ aQ kU.rd jY (by simp;omega) (by simp;omega)) fun dd mR jV=>?_;obtain⟨eb,aQ,ef,dD⟩:=jV;replace ef:T bU bf.size eb:=ef;replace dD:=dD.md;have gk:af (N.size+1) eb:=af.app (eK) d.lt ef;have iI:af dJ eb:=af.app (gf.symm) aS.le ef;have gi:T 0 bm.size eb:=T.L (gd) ef R.size;replace d:=d.ab dD (ah.J eK);replace aS:=aS.ab dD (ah.J gf.symm);replace R:=R.aJ dD (ag.J (aq.q gd));have mV:=dD.size;have hv:=aQ.le;obtain⟨gW,rfl⟩:∃s:aN,dd=s.v:=⟨cl dd,aQ.bl.symm⟩;refine o.v1 (Y.ai d.N rfl ca rfl fW) ?_;refine o.s1 (dj d 2 (bS {s2 with an:=aX,q:=bg,en:=fw,ba:=(ab.take ai).map (h4 aJ)++[h4 aJ x],cw:=gW,bW:=(ab.take ai).map (ik aF)++[ik aF x]}) (rfl) fW (by rw[b4];omega) ((q8 _ _))) fun lz cs=>?_;obtain⟨d,dF⟩:=cs;replace dF:=dF.bs;replace aS:=aS.ab dF (ah.J fh.symm);replace aQ:=aQ.ab dF (ah.J gk.symm);replace R:=R.aJ dF (ag.J (aq.r fY));have hm:=dF.size;refine o.nil (iZ (iY (G.region ?_)));refine o.v1 bD ?_;refine o.V (o.nil ?_);refine aP.sub (jz (ai+1,fw,dJ,gW,eb) _ ?_ ?_) ⟨rfl,rfl,rfl,rfl,rfl,rfl,(aD (by omega)),(aD (by omega)),trivial⟩
      ·exact⟨(by omega),(by rw[hk,hn];exact d),(by rw[hk];exact aS),(by rw[hn];exact aQ),iH,gi,fh,gk,iI,R⟩
      ·first|omega|(simp only;omega)|(simp;omega)
     ·
      obtain rfl:ai=ab.length:=by omega
      rw[List.take_length]at d aS aQ;refine G.exit (iX (jA (jy ?_)));refine jv (G.t1 (fun jW=>G.L (fun jZ=>?_)));refine o.v1 (Y.ai E.N rfl bu rfl dv) ?_;refine o.v1 (ar E.N.fX dV) ?_;refine o.v1 (bb M.e cu) ?_;refine o.V (o.nil (jZ ?_));refine G.aB (fun _ j1 _=>?_)
      refine G.bg (fun(cN:(Nat)×(aN)×(Nat)×(List bA)×(Nat→Prop))=>match cN with|(i4,cz,bp,a8,bX)=>[(4,.pointer (some ⟨X.size,0,none⟩)),(5,.pointer (some ⟨N.size,0,none⟩)),(116,t.ct.v),(117,.int .i64 (t.el.length:Int)),(118,.int .i64 (i4:Int))])
       (fun(i4,cz,bp,a8,bX) (H:Heap)=>(i4≤t.el.length)∧(Var 47 H N.size (bS {s2 with an:=aX,q:=bg,en:=k5,ba:=(ab.map (h4 aJ)),cw:=ir,bW:=(ab.map (ik aF)),ct:=cz,el:=a8}))∧(aV bp 68 H bO 33 cz.v a8)∧(∀y∈a8,Rd bX H a1 1 y.v.v y.d)∧(bh bX H.size)∧(ay bX (N.size+1))∧(ay bX bp)∧(ay bX (X.size+1))∧(∀c,bX c→I.size≤c)∧(cn a8=gB s.m.gD (t.el.take i4))∧(T bd dr.size bp)∧(af (N.size+1) bp)∧W (aE [(N.size+1),bd]) dr H)
       (fun(i4,cz,bp,a8,bX)=>t.el.length-i4) (0,s2.ct,bd,s2.el,aR) ⟨rfl,rfl,rfl,rfl,rfl,trivial⟩ ?_ ?_
      ·
       exact⟨(by omega),d,A,K.d,(de.mono (by omega)),(a5),(fH),(fo),fE,congrArg eA.gD dP,T.refl _ _,c4.symm,W.refl _ _⟩
      rintro⟨i4,cz,bp,a8,bX⟩ cI aA nb gY a7;obtain⟨mT,d,A,aO,eE,bI,e_,fR,a4,dN,fm,hD,ac⟩:=aA;have iK:af (X.size+1) bp:=af.app (gT) C.lt fm;have iL:T 0 I.size bp:=T.L (gU) fm B.size;replace M:=M.ab ac (az.cons cR (az.J iq));replace C:=C.ab ac (ah.cons c3 (ah.J gT));replace aL:=fun u=>(aL u).ab ac (az.cons fc (az.J kW));replace Q:=fun p aa=>(Q p aa).ab ac (az.cons dX (az.J fT));replace cb:=cb.ab ac (ah.cons f_.symm (ah.J h6.symm));replace aS:=aS.ab ac (ah.cons fg.symm (ah.J hM.symm));replace aQ:=aQ.ab ac (ah.cons eK.symm (ah.J hQ.symm));replace B:=B.bo ac (ag.cons (aq.q bT) (ag.J (aq.q gU)));have m0:=ac.size;have gh:=A.le;have eL:=hD;have bv:=T.refl (N.size+1) dr.size;have eM:=fm;have kI:=congrArg List.length dN;have mO:=z8 (el:=t.el) (l:=s.m.gD) (n:=i4);simp only[cn,List.length_map]at kI;have kE:oe a8:=oe.of (by rw[dN];exact qn ok.sL);refine G.L (fun fF=>?_);refine o.v1 bJ (o.nil (fF ?_));refine G.t2 (fun j2 fn=>?_);refine aU (fun j3=>?_) (fun j3=>?_)
      ·
       refine G.skip (j2 (G.t1 (fun gZ=>G.aB (fun dl _ _=>G.L (fun j4=>?_)))));have bn:i4<t.el.length:=by omega
       obtain⟨y,bl⟩:∃q,q=t.el[i4]:=⟨_,rfl⟩;have ev:y∈t.el:=by rw[bl];exact List.getElem_mem bn
       have m5:y.d.length≤65536:=by
        have eu:=o0 gN.gD y ev;unfold gE at eu;split at eu
        ·cases eu
        ·split at eu
         ·cases eu
         ·omega
       refine o.bR (Y.bL M.e (i4) rfl cu ck rfl rfl) fun gg cF=>?_;refine o.v1 (Y.cast (v2:= .agg (bO y).toArray) (aT cF.N hJ ck (c0 _)) (by rw[bl])) ?_;refine o.aO (cV kD) fun nd kQ hu=>?_;obtain⟨rfl,bo,bi,m4,j7⟩:=hu;have lk:kQ.size=cI.size+1:=by rw[j7];simp
       have dn:=(ay.new (ec.mono B.size):ay _ (cI.size+1));have iM:af (X.size+1) (cI.size+1):=af.new C.lt;have gK:af bp (cI.size+1):=af.new A.le;have gM:af (N.size+1) (cI.size+1):=af.new d.lt;have gO:=(ay.new (eE.mono (by omega)):ay _ (cI.size+1));have iN:T 0 I.size (cI.size+1):=T.new B.size;have ce:T 0 dr.size (cI.size+1):=T.new ac.size;replace M:=M.M bi;replace C:=C.M bi;replace A:=A.M bi;replace d:=d.M bi;replace aO:=fun y aY=>(aO y aY).M bi;replace B:=B.L bi;replace ac:=ac.bc bi;have hw:=bi.size;refine o.s1 (dM bo (_) (bO y) (gX y) ck (c0 _) ((c9 (c0 _).symm))) fun ll fJ=>?_;obtain⟨bo,au⟩:=fJ;replace au:=au.bs;replace M:=M.ab au (az.J dn);replace C:=C.ab au (ah.J iM);replace A:=A.ab au (ah.J gK);replace d:=d.ab au (ah.J gM);replace aO:=fun y aY=>(aO y aY).ab au (az.J gO);replace B:=B.bo au (ag.J (aq.q iN));replace ac:=ac.aJ au (ag.J (aq.q ce));have me:=au.size;refine o.nil (j4 (G.L (fun ss=>?_)));refine o.v1 (Y.ai bo.N rfl eX rfl db) ?_;refine o.v1 (ar bo.N.ji eD) ?_;refine aW nx (mF y.v.v y.d w0 _ (M.d y ev).any (by omega)) (fun mf mg fs=>?_);obtain⟨b3,c8,rfl,bc,aB,a0⟩:=fs;have gQ:af (X.size+1) c8:=af.app (af.z) C.lt aB;have eN:af bp c8:=af.app (af.z) A.le aB;have fj:af (N.size+1) c8:=af.app (af.z) d.lt aB;have ds:af (cI.size+1) c8:=af.app (af.z) bo.lt aB;have gR:T 0 I.size c8:=T.L (T.refl 0 _) aB B.size;replace A:=A.M a0;replace d:=d.M a0;replace aO:=fun y aY=>(aO y aY).M a0;replace bo:=bo.M a0;replace ac:=ac.bc a0;have mh:=a0.size;have Dt:=bc.le;refine o.v1 (Y.ai bo.N rfl eX rfl db) ?_;refine o.s1 (dj bo 32 (bO ⟨y.k,b3,y.d⟩) (rfl) db (by rw[c0];omega) ((ET _ _))) fun ln iO=>?_;obtain⟨bo,cU⟩:=iO;replace cU:=cU.bs;replace A:=A.ab cU (ah.J gK);replace d:=d.ab cU (ah.J gM);replace aO:=fun y aY=>(aO y aY).ab cU (az.J gO);replace bc:=bc.ab cU (ah.J ds.symm);replace ac:=ac.aJ cU (ag.J (aq.q ce));have mi:=cU.size;refine o.nil (ss (G.L (fun j8=>?_)));refine o.v1 (Y.ai d.N rfl ca rfl dv) ?_;refine o.v1 (ar d.N.hQ dV) ?_;refine o.v1 (aT bo.N hJ ck (c0 _)) ?_;refine aW BZ (AQ cz.v a8 ⟨y.k,b3,y.d⟩ w0 _ A.rd.any (by omega) kE) (fun mn g_ fv=>?_);obtain⟨p,fd,rfl,kP,hh,dh⟩:=fv;replace A:=A.M dh;replace d:=d.M dh;replace aO:=fun y aY=>(aO y aY).M dh;replace bo:=bo.M dh;replace bc:=bc.M dh;replace ac:=ac.bc dh;have mo:=dh.size;obtain⟨hi,hj,kL⟩:=kP;refine o.V ?_;refine o.v1 cO ?_;refine o.v1 cO ?_;refine o.aQ 2 ?_;refine j8 (G.L (fun j9=>?_));refine o.V (o.nil (j9 ?_));refine cK (fun eH=>?_) (fun eH=>?_)
       ·
        obtain⟨e9,kM⟩:=hh.1 eH;refine G.region ?_;refine o.v1 (Y.ai d.N rfl ca rfl dv) ?_;refine o.v1 (ar d.N.hQ dV) ?_;refine o.V ?_;refine o.v1 (aT bo.N hJ ck (c0 _)) ?_;refine o.v1 (Y.qS A (p) rfl cu ck rfl rfl (by first|rfl|omega) (by omega)) ?_;refine o.s1 (S.tf A p 0 (⟨y.k,b3,y.d⟩:bA) (bO ⟨y.k,b3,y.d⟩) rfl rfl rfl rfl (gX _) ck (c0 _) e9 (by decide) (c9 (by rw[c0,c0])).symm) fun lX iP=>?_;obtain⟨A,dm⟩:=iP;replace dm:=dm.md;replace d:=d.ab dm (ah.J eL);replace aO:=fun y aY=>(aO y aY).ab dm (az.J e_);replace bc:=bc.ab dm (ah.J eN.symm);replace ac:=ac.aJ dm (ag.J (aq.r eM));have mq:=dm.size;refine o.nil (dl (gZ (G.region ?_)));refine o.v1 bD ?_;refine o.V (o.nil ?_);refine aP.sub (gY (i4+1,cz,bp,a8.set p ⟨y.k,b3,y.d⟩,fun b=>bX b∨b+1=c8) _ ?_ ?_) ⟨rfl,rfl,rfl,(aD (by omega)),(aD (by omega)),trivial⟩
        ·exact⟨(by omega),d,A,yR p aO (fun b e=> .inl e) (bc.rd.imp (fun b _ e=> .inr e)),bh.eG (eE.mono (by omega)) bc.le,ay.eG (bI) (fj),ay.eG (e_) (eN),ay.eG (fR) (gQ),mC a4 (gR),by rw[pO bn,←bl,←dN];exact vW (x:=⟨y.k,b3,y.d⟩) hj e9 kM,eM,eL,ac⟩
        ·first|omega|(simp only;omega)|(simp;omega)
       ·
        have e9:¬_:=fun h=>by rw[hh.2 h]at eH;cases eH
        refine G.region ?_;refine o.v1 (Y.ai d.N rfl ca rfl dv) ?_;refine o.v1 (ar d.N.hQ dV) ?_;refine o.V ?_;refine o.v1 (aT bo.N hJ ck (c0 _)) ?_;refine o.aO (Z.Eh _ [(⟨y.k,b3,y.d⟩:bA)] rfl iJ rfl rfl rfl (by decide) (by decide) c0 gX rfl) fun mr ka kb=>?_;obtain⟨kV,a2,iQ,dU⟩:=kb;have lA:ka.size=g_.size+1:=by rw[dU];simp
        have iR:af bp (g_.size+1):=af.new A.le;replace A:=A.M a2;replace d:=d.M a2;replace aO:=fun y aY=>(aO y aY).M a2;replace bc:=bc.M a2;replace ac:=ac.bc a2;have mu:=a2.size;refine aW B2 (DY bp _ cz.v _ a8 ⟨y.k,b3,y.d⟩ p w0 _ A kV (iR) hi ⟨iQ,by rw[dU];simp⟩ (by omega)) (fun ha da b7=>?_);have iS:=d.lt;have ia:=bc.le;obtain⟨lp,eJ,rfl,A,e8,eh⟩:=b7;have ci:af (N.size+1) eJ:=af.app (eL) iS e8;have ic:=ay.app (e_) (eE.mono (by omega)) e8;have ie:af c8 eJ:=af.app (eN.symm) ia e8;have ig:T bd dr.size eJ:=T.L (eM) e8 ac.size;replace d:=d.ab eh (ah.J eL);replace aO:=fun y aY=>(aO y aY).ab eh (az.J e_);replace bc:=bc.ab eh (ah.J eN.symm);replace ac:=ac.aJ eh (ag.J (aq.r eM));have mv:=eh.size;have gh:=A.le;obtain⟨gV,rfl⟩:∃s:aN,ha=s.v:=⟨cl ha,A.bl.symm⟩;refine o.v1 (Y.ai d.N rfl ca rfl dv) ?_;refine o.s1 (dj d 73 (bS {s2 with an:=aX,q:=bg,en:=k5,ba:=(ab.map (h4 aJ)),cw:=ir,bW:=(ab.map (ik aF)),ct:=gV,el:=a8.take p++⟨y.k,b3,y.d⟩::a8.drop p}) (rfl) dv (by rw[b4];omega) ((tM _ _))) fun lq ij=>?_;obtain⟨d,dp⟩:=ij;replace dp:=dp.bs;replace A:=A.ab dp (ah.J ci.symm);replace aO:=fun y aY=>(aO y aY).ab dp (az.J bI);replace bc:=bc.ab dp (ah.J fj.symm);replace ac:=ac.aJ dp (ag.J (aq.r bv));have mw:=dp.size;refine o.nil (dl (gZ (G.region ?_)));refine o.v1 bD ?_;refine o.V (o.nil ?_);refine aP.sub (gY (i4+1,gV,eJ,a8.take p++⟨y.k,b3,y.d⟩::a8.drop p,fun b=>bX b∨b+1=c8) _ ?_ ?_) ⟨rfl,rfl,rfl,(aD (by omega)),(aD (by omega)),trivial⟩
        ·exact⟨(by omega),d,A,DT p aO (fun b e=> .inl e) (bc.rd.imp (fun b _ e=> .inr e)),bh.eG (eE.mono (by omega)) bc.le,ay.eG (bI) (fj),ay.eG (ic) (ie.symm),ay.eG (fR) (gQ),mC a4 (gR),by rw[pO bn,←bl,←dN];exact C0 (x:=⟨y.k,b3,y.d⟩) hj kL hi e9,ig,ci,ac⟩
        ·first|omega|(simp only;omega)|(simp;omega)
      ·
       obtain rfl:i4=t.el.length:=by omega
       rw[List.take_length]at dN;refine G.exit (fn (a7 (j1 ?_)));refine jW (G.L (fun ib=>?_));refine o.v1 (aT d.N eC di (b4 _)) ?_;refine o.s1 (dM C (_) (bS {s2 with an:=aX,q:=bg,en:=k5,ba:=(ab.map (h4 aJ)),cw:=ir,bW:=(ab.map (ik aF)),ct:=cz,el:=a8}) (jT _) di (b4 _) ((c9 (b4 _).symm))) fun lu il=>?_;obtain⟨C,b5⟩:=il;replace b5:=b5.bs;replace A:=A.ab b5 (ah.J iK.symm);replace aL:=fun u=>(aL u).ab b5 (az.J kX);replace Q:=fun p aa=>(Q p aa).ab b5 (az.J fU);replace cb:=cb.ab b5 (ah.J h5.symm);replace aS:=aS.ab b5 (ah.J hL.symm);replace aQ:=aQ.ab b5 (ah.J hP.symm);replace aO:=fun y aY=>(aO y aY).ab b5 (az.J fR);replace B:=B.bo b5 (ag.J (aq.q im));have mx:=b5.size;refine o.nil (ib ?_);refine G.ret (kR .ret (.inr rfl) _ _ _ (j6 rfl rfl C.N eC di (b4 _)) ?_)
       exact⟨{s2 with an:=aX,q:=bg,en:=k5,ba:=(ab.map (h4 aJ)),cw:=ir,bW:=(ab.map (ik aF)),ct:=cz,el:=a8},rfl,⟨aS.rd.imp (fun b _ e=>by have dc:=(hO);unfold T at dc;omega),aQ.rd.imp (fun b _ e=>by have dc:=(cy);unfold T at dc;omega),(fun y hy=>by obtain⟨x,cb,e⟩:=List.mem_map.1 hy;rw[←e];exact(yy Q rfl).imp (fun b _ e=>a3 b e)),(aL ()).imp (fun b _ e=>a9 b e),A.rd.imp (fun b _ e=>by have dc:=(iL);unfold T at dc;omega),(fun y hy=>(aO y hy).imp (fun b _ e=>a4 b e))⟩,by
        have aK:aX=if t.bE=true then t.an else s.m.an:=by rw[kF];congr 1;exact congrArg eA.an dP
        have iU:=Dk (kq ok.fa) dS dR.1 dR.2;have iV:=Dj (qo ok.c7) (qv ok.cL) dS e6 dR.1 dR.2;show eA.mk aX (bG _) (cp _) bg.p (cn a8)=_;rw[aK,iU,iV,kN,dN];rfl,B⟩
end gq

namespace hG
open E Go.RowKit eM eP e1 e7 ev eQ eR fC fD fI fS ga gz gq dz
theorem uK:∀{l:List cA} {n:List UInt8} {i:Nat} (d:i<l.length),(∀j (h:j<l.length),j<i→¬l[j].n=n)→l[i].n=n→hK (bG l) n=l[i].i
 |x::l,n,0,_,_,e=>by
  have e:x.n=n:=e
  simp[hK,bG,aM,e]
 |x::l,n,i+1,d,h,e=>by
  have k:¬x.n=n:=h 0 (Nat.zero_lt_succ _) (Nat.zero_lt_succ _);have:=uK (l:=l) (n:=n) (i:=i) (Nat.lt_of_succ_lt_succ d) (fun j o U=>h (j+1) (Nat.succ_lt_succ o) (Nat.succ_lt_succ U)) e;simp only[hK,bG,List.map_cons,aM]at this⊢;rw[if_neg (fun q=>k q.symm)];exact this
theorem AB{l:List cA}{n:List UInt8}(h:∀j (h:j<l.length),¬l[j].n=n):hK (bG l) n=bz:=by
 induction l with
 |nil=>rfl
 |cons x l ih=>
  have d:¬x.n=n:=h 0 (Nat.zero_lt_succ _);have:=ih (fun j i=>h (j+1) (Nat.succ_lt_succ i));simp only[hK,bG,List.map_cons,aM]at this⊢;rw[if_neg (fun q=>d q.symm)];exact this
theorem uJ(s:cW)(n:List UInt8)(w0:World)(I:Heap)
 (j:bx I dB 33 s.en.v s.ba):
 aC Tryz.prog w0 19 #[eg s,aI n] I (fun r x=>r=bq (hK (bG s.ba) n)∧aj I x):=by
 refine aC.enter (args:=[eg s,aI n]) Tryz.func19 rfl rfl rfl ?_;intro aQ Q;have d:aj I I:=W.refl _ _;replace j:=j.bw;have bg:=j.len;refine G.L (fun aE=>?_);refine o.aO cq ?_;rintro v2 x ⟨rfl,k,K,aY,aF⟩;have bc:x.size=I.size+1:=by rw[aF];simp
 replace j:=j.M K;replace d:=d.L K;have aZ:=K.size;replace k:Var 47 x I.size (bS s):=k;refine o.aO (cV nc) ?_;rintro v4 F ⟨rfl,t,E,a1,aH⟩;have bd:F.size=x.size+1:=by rw[aH];simp
 have ap:T 0 I.size (x.size+1):=T.new d.size;replace j:=j.M E;replace k:=k.M E;replace d:=d.L E;have a6:=E.size;replace t:Var 26 F x.size (b7 bz):=t;refine o.nil (aE (G.t2 (fun aJ aK=>G.L (fun R=>?_))));refine o.ak ?_;refine R (G.aB (fun _ V X=>?_))
 refine G.bg (fun(i:(Nat))=>[(1,aI n),(2,.pointer (some ⟨I.size,0,none⟩)),(4,.pointer (some ⟨x.size,0,none⟩)),(5,.int .i64 i)])
  (fun(i:(Nat)) (H:Heap)=>(i≤s.ba.length)∧(∀q (h:q<s.ba.length),q<i→¬s.ba[q].n=n)∧aj F H)
  (fun(i:(Nat))=>s.ba.length-i) 0 ⟨rfl,rfl,rfl,rfl,trivial⟩ ?_ ?_
 ·
  exact⟨(by omega),(fun q h U=>absurd U (Nat.not_lt_zero _)),W.refl _ _⟩
 intro i a7 Z aO aa P;obtain⟨bf,M,A⟩:=Z;replace j:=j.M A;replace k:=k.M A;replace t:=t.M A;replace d:=d.L A;have a8:=A.size;refine G.t2 (fun ab ae=>G.L (fun af=>?_));refine o.V ?_;refine o.v1 (Y.ai k.N rfl ca rfl hb) ?_;refine o.v1 (ar (k.N.drop 1) ix) ?_;refine o.v1 (bb j gK) ?_;refine o.v1 bJ (o.nil (af ?_));refine aU (fun ah=>?_) (fun ah=>?_)
 ·
  refine G.skip (ab (G.t2 (fun ai ak=>G.aB (fun al _ ay=>G.L (fun az=>?_)))));refine o.v1 (Y.ai k.N rfl ca rfl hb) ?_;refine o.v1 (ar (k.N.drop 1) ix) ?_;refine o.V ?_;have aM:i<s.ba.length:=by omega
  obtain⟨y,B⟩:∃q,q=s.ba[i]:=⟨_,rfl⟩;refine o.bR (Y.bL j (i) rfl gK hP rfl rfl) fun aR N=>?_;refine o.v1 (Y.ai N.N rfl mg rfl bP) ?_;refine o.v1 (Y.cast (v2:=aI y.n) (ar (N.N.drop 0) bN) (by rw[B])) ?_;refine o.V ?_;refine o.v1 (Y.jz rfl rfl rfl) (o.nil (az ?_));refine aU (fun L=>?_) (fun L=>?_)
  ·
   refine G.L (fun aA=>?_);refine o.v1 (Y.ai k.N rfl ca rfl hb) ?_;refine o.v1 (ar (k.N.drop 1) ix) ?_;refine o.V ?_;refine o.bR (Y.bL j (i) rfl gK hP rfl rfl) fun aS O=>?_;refine o.v1 (Y.ai O.N rfl mg rfl a_) ?_;refine o.v1 (Y.cast (v2:=bq y.i) (aT ((O.N.drop 1).take 32) b_ a_ (by rw[qe];exact bB _)) ((by rw[B];exact b6 (qe _)))) ?_;refine o.s1 (S.var t (_) (b7 y.i) rfl rfl rfl rfl (jS y.i) a_ (bB _) (by first|decide|simp[bB]) ((c9 ((bB _).trans (bB _).symm)))) fun aW au=>?_;obtain⟨t,ac⟩:=au;replace ac:=ac.bs;replace d:=d.bo ac (ag.J (aq.q ap));refine o.nil (aA ?_);refine G.ret (ay (ak (P (X (aK (Q .ret (.inr rfl) _ _ _ (j6 rfl rfl t.N b_ a_ (bB _)) ?_))))));exact⟨by rw[uK aM M (by rw[←B];exact L),←B];first|done|rfl,d⟩
  ·
   refine G.skip (al (ai (G.region ?_)));refine o.V ?_;refine o.v1 bD ?_;refine o.ak ?_;refine aP.sub (aa (i+1) _ ?_ ?_) ⟨rfl,rfl,rfl,(aD (by omega)),trivial⟩
   ·exact⟨(by omega),(fun q h U=>by rcases Nat.lt_succ_iff_lt_or_eq.1 U with aL|rfl;exact M q h aL;rw[←B];exact L),A⟩
   ·first|omega|(simp only;omega)|(simp;omega)
 ·
  refine G.exit (ae (P (V ?_)));refine aJ (G.L (fun am=>?_));refine o.v1 (Y.build (v:=bq bz) rfl rfl (by intro w;kernel_rfl)) ?_;refine o.s1 (S.var t (_) (b7 bz) rfl rfl rfl rfl (jS bz) a_ (bB _) (by first|decide|simp[bB]) ((c9 ((bB _).trans (bB _).symm)))) fun aX aB=>?_;obtain⟨t,C⟩:=aB;replace C:=C.bs;replace d:=d.bo C (ag.J (aq.q ap));have ba:=C.size;refine o.nil (am ?_);refine G.ret (Q .ret (.inr rfl) _ _ _ (j6 rfl rfl t.N b_ a_ (bB _)) ?_);exact⟨by rw[AB (fun q aN=>M q aN (by omega))];first|done|rfl,d⟩
end hG

namespace lK
open E Go.RowKit eM eP e1 e7 ev eQ eR fC fD fI fS ga gz gq hG dz
set_option maxRecDepth 100000 in
theorem jX:c4 Tryz.prog 44 71 33 48:=⟨Tryz.underlying44,_,_,rfl,rfl,rfl,rfl,rfl⟩
theorem Hq{P:Program}{w0:World}{n:Nat}{l:bZ}{H:Heap}{J:Oper}{x y:Operand}{t u:TypeId}{a b:List UInt8}(j:J.op= .binOp .geq t x y u)(k:aF l x=some (aI a))(hy:aF l y=some (aI b)):Y P w0 n l H J (.bool (!(Op.bytesLess a b))):=by
 intro ac w i o;have aK:=ByteArray.toList_eq (ByteArray.mk a.toArray);have d:=ByteArray.toList_eq (ByteArray.mk b.toArray);have h:(a==b)=decide (a=b):=by by_cases h:a=b<;>simp[h]
 simp only at aK d;simp[execOp,j,i.eval k,i.eval hy,binOp,Op.stringOp,eqGuard,aI,aK,d,h]
def h2(m:bF)(a:List cA×Bool)(x:cA):List cA×Bool:=
 let b:= !a.2&& !(Op.bytesLess x.n m.n)
 let J:=if b=true then a.1++[⟨m.n,m.w⟩]else a.1
 (if x.n≠m.n then J++[x]else J,a.2||b)
def ku(m:bF)(l:List cA):List cA:=
 let a:=l.foldl (h2 m) ([],decide (m.w=bz))
 if a.2=true then a.1 else a.1++[⟨m.n,m.w⟩]
theorem E1{m:bF}{l:List cA}{i:Nat}(d:i<l.length)(a:List cA×Bool):(l.take (i+1)).foldl (h2 m) a=h2 m ((l.take i).foldl (h2 m) a) l[i]:=by
 rw[List.take_succ_eq_append_getElem d,List.foldl_append];rfl
theorem o4(m:bF):∀(l:List cA) (J:List cA),l.foldl (h2 m) (J,true)=(J++l.filter (fun x=>decide (x.n≠m.n)),true)
 |[],J=>by simp
 |x::l,J=>by
  rw[List.foldl_cons];by_cases h:x.n=m.n
  ·rw[show h2 m (J,true) x=(J,true)by simp[h2,h],o4 m l];simp[h]
  ·rw[show h2 m (J,true) x=(J++[x],true)by simp[h2,h],o4 m l];simp[h]
theorem wL(m:bF):∀(l:List cA),bG (l.filter (fun x=>decide (x.n≠m.n)))=ea (bG l) m.n
 |[]=>rfl
 |x::l=>by
  have ih:=wL m l;by_cases h:x.n=m.n
  ·simp only[bG,ea,List.map_cons]at ih⊢
   simp[h]at ih⊢;exact ih
  ·simp only[bG,ea,List.map_cons]at ih⊢
   simp[h]at ih⊢;exact ih
theorem E4{m:bF}{x:cA}(J:List cA)(h:Op.bytesLess x.n m.n=true)(aA:¬x.n=m.n):h2 m (J,false) x=(J++[x],false):=by simp[h2,h,aA]
theorem E2{m:bF}{x:cA}(J:List cA)(h:Op.bytesLess x.n m.n=false)(aA:x.n=m.n):h2 m (J,false) x=(J++[⟨m.n,m.w⟩],true):=by
 rw[aA]at h;simp[h2,h,aA]
theorem E3{m:bF}{x:cA}(J:List cA)(h:Op.bytesLess x.n m.n=false)(aA:¬x.n=m.n):h2 m (J,false) x=(J++[⟨m.n,m.w⟩]++[x],true):=by simp[h2,h,aA]
def qJ(m:bF)(a:List cA×Bool):List cA:=if a.2=true then a.1 else a.1++[⟨m.n,m.w⟩]
theorem n3(a b:List cA):bG (a++b)=bG a++bG b:=List.map_append
theorem xJ(m:bF):∀(l:List cA) (J:List cA),de (bG l)→bG (qJ m (l.foldl (h2 m) (J,false)))=bG J++d_ (bG l) m.n m.w
 |[],J,_=>by simp[qJ,bG,d_]
 |x::l,J,k=>by
  have av:=List.pairwise_cons.1 k;have j:∀y∈l,blt x.n y.n:=fun y hy=>av.1 (y.n,y.i) (List.mem_map.2 ⟨y,hy,rfl⟩);have n:bG (x::l)=(x.n,x.i)::bG l:=rfl;rw[List.foldl_cons,n]
  cases h:Op.bytesLess x.n m.n with
  |true=>
   have aA:¬x.n=m.n:=fun e=>by rw[e]at h;exact mG _ h
   rw[E4 J h aA,xJ m l _ av.2,n3,d_,if_neg aA,if_neg (oB h),List.append_assoc]
   rfl
  |false=>
   have i:(x.n=m.n∨blt m.n x.n)→l.filter (fun y=>decide (y.n≠m.n))=l:=fun q=>List.filter_eq_self.2 (fun y hy=>by
    refine decide_eq_true (fun e=>?_);have d:=j y hy;rcases q with q|q
    ·rw[q,e]at d;exact mG _ d
    ·rw[e]at d;exact oB d q)
   by_cases aA:x.n=m.n
   ·rw[E2 J h aA,o4,qJ,if_pos rfl,i (.inl aA),d_,if_pos aA,n3,n3,List.append_assoc]
    rfl
   ·have aw:blt m.n x.n:=Classical.byContradiction (fun q=>aA (lT (by unfold blt;rw[h];exact Bool.false_ne_true) q))
    rw[E3 J h aA,o4,qJ,if_pos rfl,i (.inr aw),d_,if_neg aA,if_pos aw,n3,n3,n3,List.append_assoc,List.append_assoc];rfl
theorem xI(m:bF)(l:List cA)(d:de (bG l)):bG (ku m l)=dL (bG l) m:=by
 unfold ku dL;by_cases h:m.w=bz
 ·rw[if_pos h,show decide (m.w=bz)=true from decide_eq_true h,o4]
  simp only[if_true,List.nil_append];exact wL m l
 ·rw[if_neg h,show decide (m.w=bz)=false from decide_eq_false h]
  exact xJ m l [] d
theorem xG(v:Value)(l:List cA)(m:bF)(w0:World)(I:Heap)
 (x:bx I dB 33 v l) (da:l.length≤1000000):
 aC Tryz.prog w0 64 #[v,j1 m] I (fun r aR=>∃s2:aN,∃a8:Nat,r=s2.v∧(aV a8 71 aR dB 33 s2.v (ku m l))∧(T 0 I.size a8)∧aj I aR):=by
 refine aC.aK [v,j1 m] Tryz.func64 ?_;intro cr bl;have A:aj I I:=W.refl _ _;replace x:=x.bw;have bm:=x.bY;have cL:=m.w.2;have cO:=bz.2;refine G.L (fun bY=>?_);refine o.aO cq ?_;rintro v3 N ⟨rfl,n,aa,cP,bZ⟩;have bi:N.size=I.size+1:=by rw[bZ];simp
 replace x:=x.M aa;replace A:=A.L aa;have cR:=aa.size;replace n:Var 52 N I.size (du m):=n;refine o.ak ?_;refine bY (G.L (fun b0=>?_));refine o.ak ?_;refine b0 (G.L (fun aB=>?_));refine o.v1 (Y.ai n.N rfl cC rfl a_) ?_;refine o.v1 (Y.cast (v2:=bq m.w) (aT ((n.N.drop 33).take 32) b_ a_ (by rw[e5];exact bB _)) (b6 (e5 _))) ?_;refine o.v1 (Y.build (v:=bq bz) rfl rfl (by intro w;kernel_rfl)) ?_;refine o.v1 (Y.cast (v2:= .bool (decide (m.w=bz))) (Y.ia rfl Tryz.eqGuardType26 (fun w=>fV 9998 Tryz.underlying26 Tryz.underlying5 cN dS (by assumption) (by assumption) w) rfl rfl) ((congrArg Value.bool (decide_eq_decide.2 ⟨fun e=>Subtype.ext e,fun e=>congrArg Subtype.val e⟩)))) ?_;refine o.ak ?_;refine aB (G.t1 (fun b1=>G.L (fun b3=>?_)));refine o.ak ?_;refine b3 (G.aB (fun _ b4 _=>?_))
 refine G.bg (fun(S:(Nat)×(aN)×(Nat)×(List cA×Bool))=>match S with|(i,s1,k,a)=>[(0,v),(3,.pointer (some ⟨I.size,0,none⟩)),(5,s1.v),(6,.bool a.2),(7,.int .i64 (i:Int))])
  (fun(i,s1,k,a) (H:Heap)=>(i≤l.length)∧(aV k 71 H dB 33 s1.v (a.1))∧(a=(l.take i).foldl (h2 m) ([],decide (m.w=bz)))∧(a.1.length≤2*i)∧(T 0 N.size k)∧aj N H)
  (fun(i,s1,k,a)=>l.length-i) (0,cM,0,([],decide (m.w=bz))) ⟨rfl,rfl,rfl,rfl,rfl,trivial⟩ ?_ ?_
 ·
  exact⟨(by omega),aV.nil hW lo,rfl,(by simp),T.refl _ _,W.refl _ _⟩
 rintro⟨i,s1,k,a⟩ t b5 cn b7 b8;obtain⟨c_,j,X,c9,C,E⟩:=b5;have br:=ay.app (ay.z) (bm.mono A.size) C;have b9:af (I.size+1) k:=af.app (af.z) n.lt C;have ab:T 0 I.size k:=T.L (T.refl 0 _) C A.size;replace x:=x.M E;replace n:=n.M E;replace A:=A.L E;have cS:=E.size;have V:=j.le;have a5:=C;refine G.t2 (fun ca cb=>G.L (fun bv=>?_));refine o.ax 2 ?_;refine o.v1 (bb x gK) ?_;refine o.v1 bJ (o.nil (bv ?_));refine aU (fun cc=>?_) (fun cc=>?_)
 ·
  have cf:i<l.length:=by omega
  obtain⟨y,Q⟩:∃q,q=l[i]:=⟨_,rfl⟩;refine G.skip (ca ?_)
  refine G.cut (fun(S:(aN)×(Nat)×(List cA)×(Bool))=>match S with|(sp,M,L,R)=>[(0,v),(3,.pointer (some ⟨I.size,0,none⟩)),(5,sp.v),(6,.bool R),(7,.int .i64 (i:Int))])
   (fun(sp,M,L,R) (H:Heap)=>(aV M 71 H dB 33 sp.v (L))∧((L,R)=h2 m a l[i])∧(L.length≤2*i+2)∧(T k t.size M)∧W (aE [k]) t H) (fun _ aY _=>?_) ?_
  ·
   have B:W (aE [k]) t t:=W.refl _ _;have bc:=T.refl k t.size;refine G.aB (fun aZ _ _=>?_)
   refine G.cut (fun(S:(aN)×(Nat)×(List cA)×(Bool))=>match S with|(so,K,J,p)=>[(0,v),(3,.pointer (some ⟨I.size,0,none⟩)),(5,so.v),(6,.bool p),(7,.int .i64 (i:Int))])
    (fun(so,K,J,p) (H:Heap)=>(aV K 71 H dB 33 so.v (J))∧(J=if(!a.2&& !(Op.bytesLess y.n m.n))=true then a.1++[(⟨m.n,m.w⟩:cA)]else a.1)∧(p=(a.2||(!a.2&& !(Op.bytesLess y.n m.n))))∧(J.length≤2*i+1)∧(T k t.size K)∧W (aE [k]) t H) (fun _ a1 _=>?_) ?_
   ·
    have F:W (aE [k]) t t:=W.refl _ _;have aF:=T.refl k t.size;refine G.t1 (fun bn=>?_);refine hf ?_;refine o.V ?_;refine o.v1 eL ?_;refine o.V ?_;refine o.join (d:=29) (v:= .bool (!a.2&& !(Op.bytesLess y.n m.n))) 9 (fun aS=>?_) ?_
    ·
     refine o.split (d:=20) rfl (fun O=>?_) (fun O=>?_)
     ·
      refine o.ax 2 ?_;refine o.e (g:=fun ad=> .pointer (some ad)) (Y.bL x (i) rfl gK hP rfl rfl) bd rfl rfl (fun c8 a6=>?_);refine o.ao (Y.ai a6.N rfl mg rfl bP) ?_;refine o.ao (Y.cast (v2:=aI y.n) (ar (a6.N.drop 0) bN) (by rw[Q])) ?_;refine o.ao (Y.ai n.N rfl cC rfl bP) ?_;refine o.ao (ar n.N bN) ?_;refine o.ao (Hq rfl rfl rfl) ?_;refine o.N ?_;exact aS _ (congrArg (fun b=>some (Value.bool b)) (by simp[O])) (ae (ae (ae (ae (ae (ae (ae (ae (ae (bC (congrArg Value.bool O.symm)))))))))))
     ·
      refine o.ax 9 ?_;exact aS _ (congrArg (fun b=>some (Value.bool b)) (by simp[O])) (ae (ae (ae (ae (ae (ae (ae (ae (ae (bC (congrArg Value.bool O.symm)))))))))))
    refine o.nil (bn ?_);refine cK (fun P=>?_) (fun P=>?_)
    ·
     refine G.L (fun bo=>?_);refine o.V ?_;refine o.v1 (Y.ai n.N rfl cC rfl bP) ?_;refine o.v1 (ar n.N bN) ?_;refine o.v1 (Y.ai n.N rfl cC rfl a_) ?_;refine o.v1 (Y.cast (v2:=bq m.w) (aT ((n.N.drop 33).take 32) b_ a_ (by rw[e5];exact bB _)) (b6 (e5 _))) ?_;refine o.v1 (Y.build (v:= .agg (dB (⟨m.n,m.w⟩:cA)).toArray) rfl rfl (by intro w;exact rY _ _)) ?_;refine o.aO (cT _ ([(⟨m.n,m.w⟩:cA)]) jX hW lo (rfl)) fun cU aW cd=>?_;obtain⟨cj,aH,cD,bp⟩:=cd;have ct:aW.size=t.size+1:=by rw[bp];simp
     replace j:=j.M aH;replace F:=F.bc aH;have cV:=aH.size;refine o.aO (dQ j cj.rd jX (by simp;omega) (by simp;omega)) fun aX cW bL=>?_;obtain⟨ai,j,aJ,am⟩:=bL;replace aJ:T k aW.size ai:=aJ;replace am:=am.md;have bs:T k t.size ai:=T.L (aF) aJ F.size;replace F:=F.aJ am (ag.J (aq.r aF));have cX:=am.size;have V:=j.le;obtain⟨bO,rfl⟩:∃s:aN,aX=s.v:=⟨cl aX,j.bl.symm⟩;refine o.ak ?_;refine bo (G.region ?_);refine o.ak ?_;refine aP.sub (a1 (bO,ai,a.1++[(⟨m.n,m.w⟩:cA)],true) _ ?_) ⟨rfl,rfl,rfl,rfl,(aD (by omega)),trivial⟩;exact⟨j,by rw[if_pos P],by rw[P,Bool.or_true],by simp;omega,bs,F⟩
    ·
     refine G.skip ?_;refine aP.sub (a1 (s1,k,a.1,a.2) _ ?_) ⟨rfl,rfl,rfl,rfl,(aD (by omega)),trivial⟩;exact⟨j,by rw[if_neg (by rw[P];exact Bool.false_ne_true)],by rw[P,Bool.or_false],by omega,aF,F⟩
   ·
    rintro⟨so,K,J,p⟩ bI au;obtain⟨j,bj,bk,db,C,ac⟩:=au;have aK:T k t.size K:=T.L (bc) C B.size;replace x:=x.ab ac (az.J br);replace n:=n.ab ac (ah.J b9);replace B:=B.aJ ac (ag.J (aq.r bc));have cZ:=ac.size;have V:=j.le;refine G.t1 (fun bt=>?_);refine hf ?_;refine o.ax 2 ?_;refine o.bR (Y.bL x (i) rfl gK hP rfl rfl) fun cG a7=>?_;refine o.v1 (Y.ai a7.N rfl mg rfl bP) ?_;refine o.v1 (Y.cast (v2:=aI y.n) (ar (a7.N.drop 0) bN) (by rw[Q])) ?_;refine o.v1 (Y.ai n.N rfl cC rfl bP) ?_;refine o.v1 (ar n.N bN) ?_;refine o.v1 (Y.iT rfl rfl rfl) (o.nil (bt ?_));refine aU (fun ak=>?_) (fun ak=>?_)
    ·
     refine G.region ?_;refine o.ax 3 ?_;refine o.bR (Y.bL x (i) rfl gK hP rfl rfl) fun cH bu=>?_;refine o.v1 (Y.cast (v2:= .agg (dB y).toArray) (aT bu.N np hP (hW _)) (by rw[Q])) ?_;refine o.aO (cT _ ([y]) jX hW lo (rfl)) fun c0 a9 bQ=>?_;obtain⟨ck,aL,cI,bw⟩:=bQ;have cu:a9.size=bI.size+1:=by rw[bw];simp
     replace j:=j.M aL;replace B:=B.bc aL;have c1:=aL.size;refine o.aO (dQ j ck.rd jX (by simp;omega) (by simp;omega)) fun bg c3 bR=>?_;obtain⟨al,j,aM,ap⟩:=bR;replace aM:T K a9.size al:=aM;replace ap:=ap.md;have bA:T k t.size al:=T.L (aK) aM B.size;replace B:=B.aJ ap (ag.J (aq.r aK));have cv:=ap.size;have V:=j.le;obtain⟨bS,rfl⟩:∃s:aN,bg=s.v:=⟨cl bg,j.bl.symm⟩;refine o.ak ?_;refine aZ ?_;refine aP.sub (aY (bS,al,J++[y],p) _ ?_) ⟨rfl,rfl,rfl,rfl,(aD (by omega)),trivial⟩;exact⟨j,by rw[←Q];show _=(if y.n≠m.n then(if(!a.2&& !(Op.bytesLess y.n m.n))=true then a.1++[(⟨m.n,m.w⟩:cA)]else a.1)++[y]else(if(!a.2&& !(Op.bytesLess y.n m.n))=true then a.1++[(⟨m.n,m.w⟩:cA)]else a.1),a.2||(!a.2&& !(Op.bytesLess y.n m.n)));rw[if_pos ak,←bj,←bk],by simp;omega,bA,B⟩
    ·
     refine G.skip (aZ ?_);refine aP.sub (aY (so,K,J,p) _ ?_) ⟨rfl,rfl,rfl,rfl,(aD (by omega)),trivial⟩;exact⟨j,by rw[←Q];show _=(if y.n≠m.n then(if(!a.2&& !(Op.bytesLess y.n m.n))=true then a.1++[(⟨m.n,m.w⟩:cA)]else a.1)++[y]else(if(!a.2&& !(Op.bytesLess y.n m.n))=true then a.1++[(⟨m.n,m.w⟩:cA)]else a.1),a.2||(!a.2&& !(Op.bytesLess y.n m.n)));rw[if_neg ak,←bj,←bk],by omega,aK,B⟩
  ·
   rintro⟨sp,M,L,R⟩ c4 bK;obtain⟨j,cg,dc,C,bf⟩:=bK;have bE:T 0 N.size M:=T.L (a5) C E.size;replace E:=E.bo bf (ag.J (aq.q a5));have cw:=bf.size;have V:=j.le;refine G.region ?_;refine o.V ?_;refine o.v1 bD ?_;refine o.ak ?_;refine aP.sub (b7 (i+1,sp,M,(L,R)) _ ?_ ?_) ⟨rfl,rfl,rfl,rfl,(aD (by omega)),trivial⟩
   ·exact⟨(by omega),j,by rw[E1 cf,←X];exact cg,by show L.length≤_;omega,bE,E⟩
   ·first|omega|(simp only;omega)|(simp;omega)
 ·
  obtain rfl:i=l.length:=by omega
  rw[List.take_length]at X;refine G.exit (cb (b8 (b4 ?_)));refine b1 (G.t1 (fun ba=>G.L (fun bG=>?_)));refine o.V ?_;refine o.v1 eL (o.nil (bG ?_));refine cK (fun aA=>?_) (fun aA=>?_)
  ·
   refine G.region ?_;refine o.V ?_;refine o.v1 (Y.ai n.N rfl cC rfl bP) ?_;refine o.v1 (ar n.N bN) ?_;refine o.v1 (Y.ai n.N rfl cC rfl a_) ?_;refine o.v1 (Y.cast (v2:=bq m.w) (aT ((n.N.drop 33).take 32) b_ a_ (by rw[e5];exact bB _)) (b6 (e5 _))) ?_;refine o.v1 (Y.build (v:= .agg (dB (⟨m.n,m.w⟩:cA)).toArray) rfl rfl (by intro w;exact rY _ _)) ?_;refine o.aO (cT _ ([(⟨m.n,m.w⟩:cA)]) jX hW lo (rfl)) fun cx bh bU=>?_;obtain⟨cm,aO,cJ,a0⟩:=bU;have bT:bh.size=t.size+1:=by rw[a0];simp
   replace j:=j.M aO;replace A:=A.L aO;have cy:=aO.size;refine o.aO (dQ j cm.rd jX (by simp;omega) (by simp;omega)) fun be cz bV=>?_;obtain⟨b2,j,aQ,Z⟩:=bV;replace aQ:T k bh.size b2:=aQ;replace Z:=Z.md;have a2:T 0 I.size b2:=T.L (ab) aQ A.size;replace A:=A.bo Z (ag.J (aq.q ab));obtain⟨bX,rfl⟩:∃s:aN,be=s.v:=⟨cl be,j.bl.symm⟩;refine o.ak ?_;refine ba (G.L (fun a3=>?_));refine o.aQ 2 ?_;refine a3 ?_;refine G.ret (bl ?_);exact⟨bX,b2,rfl,by unfold ku;simp only[←X];rw[if_neg (by simpa using aA)];exact j,(a2),A⟩
  ·
   refine G.skip (ba (G.L (fun a4=>?_)));refine o.aQ 2 ?_;refine a4 ?_;refine G.ret (bl ?_);exact⟨s1,k,rfl,by unfold ku;simp only[←X];rw[if_pos (by simpa using aA)];exact j,(ab),A⟩
end lK

namespace mq
open E Go.RowKit eM eP e1 e7 ev eQ eR fC fD fI fS ga gz gq hG lK dz
def h1(n:List UInt8)(l:List e8):List e8:=l.filter (fun x=>decide (x.n≠n))
def l2(n:List UInt8)(l:List e8):List cE:=(l.filter (fun x=>decide (x.n=n))).flatMap (·.l)
theorem qz(n:List UInt8):∀(l:List e8),cp (h1 n l)=ea (cp l) n
 |[]=>rfl
 |x::l=>by
  have ih:=qz n l;by_cases h:x.n=n
  ·simp only[cp,ea,h1,List.map_cons]at ih⊢
   simp[h]at ih⊢;exact ih
  ·simp only[cp,ea,h1,List.map_cons]at ih⊢
   simp[h]at ih⊢;exact ih
theorem xc(n:List UInt8):∀(l:List e8),de (cp l)→l2 n l=(aM (cp l) n).getD []
 |[],_=>rfl
 |x::l,j=>by
  have av:=List.pairwise_cons.1 j;have ih:=xc n l av.2;by_cases h:x.n=n
  ·have d:l.filter (fun y=>decide (y.n=n))=[]:=List.filter_eq_nil_iff.2 (fun y hy e=>by
    have i:=av.1 (y.n,y.l) (List.mem_map.2 ⟨y,hy,rfl⟩);have e:y.n=n:=of_decide_eq_true e;exact mH i (h.trans e.symm))
   show((x::l).filter (fun y=>decide (y.n=n))).flatMap (·.l)=(aM ((x.n,x.l)::cp l) n).getD [];rw[List.filter_cons_of_pos (by simp[h]),d,aM,if_pos h.symm];simp
  ·show((x::l).filter (fun y=>decide (y.n=n))).flatMap (·.l)=(aM ((x.n,x.l)::cp l) n).getD []
   rw[List.filter_cons_of_neg (by simp[h]),aM,if_neg (fun e=>h e.symm)];exact ih
theorem xb{n:List UInt8}{l:List e8}{i:Nat}(d:i<l.length):h1 n (l.take (i+1))=if l[i].n=n then h1 n (l.take i)else h1 n (l.take i)++[l[i]]:=by
 unfold h1;rw[List.take_succ_eq_append_getElem d,List.filter_append];by_cases h:l[i].n=n<;>simp[h]
theorem xd{n:List UInt8}{l:List e8}{i:Nat}(d:i<l.length):l2 n (l.take (i+1))=if l[i].n=n then l2 n (l.take i)++l[i].l else l2 n (l.take i):=by
 unfold l2;rw[List.take_succ_eq_append_getElem d,List.filter_append,List.flatMap_append];by_cases h:l[i].n=n<;>simp[h]
theorem Dy{β:Type}{i:List (aH×β)}(h:de i)(n:aH)(v:β):d_ (ea i n) n v=d_ i n v:=by
 have an:de (ea i n):=List.Pairwise.filter _ h;refine sw (nI an n v) (nI h n v) (fun q=>?_);rw[o1 _ _ _ _ an,o1 _ _ _ _ h,jg];by_cases d:q=n
 ·rw[if_pos d,if_pos d]
 ·rw[if_neg d,if_neg d,if_neg d]
theorem Ed{l:List e8}{m:bF}(d:de (cp l))(hw:¬m.w=bz){k:Nat}(t:k≤(h1 m.n l).length)(o:∀j (h:j<(h1 m.n l).length),j<k→blt (h1 m.n l)[j].n m.n)(U:∀h:k<(h1 m.n l).length,¬blt (h1 m.n l)[k].n m.n)(v:aN):
 cp ((h1 m.n l).take k++⟨m.n,v,h0 (l2 m.n l++[⟨m.J,m.w,m.y⟩])⟩::(h1 m.n l).drop k)=hl (cp l) m:=by
 have an:de (cp (h1 m.n l)):=by rw[qz];exact List.Pairwise.filter _ d
 have A:∀x∈h1 m.n l,¬x.n=m.n:=fun x B=>of_decide_eq_true (List.mem_filter.1 B).2;unfold hl
 rw[if_neg hw,←Dy d,←qz,xc _ _ d,sy (k:=k) (by simp only[cp,List.length_map];exact t) (fun j n r=>by
  simp only[cp,List.length_map]at n;simp only[cp,List.getElem_map];exact o j n r) (fun i=>by
  simp only[cp,List.length_map]at i;simp only[cp,List.getElem_map];exact Classical.byContradiction (fun q=>A _ (List.getElem_mem i) (lT (U i) q)))]
 simp only[cp,List.map_append,List.map_cons,List.map_take,List.map_drop]
end mq

namespace ng
open E Go.RowKit eM eP e1 e7 ev eQ eR fC fD fI fS ga gz gq hG lK mq dz
set_option maxRecDepth 100000 in
theorem jY:c4 Tryz.prog 45 62 2 40:=⟨Tryz.underlying45,_,_,rfl,rfl,rfl,rfl,rfl⟩
set_option maxRecDepth 100000 in
theorem kQ:c4 Tryz.prog 60 64 65 80:=⟨Tryz.underlying60,_,_,rfl,rfl,rfl,rfl,rfl⟩
theorem Ew(v:Value)(l:List e8)(m:bF)(F:Nat→Prop)(w0:World)(I:Heap)
 (O:Rd F I ek 2 v l) (dN:bh F I.size) (aA:∀y∈l,Rd F I dt 65 y.v.v y.l) (bQ:bh F I.size) (ga:l.length≤1000000) (eN:∀y∈l,y.l.length≤100):
 aC Tryz.prog w0 65 #[v,j1 m] I (fun r a6=>∃s2:aN,∃b4:List e8,∃aR:Nat→Prop,r=s2.v∧(∀u:Unit,Rd aR a6 ek 2 s2.v b4)∧(bh aR a6.size)∧(∀y∈b4,Rd aR a6 dt 65 y.v.v y.l)∧(bh aR a6.size)∧(∀b,aR b→F b∨I.size≤b)∧(de (cp l)→cp b4=hl (cp l) m)∧aj I a6):=by
 refine aC.aK [v,j1 m] Tryz.func65 ?_;intro e1 cR;have x:aj I I:=W.refl _ _;have dn:=m.w.2;have fN:=bz.2;refine G.L (fun eD=>?_);refine o.aO cq ?_;rintro v3 C ⟨rfl,A,bG,fO,eE⟩;have e_:C.size=I.size+1:=by rw[eE];simp
 replace O:=O.M bG;replace aA:=fun y E=>(aA y E).M bG;replace x:=x.L bG;have fJ:=bG.size;replace A:Var 52 C I.size (du m):=A;refine o.ak ?_;refine eD (G.L (fun dY=>?_));refine o.ak ?_;refine dY (G.L (fun dZ=>?_));refine o.v1 (Y.ai A.N rfl cC rfl bP) ?_;refine o.v1 (ar A.N bN) ?_;refine o.v1 (Y.build (v:= .agg (ek ⟨m.n,cM,[]⟩).toArray) rfl rfl (by intro w;kernel_rfl)) ?_;refine o.aO (cV pA) ?_;rintro v6 cS ⟨rfl,n,a7,ds,d_⟩;have fc:cS.size=C.size+1:=by rw[d_];simp
 have ci:=(ay.new (dN.mono x.size):ay _ (C.size+1));have bI:=(ay.new (bQ.mono x.size):ay _ (C.size+1));have bK:af (I.size+1) (C.size+1):=af.new A.lt;have bL:T 0 I.size (C.size+1):=T.new x.size;replace O:=O.M a7;replace aA:=fun y E=>(aA y E).M a7;replace A:=A.M a7;replace x:=x.L a7;have fP:=a7.size;refine o.s1 (dM n (_) (ek ⟨m.n,cM,[]⟩) (ju _) fp (fL _) ((c9 (fL _).symm))) fun al df=>?_;obtain⟨n,ak⟩:=df;replace ak:=ak.bs;replace O:=O.ab ak (az.J ci);replace aA:=fun y E=>(aA y E).ab ak (az.J bI);replace A:=A.ab ak (ah.J bK);replace x:=x.bo ak (ag.J (aq.q bL));have fQ:=ak.size;refine o.nil (dZ (G.t1 (fun ea=>G.L (fun eb=>?_))));refine o.ak ?_;refine eb (G.aB (fun _ ec _=>?_))
 refine G.bg (fun(bu:(Nat)×(aN)×(Nat)×(List e8)×(aN)×(Nat)×(List cE))=>match bu with|(i,s1,M,J,aY,K,L)=>[(0,v),(3,.pointer (some ⟨I.size,0,none⟩)),(5,s1.v),(6,.pointer (some ⟨C.size,0,none⟩)),(7,.int .i64 (i:Int))])
  (fun(i,s1,M,J,aY,K,L) (H:Heap)=>(i≤l.length)∧(Var 62 H C.size (ek ⟨m.n,aY,[]⟩))∧(aV M 62 H ek 2 s1.v (J))∧(aV K 64 H dt 65 aY.v (L))∧(J=h1 m.n (l.take i))∧(L=l2 m.n (l.take i))∧(J.length≤i)∧(L.length≤100*i)∧(T 0 al.size M)∧(T 0 al.size K)∧(af (C.size+1) M)∧(af (C.size+1) K)∧(af M K)∧W (aE [(C.size+1)]) al H)
  (fun(i,s1,M,J,aY,K,L)=>l.length-i) (0,cM,0,[],cM,0,[]) ⟨rfl,rfl,rfl,rfl,rfl,trivial⟩ ?_ ?_
 ·
  exact⟨(by omega),n,aV.nil fL ju,aV.nil kN nA,rfl,rfl,(by simp),(by simp),T.refl _ _,T.refl _ _,af.z,af.z,af.z,W.refl _ _⟩
 rintro⟨i,s1,M,J,aY,K,L⟩ N ed e0 ee ef;obtain⟨fX,n,t,B,Z,bR,gb,gf,bC,aO,au,am,bZ,ap⟩:=ed;have dg:T 0 I.size M:=T.L (T.refl 0 _) bC x.size;have dh:=ay.app (ay.z) (bQ.mono x.size) aO;have di:af (I.size+1) K:=af.app (af.z) A.lt aO;have b5:T 0 I.size K:=T.L (T.refl 0 _) aO x.size;replace O:=O.ab ap (az.J ci);replace aA:=fun y E=>(aA y E).ab ap (az.J bI);replace A:=A.ab ap (ah.J bK);replace x:=x.bo ap (ag.J (aq.q bL));have fR:=ap.size;have b8:=t.le;have bS:=B.le;have aF:=au;have a8:=am;have ba:=bZ;have cW:=T.refl (C.size+1) al.size;have a9:=bC;have cb:=aO;refine G.t2 (fun eg eh=>G.L (fun ei=>?_));refine o.ax 2 ?_;refine o.v1 (bb O fG) ?_;refine o.v1 bJ (o.nil (ei ?_));refine aU (fun ej=>?_) (fun ej=>?_)
 ·
  have bp:i<l.length:=by omega
  obtain⟨y,X⟩:∃q,q=l[i]:=⟨_,rfl⟩;have b3:y∈l:=by rw[X];exact List.getElem_mem bp
  have gh:=eN y b3;refine G.skip (eg ?_)
  refine G.cut (fun(bu:(aN)×(Nat)×(List e8)×(aN)×(Nat)×(List cE))=>match bu with|(sp,aa,aX,h6,ab,aZ)=>[(0,v),(3,.pointer (some ⟨I.size,0,none⟩)),(5,sp.v),(6,.pointer (some ⟨C.size,0,none⟩)),(7,.int .i64 (i:Int))])
   (fun(sp,aa,aX,h6,ab,aZ) (H:Heap)=>(Var 62 H C.size (ek ⟨m.n,h6,[]⟩))∧(aV aa 62 H ek 2 sp.v (aX))∧(aV ab 64 H dt 65 h6.v (aZ))∧(aX=h1 m.n (l.take (i+1)))∧(aZ=l2 m.n (l.take (i+1)))∧(aX.length≤i+1)∧(aZ.length≤100*(i+1))∧(T M N.size aa)∧(T K N.size ab)∧(af (C.size+1) aa)∧(af (C.size+1) ab)∧(af aa ab)∧W (aE [(C.size+1),M,K]) N H) (fun _ cc _=>?_) ?_
  ·
   have ac:W (aE [(C.size+1),M,K]) N N:=W.refl _ _;have cZ:=T.refl (C.size+1) N.size;have bV:=T.refl M N.size;have bX:=T.refl K N.size;refine G.aB (fun cd _ _=>G.t1 (fun dk=>?_));refine hf ?_;refine o.ax 2 ?_;refine o.bR (Y.bL O (i) rfl fG fp rfl rfl) fun fe cf=>?_;refine o.v1 (Y.ai cf.N rfl fZ rfl bP) ?_;refine o.v1 (Y.cast (v2:=aI y.n) (ar (cf.N.drop 0) bN) (by rw[X])) ?_;refine o.v1 (Y.ai A.N rfl cC rfl bP) ?_;refine o.v1 (ar A.N bN) ?_;refine o.v1 (Y.jz rfl rfl rfl) (o.nil (dk ?_));refine aU (fun bT=>?_) (fun bT=>?_)
   ·
    refine iW 7 (fun e2 eL=>?_);refine o.v1 (Y.ai n.N rfl fZ rfl gS) ?_;refine o.v1 (ar (n.N.drop 1) h_) ?_;refine o.ax 2 ?_;refine o.bR (Y.bL O (i) rfl fG fp rfl rfl) fun ff be=>?_;refine o.v1 (Y.ai be.N rfl fZ rfl gS) ?_;refine o.v1 (Y.cast (v2:=y.v.v) (ar (be.N.drop 1) h_) (by rw[X])) ?_;have gj:=aA y b3;refine o.nil (eL _ ?_);refine o.aO (dQ B (aA y b3) kQ (by omega) (by omega)) fun cz fS en=>?_;obtain⟨bY,B,bc,aH⟩:=en;replace bc:T K N.size bY:=bc;replace aH:=aH.md;have cg:af (C.size+1) bY:=af.app (a8) n.lt bc;have dm:af M bY:=af.app (ba) t.le bc;have dp:T K N.size bY:=T.L (bX) bc ac.size;replace n:=n.ab aH (ah.J a8);replace t:=t.ab aH (ah.J ba);replace ac:=ac.aJ aH (ag.J (aq.r bX));have fT:=aH.size;have bS:=B.le;obtain⟨cA,rfl⟩:∃s:aN,cz=s.v:=⟨cl cz,B.bl.symm⟩;refine o.v1 (Y.ai n.N rfl fZ rfl gS) ?_;refine o.s1 (dj n 1 (ek ⟨m.n,cA,[]⟩) (rfl) gS (by rw[fL];omega) (rfl)) fun fg dq=>?_;obtain⟨n,aS⟩:=dq;replace aS:=aS.bs;replace t:=t.ab aS (ah.J aF.symm);replace B:=B.ab aS (ah.J cg.symm);replace ac:=ac.aJ aS (ag.J (aq.r cZ));have fU:=aS.size;refine o.nil (cd ?_);refine aP.sub (cc (s1,M,J,cA,bY,L++y.l) _ ?_) ⟨rfl,rfl,rfl,rfl,(aD (by omega)),trivial⟩;exact⟨n,t,B,by rw[xb bp,←X,if_pos bT,←Z],by rw[xd bp,←X,if_pos bT,←bR],by omega,by simp;omega,bV,dp,aF,cg,dm,ac⟩
   ·
    refine G.region ?_;refine o.ax 3 ?_;refine o.bR (Y.bL O (i) rfl fG fp rfl rfl) fun fh dv=>?_;refine o.v1 (Y.cast (v2:= .agg (ek y).toArray) (aT dv.N lQ fp (fL _)) (by rw[X])) ?_;refine o.aO (cT _ ([y]) jY fL ju (rfl)) fun fW cD eo=>?_;obtain⟨eS,bd,fi,dx⟩:=eo;have fj:cD.size=N.size+1:=by rw[dx];simp
    replace n:=n.M bd;replace t:=t.M bd;replace B:=B.M bd;replace ac:=ac.bc bd;have fm:=bd.size;refine o.aO (dQ t eS.rd jY (by simp;omega) (by simp;omega)) fun cG fo ep=>?_;obtain⟨bn,t,bg,aJ⟩:=ep;replace bg:T M cD.size bn:=bg;replace aJ:=aJ.md;have dy:af (C.size+1) bn:=af.app (aF) n.lt bg;have dz:af K bn:=af.app (ba.symm) B.le bg;have dA:T M N.size bn:=T.L (bV) bg ac.size;replace n:=n.ab aJ (ah.J aF);replace B:=B.ab aJ (ah.J ba.symm);replace ac:=ac.aJ aJ (ag.J (aq.r bV));have fq:=aJ.size;have b8:=t.le;obtain⟨er,rfl⟩:∃s:aN,cG=s.v:=⟨cl cG,t.bl.symm⟩;refine o.ak ?_;refine cd ?_;refine aP.sub (cc (er,bn,J++[y],aY,K,L) _ ?_) ⟨rfl,rfl,rfl,rfl,(aD (by omega)),trivial⟩;exact⟨n,t,B,by rw[xb bp,←X,if_neg bT,←Z],by rw[xd bp,←X,if_neg bT,←bR],by simp;omega,by omega,dA,bX,dy,a8,dz.symm,ac⟩
  ·
   rintro⟨sp,aa,aX,h6,ab,aZ⟩ co a3;obtain⟨n,t,B,eO,et,gd,gg,bC,aO,au,am,bZ,b7⟩:=a3;have dC:T 0 al.size aa:=T.L (a9) bC ap.size;have dD:T 0 al.size ab:=T.L (cb) aO ap.size;replace ap:=ap.aJ b7 (ag.cons (aq.r cW) (ag.cons (aq.q a9) (ag.J (aq.q cb))));have fr:=b7.size;have b8:=t.le;have bS:=B.le;have dF:=au;have dG:=am;have dH:=bZ;refine G.region ?_;refine o.V ?_;refine o.v1 bD ?_;refine o.ak ?_;refine aP.sub (ee (i+1,sp,aa,aX,h6,ab,aZ) _ ?_ ?_) ⟨rfl,rfl,rfl,rfl,(aD (by omega)),trivial⟩
   ·exact⟨(by omega),n,t,B,eO,et,by omega,by omega,dC,dD,dF,dG,dH,ap⟩
   ·first|omega|(simp only;omega)|(simp;omega)
 ·
  obtain rfl:i=l.length:=by omega
  rw[List.take_length]at Z bR;refine G.exit (eh (ef (ec ?_)));refine ea (G.t2 (fun dI dJ=>G.L (fun dK=>?_)));refine o.v1 (Y.ai A.N rfl cC rfl a_) ?_;refine o.v1 (Y.cast (v2:=bq m.w) (aT ((A.N.drop 33).take 32) b_ a_ (by rw[e5];exact bB _)) (b6 (e5 _))) ?_;refine o.v1 (Y.build (v:=bq bz) rfl rfl (by intro w;kernel_rfl)) ?_;refine o.v1 (Y.cast (v2:= .bool (decide (m.w=bz))) (Y.ia rfl Tryz.eqGuardType26 (fun w=>fV 9998 Tryz.underlying26 Tryz.underlying5 cN dS (by assumption) (by assumption) w) rfl rfl) ((congrArg Value.bool (decide_eq_decide.2 ⟨fun e=>Subtype.ext e,fun e=>congrArg Subtype.val e⟩)))) (o.nil (dK ?_));refine aU (fun b0=>?_) (fun b0=>?_)
  ·
   refine G.L (fun c1=>?_);refine o.aQ 2 ?_;refine c1 ?_;refine G.ret (dJ (cR ?_));exact⟨s1,J,_,rfl,(fun _=>((t.rd.imp (fun b _ e=>Or.inr (by have Q:=(dg);unfold T at Q;omega))):Rd (fun b=>F b∨I.size≤b) _ ek 2 s1.v (J)).bw),(fun b e=>e.2),(fun y hy=>(((aA y (by rw[Z]at hy;exact(List.mem_filter.1 hy).1)).imp (fun b _ e=>Or.inl e):Rd (fun b=>F b∨I.size≤b) _ _ _ _ _)).bw),(fun b e=>e.2),(fun b e=>e.1),fun _=>by unfold hl;rw[if_pos b0,Z];exact qz _ _,x⟩
  ·
   refine G.skip (dI (G.L (fun c3=>?_)));refine o.v1 (Y.ai n.N rfl fZ rfl gS) ?_;refine o.v1 (ar (n.N.drop 1) h_) ?_;refine o.v1 (Y.ai A.N rfl cC rfl a_) ?_;refine o.v1 (Y.cast (v2:=bq m.J) (aT ((A.N.drop 1).take 32) b_ a_ (by rw[gY];exact bB _)) (b6 (gY _))) ?_;refine o.v1 (Y.ai A.N rfl cC rfl a_) ?_;refine o.v1 (Y.cast (v2:=bq m.w) (aT ((A.N.drop 33).take 32) b_ a_ (by rw[e5];exact bB _)) (b6 (e5 _))) ?_;refine o.v1 (Y.ai A.N rfl cC rfl bP) ?_;refine o.v1 (ar A.N.mV bN) ?_;refine o.v1 (Y.build (v:= .agg (dt ⟨m.J,m.w,m.y⟩).toArray) rfl rfl (by intro w;exact uY _ _)) ?_;refine o.aO (cT _ ([(⟨m.J,m.w,m.y⟩:cE)]) kQ kN nA (rfl)) fun ft cH eu=>?_;obtain⟨eT,ae,e3,c4⟩:=eu;have fk:cH.size=N.size+1:=by rw[c4];simp
   replace aA:=fun y E=>(aA y E).M ae;replace A:=A.M ae;replace n:=n.M ae;replace t:=t.M ae;replace B:=B.M ae;replace x:=x.L ae;have e4:=ae.size;refine o.aO (dQ B eT.rd kQ (by simp;omega) (by simp;omega)) fun cI fu dT=>?_;obtain⟨bi,B,a0,S⟩:=dT;replace a0:T K cH.size bi:=a0;replace S:=S.md;have a4:af (C.size+1) bi:=af.app (a8) n.lt a0;have cj:T 0 I.size bi:=T.L (b5) a0 x.size;replace aA:=fun y E=>(aA y E).ab S (az.J dh);replace A:=A.ab S (ah.J di);replace n:=n.ab S (ah.J a8);replace t:=t.ab S (ah.J ba);replace x:=x.bo S (ag.J (aq.q b5));have dE:=S.size;have bS:=B.le;obtain⟨cs,rfl⟩:∃s:aN,cI=s.v:=⟨cl cI,B.bl.symm⟩;refine o.v1 (Y.ai n.N rfl fZ rfl gS) ?_;refine o.s1 (dj n 1 (ek ⟨m.n,cs,[]⟩) (rfl) gS (by rw[fL];omega) (rfl)) fun bE a5=>?_;obtain⟨n,R⟩:=a5;replace R:=R.bs;replace aA:=fun y E=>(aA y E).ab R (az.J bI);replace A:=A.ab R (ah.J bK);replace t:=t.ab R (ah.J aF.symm);replace B:=B.ab R (ah.J a4.symm);replace x:=x.bo R (ag.J (aq.q bL));have e6:=R.size;refine o.nil (c3 ?_)
   refine G.cut (fun(bu:(aN)×(Nat→Prop))=>match bu with|(sz,a1)=>[(3,.pointer (some ⟨I.size,0,none⟩)),(5,s1.v),(6,.pointer (some ⟨C.size,0,none⟩))])
    (fun(sz,a1) (H:Heap)=>(Var 62 H C.size (ek ⟨m.n,sz,[]⟩))∧(∀u:Unit,Rd a1 H dt 65 sz.v (h0 (L++[(⟨m.J,m.w,m.y⟩:cE)])))∧(bh a1 H.size)∧(∀b,a1 b→I.size≤b)∧W (aE [(C.size+1)]) bE H) (fun _ aB _=>?_) ?_
   ·
    have bw:W (aE [(C.size+1)]) bE bE:=W.refl _ _;have c0:=T.refl (C.size+1) bE.size;refine G.L (fun c8=>?_);refine o.v1 (Y.ai n.N rfl fZ rfl gS) ?_;refine o.v1 (ar (n.N.drop 1) h_) ?_;refine o.v1 (bb B.rd hR) ?_;have f_:(L++[(⟨m.J,m.w,m.y⟩:cE)]).length=L.length+1:=by simp
    obtain⟨q,eP⟩:∃q,q=(L++[(⟨m.J,m.w,m.y⟩:cE)]).length-100:=⟨_,rfl⟩;have cP:=sF eP;refine o.v1 eY (o.nil (c8 ?_));refine aU (fun dV=>?_) (fun dV=>?_)
    ·
     refine G.region ?_;refine o.v1 (Y.ai n.N rfl fZ rfl gS) ?_;refine o.v1 (ar (n.N.drop 1) h_) ?_;refine o.v1 (Y.ai n.N rfl fZ rfl gS) ?_;refine o.v1 (ar (n.N.drop 1) h_) ?_;refine o.v1 (bb B.rd hR) ?_;refine o.v1 (Y.cast (v2:= .int .i64 (q:Int)) fH (fM (by omega))) ?_;refine o.aK (g:=fun v=>v) (Y.slice B.rd (q) ((L++[(⟨m.J,m.w,m.y⟩:cE)]).length) rfl hR j7 rfl (.inr ⟨_,_,_,rfl,rfl,by first|rfl|omega⟩) (.inl ⟨rfl,rfl⟩) (by omega) (by omega)) fun cJ bt=>?_;rw[List.take_length,cP]at bt;obtain⟨bm,rfl⟩:∃s:aN,cJ=s.v:=⟨cl cJ,bt.bl.symm⟩;refine o.v1 (Y.ai n.N rfl fZ rfl gS) ?_;refine o.s1 (dj n 1 (ek ⟨m.n,bm,[]⟩) (rfl) gS (by rw[fL];omega) (rfl)) fun dr dO=>?_;obtain⟨n,aQ⟩:=dO;replace aQ:=aQ.bs;replace B:=B.ab aQ (ah.J a4.symm);replace bt:=bt.ab aQ (az.cons (ay.of a4.symm) az.nil);replace bw:=bw.aJ aQ (ag.J (aq.r c0));have e7:=aQ.size;refine o.nil ?_;refine aP.sub (aB (bm,fun b=>b+1=bi) _ ?_) ⟨rfl,rfl,rfl,trivial⟩;exact⟨n,fun _=>bt,(fun b e=>by have Q:=B.le;omega),(fun b e=>by have Q:=(cj);unfold T at Q;omega),bw⟩
    ·
     refine G.skip ?_;refine aP.sub (aB (cs,fun b=>b+1=bi) _ ?_) ⟨rfl,rfl,rfl,trivial⟩;exact⟨n,fun _=>by rw[show h0 (L++[(⟨m.J,m.w,m.y⟩:cE)])=(L++[(⟨m.J,m.w,m.y⟩:cE)])from by rw[←cP,show q=0 by omega];rfl];exact B.rd,(fun b e=>by have Q:=B.le;omega),(fun b e=>by have Q:=(cj);unfold T at Q;omega),bw⟩
   ·
    rintro⟨sz,a1⟩ bA cX;obtain⟨n,P,b9,eK,bl⟩:=cX;replace aA:=fun y E=>(aA y E).ab bl (az.J bI);replace A:=A.ab bl (ah.J bK);replace t:=t.ab bl (ah.J aF.symm);replace x:=x.bo bl (ag.J (aq.q bL));have cy:=bl.size;refine G.L (fun c_=>?_);refine o.ak ?_;refine c_ ?_
    refine G.cut (fun(k:(Nat))=>[(5,s1.v),(6,.pointer (some ⟨C.size,0,none⟩)),(8,.int .i64 (k:Int))])
     (fun(k:(Nat)) (H:Heap)=>(k≤J.length)∧(∀q (h:q<J.length),q<k→blt J[q].n m.n)∧(∀h:k<J.length,¬blt J[k].n m.n)∧aj bA H) (fun _ ck _=>?_) ?_
    ·
     have bx:aj bA bA:=W.refl _ _;refine G.aB (fun _ cm _=>?_)
     refine G.bg (fun(k:(Nat))=>[(3,.pointer (some ⟨I.size,0,none⟩)),(5,s1.v),(6,.pointer (some ⟨C.size,0,none⟩)),(8,.int .i64 (k:Int))])
      (fun(k:(Nat)) (H:Heap)=>(k≤J.length)∧(∀q (h:q<J.length),q<k→blt J[q].n m.n)∧aj bA H)
      (fun(k:(Nat))=>J.length-k) 0 ⟨rfl,rfl,rfl,rfl,trivial⟩ ?_ ?_
     ·
      exact⟨(by omega),(fun q h U=>absurd U (Nat.not_lt_zero _)),W.refl _ _⟩
     intro k fw dX fx da cn;obtain⟨cO,bs,bj⟩:=dX;replace A:=A.M bj;replace t:=t.M bj;replace bx:=bx.L bj;have e9:=bj.size;refine G.t2 (fun db cr=>G.t1 (fun ct=>?_));refine hf ?_;refine o.ax 2 ?_;refine o.v1 (bb t.rd fG) ?_;refine o.v1 bJ ?_;refine o.V ?_;refine o.bj (d:=76) rfl (fun ev=>?_) (fun ev=>?_)
     ·
      refine o.ax 2 ?_;have fY:k<J.length:=by omega
      refine o.ao (mj t (k) fG fp) ?_;refine o.ao (Y.fieldAddr (t.N (j:=k) (by first|omega|(simp;omega)|(simp;done))) rfl fZ rfl rfl bP (by decide) rfl) ?_;refine o.ao (Y.cast (v2:=aI J[k].n) (ar ((t.N (j:=k) (by first|omega|(simp;omega)|(simp;done))).drop 0) bN) (rfl)) ?_;refine o.ao (Y.ai A.N rfl cC rfl bP) ?_;refine o.ao (ar A.N bN) ?_;refine o.ao (Y.yY rfl rfl rfl) ?_;refine o.N ?_;refine o.nil (ct ?_);refine cK (fun b1=>?_) (fun b1=>?_)
      ·
       refine G.skip (db (G.aB (fun dc _ _=>G.region ?_)));refine o.V ?_;refine o.v1 bD ?_;refine o.ak ?_;refine dc ?_;refine aP.sub (da (k+1) _ ?_ ?_) ⟨rfl,rfl,rfl,(aD (by omega)),trivial⟩
       ·exact⟨(by omega),(fun q h U=>by rcases Nat.lt_succ_iff_lt_or_eq.1 U with eJ|rfl;exact bs q h eJ;exact b1),bj⟩
       ·first|omega|(simp only;omega)|(simp;omega)
      ·
       refine G.exit (cr (cn (cm ?_)));refine aP.sub (ck k _ ?_) ⟨rfl,rfl,(aD (by omega)),trivial⟩;exact⟨(by omega),bs,(fun _=>by unfold blt;simpa using b1),bx⟩
     ·
      refine o.ax 9 ?_;refine o.nil (ct ?_);refine dw ?_;refine G.exit (cr (cn (cm ?_)));refine aP.sub (ck k _ ?_) ⟨rfl,rfl,(aD (by omega)),trivial⟩;exact⟨(by omega),bs,(fun h=>absurd h (by omega)),bx⟩
    ·
     intro k b2 cU;obtain⟨cO,bs,eQ,aM⟩:=cU;replace aA:=fun y E=>(aA y E).M aM;replace n:=n.M aM;replace t:=t.M aM;replace P:=fun u=>(P u).M aM;replace x:=x.L aM;have fE:=aM.size;refine G.L (fun dL=>?_);refine o.ak ?_;refine dL (G.L (fun ew=>?_));refine o.ax 3 ?_;refine o.aK (g:=fun v=>v) (Y.slice t.rd (0) (k) rfl fG fp rfl (.inl ⟨rfl,rfl⟩) (.inr ⟨_,_,_,rfl,rfl,by first|rfl|omega⟩) (by omega) (by omega)) fun fy eZ=>?_;have eR:aV 0 62 b2 ek 2 (.slice none 0 0) []:=aV.nil fL ju;refine o.aO (dQ eR eZ jY (by simp;omega) (by simp;omega)) fun fB bf dW=>?_;obtain⟨bO,on,aK,V⟩:=dW;replace aK:T 0 b2.size bO:=aK;replace V:=V.md;have br:=ay.app (ay.z) (bQ.mono x.size) aK;have ey:af M bO:=af.app (af.z) t.le aK;have cu:=ay.app (ay.z) (b9.mono (by omega)) aK;have cv:T 0 I.size bO:=T.L (T.refl 0 _) aK x.size;replace aA:=fun y E=>(aA y E).ab V (az.J ay.z);replace n:=n.ab V (ah.J af.z);replace t:=t.ab V (ah.J af.z);replace P:=fun u=>(P u).ab V (az.J ay.z);replace x:=x.bo V (ag.cons aq.z ag.nil);have dd:=V.size;have ca:=on.le;refine o.ak ?_;refine ew (G.L (fun ez=>?_));refine o.V ?_;refine o.v1 (aT n.N lQ fp (fL _)) ?_;refine o.aO (cT _ ([(⟨m.n,sz,h0 (L++[(⟨m.J,m.w,m.y⟩:cE)])⟩:e8)]) jY fL ju (rfl)) fun fC cL eF=>?_;obtain⟨eW,aL,gi,eA⟩:=eF;have fl:cL.size=bf.size+1:=by rw[eA];simp
     replace aA:=fun y E=>(aA y E).M aL;replace t:=t.M aL;replace P:=fun u=>(P u).M aL;replace on:=on.M aL;replace x:=x.L aL;have fF:=aL.size;refine o.aO (dQ on eW.rd jY (by simp;omega) (by simp;omega)) fun fD eG eH=>?_;obtain⟨ce,on,bk,ai⟩:=eH;replace bk:T bO cL.size ce:=bk;replace ai:=ai.md;have eB:=ay.app (br) (bQ.mono x.size) bk;have dP:=ay.app (cu) (b9.mono (by omega)) bk;have a2:T 0 I.size ce:=T.L (cv) bk x.size;replace aA:=fun y E=>(aA y E).ab ai (az.J br);replace t:=t.ab ai (ah.J ey);replace P:=fun u=>(P u).ab ai (az.J cu);replace x:=x.bo ai (ag.J (aq.q cv));have fI:=ai.size;have ca:=on.le;refine o.ak ?_;refine ez (G.L (fun eC=>?_));refine o.ax 3 ?_;refine o.aK (g:=fun v=>v) (Y.slice t.rd (k) (J.length) rfl fG fp rfl (.inr ⟨_,_,_,rfl,rfl,by first|rfl|omega⟩) (.inl ⟨rfl,rfl⟩) (by omega) (by omega)) fun fK eX=>?_;refine o.aO (dQ on eX jY (by simp;omega) (by simp;omega)) fun bv dl dU=>?_;obtain⟨cw,on,bU,aW⟩:=dU;replace bU:T ce eG.size cw:=bU;replace aW:=aW.md;have dR:T 0 I.size cw:=T.L (a2) bU x.size;replace aA:=fun y E=>(aA y E).ab aW (az.J eB);replace P:=fun u=>(P u).ab aW (az.J dP);replace x:=x.bo aW (ag.J (aq.q a2));have cF:=aW.size;have ca:=on.le;rw[List.nil_append,List.drop_zero,List.take_length]at on;obtain⟨cx,rfl⟩:∃s:aN,bv=s.v:=⟨cl bv,on.bl.symm⟩;refine o.ak ?_;refine eC ?_;refine G.ret (cR ?_);exact⟨cx,J.take k++[⟨m.n,sz,h0 (L++[(⟨m.J,m.w,m.y⟩:cE)])⟩]++J.drop k,_,rfl,(fun _=>((on.rd.imp (fun b _ e=>Or.inr (by have Q:=(dR);unfold T at Q;omega))):Rd (fun b=>F b∨I.size≤b) _ ek 2 cx.v (J.take k++[⟨m.n,sz,h0 (L++[(⟨m.J,m.w,m.y⟩:cE)])⟩]++J.drop k)).bw),(fun b e=>e.2),(fun y hy=>((by rcases List.mem_append.1 hy with hy|hy;rcases List.mem_append.1 hy with hy|hy;exact(aA y (by have bo:=List.mem_of_mem_take hy;rw[Z]at bo;exact(List.mem_filter.1 bo).1)).imp (fun b _ e=>Or.inl e);rw[List.mem_singleton.1 hy];exact(P ()).imp (fun b _ e=>Or.inr (eK b e));exact(aA y (by have bo:=List.mem_of_mem_drop hy;rw[Z]at bo;exact(List.mem_filter.1 bo).1)).imp (fun b _ e=>Or.inl e)):Rd (fun b=>F b∨I.size≤b) _ _ _ _ _).bw),(fun b e=>e.2),(fun b e=>e.1),fun eM=>by subst Z;subst bR;rw[List.append_assoc];exact Ed eM b0 cO bs eQ sz,x⟩
end ng

namespace oh
open E Go.RowKit eM eP e1 e7 ev eQ eR fC fD fI fS ga gz gq hG dz
theorem zm:∀{l:List fE} {i:Nat} (j:i<l.length),gT (l.take i)=0→hq l[i]≠0→gT l=hq l[i]
 |t::l,0,_,_,h=>by
  have h:hq t≠0:=h
  rw[gT,if_pos h];rfl
 |t::l,i+1,j,k,h=>by
  have d:gT (t::l.take i)=0:=k;rw[gT]at d;by_cases U:hq t≠0
  ·rw[if_pos U]at d;exact absurd d U
  ·rw[if_neg U]at d
   rw[gT,if_neg U];exact zm (Nat.lt_of_succ_lt_succ j) d h
theorem Aw{x:cZ}(h:(((((x.bX=bz∨x.bm=bz)∨x.dn<0)∨x.dn>(x.a6.length:Int))∨x.md<0)∨x.md>x.dn)∨(x.st=true∧x.dn=(x.a6.length:Int))):hV x=false:=
 decide_eq_false (fun⟨a,b,c,d,e,f,g⟩=>by
  rcases h with(((((h|h)|h)|h)|h)|h)|h
  ·exact a h
  ·exact b h
  ·omega
  ·omega
  ·omega
  ·omega
  ·exact g h)
theorem pR{x:cZ}(h:¬((((((x.bX=bz∨x.bm=bz)∨x.dn<0)∨x.dn>(x.a6.length:Int))∨x.md<0)∨x.md>x.dn)∨(x.st=true∧x.dn=(x.a6.length:Int)))):¬hV x=false:=fun e=>by
 simp only[not_or]at h;obtain⟨⟨⟨⟨⟨⟨a,b⟩,c⟩,d⟩,i⟩,f⟩,g⟩:=h;have U:hV x=true:=decide_eq_true ⟨a,b,by omega,by omega,by omega,by omega,g⟩;rw[e]at U;cases U
set_option maxHeartbeats 1600000 in
theorem CX(x:cZ)(w0:World)(I:Heap)
 (k:bx I c2 33 x.cd.v x.a6) (aw:x.br.length≤9223372036854775807):
 aC Tryz.prog w0 42 #[er x] I (fun r aI=>r= .int .i64 (gJ x)∧aj I aI):=by
 refine aC.aK [er x] Tryz.func42 ?_;intro bw A;have n:aj I I:=W.refl _ _;replace k:=k.bw;have bX:=k.len;have bi:=x.bX.2;have bG:=x.bm.2;have aB:=bz.2;refine G.L (fun bm=>?_);refine o.aO cq ?_;rintro v1 H1 ⟨rfl,j,S,bI,bn⟩;have bA:H1.size=I.size+1:=by rw[bn];simp
 replace k:=k.M S;replace n:=n.L S;have bK:=S.size;replace j:Var 29 H1 I.size (dX x):=j;refine o.ak ?_;refine bm (G.t2 (fun a0 b2=>G.L (fun a2=>?_)));refine o.v1 (Y.ai j.N rfl bt rfl b0) ?_;refine o.v1 (ar j.N cj) ?_;refine o.v1 cU ?_;refine o.V ?_;refine o.join (d:=11) (v:= .bool (decide (¬(x.k=1∨x.k=2)))) 4 (fun ai=>?_) ?_
 ·
  refine o.bj (d:=7) rfl (fun g7=>?_) (fun g7=>?_)
  ·
   refine o.ao (Y.ai j.N rfl bt rfl b0) ?_;refine o.ao (ar j.N cj) ?_;refine o.ao cU ?_;refine o.N ?_;exact ai _ (congrArg (fun b=>some (Value.bool b)) (by simp[g7])) (ae (ae (ae (ae (bC (congrArg Value.bool (decide_eq_true g7).symm))))))
  ·
   refine o.ax 4 ?_;exact ai _ (congrArg (fun b=>some (Value.bool b)) (by simp[g7])) (ae (ae (ae (ae (bC (congrArg Value.bool (decide_eq_false g7).symm))))))
 refine o.nil (a2 ?_);refine aU (fun ac=>?_) (fun ac=>?_)
 ·
  refine G.L (fun a3=>?_);refine o.ak ?_;refine a3 ?_;refine G.ret (b2 (A ?_));exact⟨by rw[gJ,if_pos ac],n⟩
 ·
  refine G.skip (a0 (G.t2 (fun a4 a5=>G.L (fun aJ=>?_))));refine o.v1 (Y.ai j.N rfl bt rfl bP) ?_;refine o.v1 (ar (j.N.drop 1) bN) ?_;refine aW pZ (qV x.br w0 _ aw) (fun bL aK aL=>?_);obtain⟨rfl,Q⟩:=aL;replace k:=k.M Q;replace j:=j.M Q;replace n:=n.L Q;have bO:=Q.size;refine o.v1 cU (o.nil (aJ ?_));refine aU (fun t=>?_) (fun t=>?_)
  ·
   refine G.L (fun a9=>?_);refine o.ak ?_;refine a9 ?_;refine G.ret (a5 (A ?_));exact⟨by rw[gJ,if_neg ac,if_pos t],n⟩
  ·
   refine G.skip (a4 (G.t2 (fun bo bp=>G.L (fun bs=>?_))));refine o.v1 (Y.ai j.N rfl bt rfl a_) ?_;refine o.v1 (Y.cast (v2:=bq x.bX) (aT ((j.N.drop 2).take 32) b_ a_ (by rw[hC];exact bB _)) (b6 (hC _))) ?_;refine o.v1 (Y.build (v:=bq bz) rfl rfl (by intro w;kernel_rfl)) ?_;refine o.v1 (Y.cast (v2:= .bool (decide (x.bX=bz))) (Y.ia rfl Tryz.eqGuardType26 (fun w=>fV 9998 Tryz.underlying26 Tryz.underlying5 cN dS (by assumption) (by assumption) w) rfl rfl) ((congrArg Value.bool (decide_eq_decide.2 ⟨fun e=>Subtype.ext e,fun e=>congrArg Subtype.val e⟩)))) ?_;refine o.V ?_;refine o.join (d:=25) (v:= .bool (decide (x.bX=bz∨x.bm=bz))) 5 (fun X=>?_) ?_
   ·
    refine o.bj (d:=20) rfl (fun F=>?_) (fun F=>?_)
    ·
     refine o.ax 5 ?_;exact X _ (congrArg (fun b=>some (Value.bool b)) (by simp[F])) (ae (ae (ae (ae (ae (bC (congrArg Value.bool (decide_eq_true F).symm)))))))
    ·
     refine o.ao (Y.ai j.N rfl bt rfl a_) ?_;refine o.ao (Y.cast (v2:=bq x.bm) (aT ((j.N.drop 34).take 32) b_ a_ (by rw[hB];exact bB _)) (b6 (hB _))) ?_;refine o.ao (Y.build (v:=bq bz) rfl rfl (by intro w;kernel_rfl)) ?_;refine o.ao (Y.cast (v2:= .bool (decide (x.bm=bz))) (Y.ia rfl Tryz.eqGuardType26 (fun w=>fV 9998 Tryz.underlying26 Tryz.underlying5 cN dS (by assumption) (by assumption) w) rfl rfl) ((congrArg Value.bool (decide_eq_decide.2 ⟨fun e=>Subtype.ext e,fun e=>congrArg Subtype.val e⟩)))) ?_;refine o.dF ?_;exact X _ (congrArg (fun b=>some (Value.bool b)) (by simp[F])) (ae (ae (ae (ae (ae (bC (congrArg Value.bool (decide_eq_false F).symm)))))))
   refine o.V ?_;refine o.join (d:=30) (v:= .bool (decide ((x.bX=bz∨x.bm=bz)∨x.dn<0))) 4 (fun Z=>?_) ?_
   ·
    refine o.bj (d:=26) rfl (fun K=>?_) (fun K=>?_)
    ·
     refine o.ax 4 ?_;exact Z _ (congrArg (fun b=>some (Value.bool b)) (by simp[K])) (ae (ae (ae (ae (bC (congrArg Value.bool (decide_eq_true K).symm))))))
    ·
     refine o.ao (Y.ai j.N rfl bt rfl b0) ?_;refine o.ao (ar j.N.iu cj) ?_;refine o.ao bJ ?_;refine o.dF ?_;exact Z _ (congrArg (fun b=>some (Value.bool b)) (by simp[K])) (ae (ae (ae (ae (bC (congrArg Value.bool (decide_eq_false K).symm))))))
   refine o.V ?_;refine o.join (d:=38) (v:= .bool (decide (((x.bX=bz∨x.bm=bz)∨x.dn<0)∨x.dn>(x.a6.length:Int)))) 7 (fun aa=>?_) ?_
   ·
    refine o.bj (d:=31) rfl (fun L=>?_) (fun L=>?_)
    ·
     refine o.ax 7 ?_;exact aa _ (congrArg (fun b=>some (Value.bool b)) (by simp[L])) (ae (ae (ae (ae (ae (ae (ae (bC (congrArg Value.bool (decide_eq_true L).symm)))))))))
    ·
     refine o.ao (Y.ai j.N rfl bt rfl b0) ?_;refine o.ao (ar j.N.iu cj) ?_;refine o.ao (Y.ai j.N rfl bt rfl ep) ?_;refine o.ao (ar j.N.fO fi) ?_;refine o.ao (bb k fq) ?_;refine o.ao eY ?_;refine o.dF ?_;exact aa _ (congrArg (fun b=>some (Value.bool b)) (by simp[L])) (ae (ae (ae (ae (ae (ae (ae (bC (congrArg Value.bool (decide_eq_false L).symm)))))))))
   refine o.V ?_;refine o.join (d:=43) (v:= .bool (decide ((((x.bX=bz∨x.bm=bz)∨x.dn<0)∨x.dn>(x.a6.length:Int))∨x.md<0))) 4 (fun ab=>?_) ?_
   ·
    refine o.bj (d:=39) rfl (fun au=>?_) (fun au=>?_)
    ·
     refine o.ax 4 ?_;exact ab _ (congrArg (fun b=>some (Value.bool b)) (by simp[au])) (ae (ae (ae (ae (bC (congrArg Value.bool (decide_eq_true au).symm))))))
    ·
     refine o.ao (Y.ai j.N rfl bt rfl b0) ?_;refine o.ao (ar j.N.jB cj) ?_;refine o.ao bJ ?_;refine o.dF ?_;exact ab _ (congrArg (fun b=>some (Value.bool b)) (by simp[au])) (ae (ae (ae (ae (bC (congrArg Value.bool (decide_eq_false au).symm))))))
   refine o.V ?_;refine o.join (d:=50) (v:= .bool (decide (((((x.bX=bz∨x.bm=bz)∨x.dn<0)∨x.dn>(x.a6.length:Int))∨x.md<0)∨x.md>x.dn))) 6 (fun af=>?_) ?_
   ·
    refine o.bj (d:=44) rfl (fun am=>?_) (fun am=>?_)
    ·
     refine o.ax 6 ?_;exact af _ (congrArg (fun b=>some (Value.bool b)) (by simp[am])) (ae (ae (ae (ae (ae (ae (bC (congrArg Value.bool (decide_eq_true am).symm))))))))
    ·
     refine o.ao (Y.ai j.N rfl bt rfl b0) ?_;refine o.ao (ar j.N.jB cj) ?_;refine o.ao (Y.ai j.N rfl bt rfl b0) ?_;refine o.ao (ar j.N.iu cj) ?_;refine o.ao eY ?_;refine o.dF ?_;exact af _ (congrArg (fun b=>some (Value.bool b)) (by simp[am])) (ae (ae (ae (ae (ae (ae (bC (congrArg Value.bool (decide_eq_false am).symm))))))))
   refine o.V ?_;refine o.join (d:=62) (v:= .bool (decide ((((((x.bX=bz∨x.bm=bz)∨x.dn<0)∨x.dn>(x.a6.length:Int))∨x.md<0)∨x.md>x.dn)∨(x.st=true∧x.dn=(x.a6.length:Int))))) 11 (fun ag=>?_) ?_
   ·
    refine o.bj (d:=51) rfl (fun M=>?_) (fun M=>?_)
    ·
     refine o.ax 3 ?_;refine gx ?_;refine gx ?_;refine gx ?_;refine gx ?_;refine gx ?_;refine gx ?_;refine o.ax 2 ?_;exact ag _ (congrArg (fun b=>some (Value.bool b)) (by simp[M])) (ae (ae (ae (ae (ae (ae (ae (ae (ae (ae (ae (bC (congrArg Value.bool (decide_eq_true M).symm)))))))))))))
    ·
     refine o.ao (Y.ai j.N rfl bt rfl cX) ?_;refine o.ao (ar j.N.k4 dA) ?_;refine o.bU ?_;refine o.join (d:=61) (v:= .bool (decide (x.st=true∧x.dn=(x.a6.length:Int)))) 7 (fun ah=>?_) ?_
     ·
      refine o.split (d:=54) rfl (fun ap=>?_) (fun ap=>?_)
      ·
       refine o.ao (Y.ai j.N rfl bt rfl b0) ?_;refine o.ao (ar j.N.iu cj) ?_;refine o.ao (Y.ai j.N rfl bt rfl ep) ?_;refine o.ao (ar j.N.fO fi) ?_;refine o.ao (bb k fq) ?_;refine o.ao b9 ?_;refine o.ao eh ?_;exact ah _ (congrArg (fun b=>some (Value.bool b)) (by simp[ap])) (ae (ae (ae (ae (ae (ae (ae (bC (congrArg Value.bool ap.symm)))))))))
      ·
       refine o.ax 6 ?_;refine o.ao dH ?_;exact ah _ (congrArg (fun b=>some (Value.bool b)) (by simp[ap])) (ae (ae (ae (ae (ae (ae (ae (bC (congrArg Value.bool ap.symm)))))))))
     refine o.dF ?_;exact ag _ (congrArg (fun b=>some (Value.bool b)) (by simp[M])) (ae (ae (ae (ae (ae (bC (congrArg Value.bool (decide_eq_false M).symm)))))))
   refine o.nil (bs ?_);refine aU (fun B=>?_) (fun B=>?_)
   ·
    refine G.L (fun aM=>?_);refine o.ak ?_;refine aM ?_;refine G.ret (bp (A ?_));exact⟨by rw[gJ,if_neg ac,if_neg t,if_pos (Aw B)],n⟩
   ·
    refine G.skip (bo (G.t2 (fun aN aO=>G.L (fun aQ=>?_))));refine o.v1 (Y.ai j.N rfl bt rfl ep) ?_;refine o.v1 (ar j.N.fO fi) ?_;refine o.v1 (bb k fq) ?_;refine o.v1 eY (o.nil (aQ ?_));refine aU (fun bu=>?_) (fun bu=>?_)
    ·
     refine G.L (fun aR=>?_);refine o.ak ?_;refine aR ?_;refine G.ret (aO (A ?_));exact⟨by rw[gJ,if_neg ac,if_neg t,if_neg (pR B),if_pos (by omega)],n⟩
    ·
     refine G.skip (aN (G.t2 (fun aS al=>G.L (fun aX=>?_))));refine o.ak ?_;refine aX (G.aB (fun _ aY aq=>?_))
     refine G.bg (fun(i:(Nat))=>[(1,.pointer (some ⟨I.size,0,none⟩)),(3,.int .i64 (i:Int))])
      (fun(i:(Nat)) (H:Heap)=>(i≤x.a6.length)∧(gT (x.a6.take i)=0)∧aj aK H)
      (fun(i:(Nat))=>x.a6.length-i) 0 ⟨rfl,rfl,trivial⟩ ?_ ?_
     ·
      exact⟨(by omega),rfl,W.refl _ _⟩
     intro i bQ bT bR aZ T;obtain⟨bV,R,E⟩:=bT;replace k:=k.M E;replace j:=j.M E;replace n:=n.L E;have bS:=E.size;refine G.t2 (fun a1 a6=>G.L (fun a7=>?_));refine o.V ?_;refine o.v1 (Y.ai j.N rfl bt rfl ep) ?_;refine o.v1 (ar j.N.fO fi) ?_;refine o.v1 (bb k fq) ?_;refine o.v1 bJ (o.nil (a7 ?_));refine aU (fun be=>?_) (fun be=>?_)
     ·
      have aH:i<x.a6.length:=by omega
      obtain⟨y,O⟩:∃q,q=x.a6[i]:=⟨_,rfl⟩;have bU:=y.i.2;have V:=zm aH R;rw[←O]at V;refine G.skip (a1 (G.t2 (fun a8 ay=>G.aB (fun ba _ az=>G.t2 (fun bc bf=>G.L (fun bg=>?_))))));refine o.v1 (Y.ai j.N rfl bt rfl ep) ?_;refine o.v1 (ar j.N.fO fi) ?_;refine o.V ?_;refine o.bR (Y.bL k (i) rfl fq ha rfl rfl) fun bY aA=>?_;refine o.v1 (Y.ai aA.N rfl jC rfl b0) ?_;refine o.v1 (Y.cast (v2:= .int .i64 y.d) (ar (aA.N.drop 0) cj) (by rw[O])) ?_;refine o.v1 bJ ?_;refine o.V ?_;refine o.join (d:=89) (v:= .bool (decide (¬(1≤y.d∧y.d≤3)))) 8 (fun ak=>?_) ?_
      ·
       refine o.bj (d:=81) rfl (fun N=>?_) (fun N=>?_)
       ·
        refine o.ax 8 ?_;exact ak _ (congrArg (fun b=>some (Value.bool b)) (by simp[N])) (ae (ae (ae (ae (ae (ae (ae (ae (bC (congrArg Value.bool (decide_eq_true N).symm))))))))))
       ·
        refine o.ao (Y.ai j.N rfl bt rfl ep) ?_;refine o.ao (ar j.N.fO fi) ?_;refine o.bU ?_;refine o.e (g:=fun ad=> .pointer (some ad)) (Y.bL k (i) rfl fq ha rfl rfl) bd rfl rfl (fun bE aE=>?_);refine o.ao (Y.ai aE.N rfl jC rfl b0) ?_;refine o.ao (Y.cast (v2:= .int .i64 y.d) (ar (aE.N.drop 0) cj) (by rw[O])) ?_;refine o.ao eY ?_;refine o.dF ?_;exact ak _ (congrArg (fun b=>some (Value.bool b)) (by simp[N])) (ae (ae (ae (ae (ae (ae (ae (ae (bC (congrArg Value.bool (decide_eq_false N).symm))))))))))
      refine o.nil (bg ?_);refine aU (fun C=>?_) (fun C=>?_)
      ·
       refine G.L (fun bh=>?_);refine o.ak ?_;refine bh ?_;refine G.ret (bf (az (ay (T (aq (al (A ?_)))))));exact⟨by rw[gJ,if_neg ac,if_neg t,if_neg (pR B),if_neg (by omega),V (by unfold hq;rw[if_pos C];decide)];unfold hq;rw[if_pos C],n⟩
      ·
       refine G.skip (bc (G.L (fun bj=>?_)));refine o.v1 (Y.ai j.N rfl bt rfl ep) ?_;refine o.v1 (ar j.N.fO fi) ?_;refine o.V ?_;refine o.bR (Y.bL k (i) rfl fq ha rfl rfl) fun bF aF=>?_;refine o.v1 (Y.ai aF.N rfl jC rfl a_) ?_;refine o.v1 (Y.cast (v2:=bq y.i) (aT ((aF.N.drop 1).take 32) b_ a_ (by rw[kP];exact bB _)) ((by rw[O];exact b6 (kP _)))) ?_;refine o.v1 (Y.build (v:=bq bz) rfl rfl (by intro w;kernel_rfl)) ?_;refine o.v1 (Y.cast (v2:= .bool (decide (y.i=bz))) (Y.ia rfl Tryz.eqGuardType26 (fun w=>fV 9998 Tryz.underlying26 Tryz.underlying5 cN dS (by assumption) (by assumption) w) rfl rfl) ((congrArg Value.bool (decide_eq_decide.2 ⟨fun e=>Subtype.ext e,fun e=>congrArg Subtype.val e⟩)))) (o.nil (bj ?_));refine aU (fun P=>?_) (fun P=>?_)
       ·
        refine G.L (fun bk=>?_);refine o.ak ?_;refine bk ?_;refine G.ret (az (ay (T (aq (al (A ?_))))));exact⟨by rw[gJ,if_neg ac,if_neg t,if_neg (pR B),if_neg (by omega),V (by unfold hq;rw[if_neg C,if_pos P];decide)];unfold hq;rw[if_neg C,if_pos P],n⟩
       ·
        refine G.skip (ba (a8 (G.region ?_)));refine o.V ?_;refine o.v1 bD ?_;refine o.ak ?_;refine aP.sub (aZ (i+1) _ ?_ ?_) ⟨rfl,(aD (by omega)),trivial⟩
        ·exact⟨(by omega),(by rw[tW aH,if_neg (by rw[R];simp),←O];unfold hq;rw[if_neg C,if_neg P]),E⟩
        ·first|omega|(simp only;omega)|(simp;omega)
     ·
      refine G.exit (a6 (T (aY ?_)));refine aS (G.L (fun bl=>?_));refine o.ak ?_;refine bl ?_;refine G.ret (A ?_);exact⟨by rw[gJ,if_neg ac,if_neg t,if_neg (pR B),if_neg (by omega)];rw[List.take_of_length_le (by omega)]at R;rw[R],n⟩
end oh

namespace nh
open E Go.RowKit eM eP e1 e7 ev eQ eR fC fD fI fS ga gz gq hG dz
theorem HA(a:fE)(w:World):(part 3 (c2 a).toArray 0).run Tryz.prog w= .ok (.int .i64 a.d) w:=by simp[part,cj,c2]
theorem zg(a:fE)(w:World):(part 26 (c2 a).toArray 1).run Tryz.prog w= .ok (bq a.i) w:=by
 have e:List.take 32 (c2 a).tail=b7 a.i:=by rw[show(c2 a).tail=b7 a.i from rfl,List.take_of_length_le (by rw[bB];exact Nat.le_refl _)]
 simp[part,b_,a_,e,bq]
theorem HB:(Tryz.prog.fieldsOf 129).toList.map (fun f=>(f.name,f.type,f.offset))=[("Do",3,0),("Id",26,1)]:=by kernel_rfl
theorem C_(d0:Nat){fs:List Field}(i:fs.map (fun f=>(f.name,f.type,f.offset))=[("Do",3,0),("Id",26,1)])(a b:fE)(w:World):(Op.eqFields (d0+2) (c2 a).toArray (c2 b).toArray fs).run Tryz.prog w= .ok (decide (a.d=b.d∧a.i=b.i)) w:=by
 have k:=run_equalIn_int (P:=Tryz.prog) w (d0+1) 3 .i64 .i64 a.d b.d Tryz.underlying3;have aK:=fV (P:=Tryz.prog) d0 Tryz.underlying26 Tryz.underlying5 cN dS a.i.2 b.i.2 w
 cases fs with
 |nil=>simp at i
 |cons f0 fs=>
 cases fs with
 |nil=>simp at i
 |cons f1 fs=>
 cases fs with
 |cons _ _=>simp at i
 |nil=>
  simp only[List.map_cons,List.map_nil,List.cons.injEq,Prod.mk.injEq,and_true]at i;obtain⟨⟨cM,t0,o⟩,bH,t1,aX⟩:=i;have q:f0.name≠ "_" :=by rw[cM];decide
  have bI:f1.name≠ "_" :=by rw[bH];decide
  unfold Op.eqFields;rw[if_pos q,t0,o];unfold Op.eqFields;rw[if_pos bI,t1,aX];unfold Op.eqFields;simp only[Sem.run_bind,HA,zg,Result.andThen_ok,k];by_cases d:a.d=b.d
  ·have U:(a.d==b.d)=true:=by simpa using d
   rw[U];simp only[Bool.not_true,Bool.false_eq_true,if_false,Sem.run_bind,zg,Result.andThen_ok,rk,aK];by_cases j:a.i=b.i
   ·simp[d,j]
   ·have n:¬a.i.1=b.i.1:=fun e=>j (Subtype.ext e)
    simp[d,j,n]
  ·have U:(a.d==b.d)=false:=by simpa using d
   rw[U];simp[d]
theorem HE:Tryz.prog.underlying 129=some (.struct (Tryz.prog.fieldsOf 129)):=by kernel_rfl
theorem HD:Tryz.prog.stoodInHeld 129=false:=by kernel_rfl
theorem zh(a b:fE):(a.d=b.d∧a.i=b.i)↔a=b:=by cases a;cases b;simp
instance instTTd:DecidableEq fE:=fun a b=>decidable_of_iff _ (zh a b)
theorem wi(a b:fE)(w:World):(Op.equalIn 10000 129 (.agg (c2 a).toArray) (.agg (c2 b).toArray)).run Tryz.prog w= .ok (decide (a=b)) w:=by
 have h:=run_equalIn_struct w 9999 129 (c2 a).toArray (c2 b).toArray HE HD;have U:=C_ 9997 HB a b w;rw[decide_eq_decide.2 (zh a b)]at U;exact h.trans U
end nh

namespace oi
open E Go.RowKit eM eP e1 e7 ev eQ eR fC fD fI fS ga gz gq hG nh dz
theorem _root_.Go.Proofs.YtfjmpninmdjcaaaGreatDoor.E.Y.pU{P:Program}{w0:World}{n:Nat}{l:bZ}{H:Heap}{J:Oper}{x y:Operand}{t u:TypeId}{a b:Bool}(i:J.op= .binOp .neq t x y u)(j:P.underlying t=some .bool)(k:aF l x=some (.bool a))(hy:aF l y=some (.bool b)):Y P w0 n l H J (.bool (decide (a≠b))):=by
 intro ac w d o;have h:=run_equalIn_bool' w 9999 t a b j;have U:(a==b)=decide (a=b):=by cases a<;>cases b<;>rfl
 rw[U]at h;simp[execOp,i,d.eval k,d.eval hy,binOp,eqGuard,Op.equal,Op.maxDepth,h]
def lg(a b:cZ):Prop:=a.k=b.k∧a.br=b.br∧a.bX=b.bX∧a.bm=b.bm∧a.dn=b.dn∧a.md=b.md∧a.st=b.st∧a.a6=b.a6
instance instSqS (a b:cZ):Decidable (lg a b):=by unfold lg;infer_instance
theorem kr{α:Type}{a b:List α}{i:Nat}(h:a.take i=b.take i)(d:i<a.length)(aw:i<b.length)(he:a[i]=b[i]):a.take (i+1)=b.take (i+1):=by
 rw[List.take_succ_eq_append_getElem d,List.take_succ_eq_append_getElem aw,h,he]
theorem Hg{a b:cZ}(h:((((((a.k≠b.k∨a.br≠b.br)∨a.bX≠b.bX)∨a.bm≠b.bm)∨a.dn≠b.dn)∨a.md≠b.md)∨a.st≠b.st)∨(a.a6.length:Int)≠b.a6.length):¬lg a b:=fun⟨d,U,i,j,k,n,o,q⟩=>by
 rcases h with((((((h|h)|h)|h)|h)|h)|h)|h
 ·exact h d
 ·exact h U
 ·exact h i
 ·exact h j
 ·exact h k
 ·exact h n
 ·exact h o
 ·exact h (by rw[q])
theorem Hh{a b:cZ}(h:¬(((((((a.k≠b.k∨a.br≠b.br)∨a.bX≠b.bX)∨a.bm≠b.bm)∨a.dn≠b.dn)∨a.md≠b.md)∨a.st≠b.st)∨(a.a6.length:Int)≠b.a6.length))(q:a.a6=b.a6):lg a b:=by
 simp only[not_or,Decidable.not_not]at h;obtain⟨⟨⟨⟨⟨⟨⟨d,U⟩,i⟩,j⟩,k⟩,n⟩,o⟩,r⟩:=h;exact⟨d,U,i,j,k,n,o,q⟩
theorem y1{a b:cZ}(h:¬(((((((a.k≠b.k∨a.br≠b.br)∨a.bX≠b.bX)∨a.bm≠b.bm)∨a.dn≠b.dn)∨a.md≠b.md)∨a.st≠b.st)∨(a.a6.length:Int)≠b.a6.length)):a.a6.length=b.a6.length:=by
 simp only[not_or,Decidable.not_not]at h;omega
set_option maxHeartbeats 1600000 in
theorem CW(a b:cZ)(w0:World)(I:Heap)
 (k:bx I c2 33 a.cd.v a.a6) (aw:bx I c2 33 b.cd.v b.a6):
 aC Tryz.prog w0 45 #[er a,er b] I (fun r t=>r= .bool (decide (lg a b))∧aj I t):=by
 refine aC.aK [er a,er b] Tryz.func45 ?_;intro ba R;have n:aj I I:=W.refl _ _;replace k:=k.bw;replace aw:=aw.bw;have bn:=k.len;have bo:=aw.len;have ao:=a.bX.2;have bp:=b.bX.2;have bs:=a.bm.2;have bu:=b.bm.2;refine G.L (fun ah=>?_);refine o.aO cq ?_;rintro v2 t ⟨rfl,j,au,bh,ai⟩;have bc:t.size=I.size+1:=by rw[ai];simp
 replace k:=k.M au;replace aw:=aw.M au;replace n:=n.L au;have bj:=au.size;replace j:Var 29 t I.size (dX a):=j;refine o.aO cq ?_;rintro v3 N ⟨rfl,aS,A,bk,ak⟩;have bd:N.size=t.size+1:=by rw[ak];simp
 replace k:=k.M A;replace aw:=aw.M A;replace j:=j.M A;replace n:=n.L A;have bl:=A.size;replace aS:Var 29 N t.size (dX b):=aS;refine o.ak ?_;refine ah (G.t2 (fun al aq=>G.L (fun ay=>?_)));refine o.v1 (Y.ai j.N rfl bt rfl b0) ?_;refine o.v1 (ar j.N cj) ?_;refine o.v1 (Y.ai aS.N rfl bt rfl b0) ?_;refine o.v1 (ar aS.N cj) ?_;refine o.v1 cU ?_;refine o.V ?_;refine o.join (d:=17) (v:= .bool (decide (a.k≠b.k∨a.br≠b.br))) 6 (fun S=>?_) ?_
 ·
  refine o.bj (d:=11) rfl (fun ac=>?_) (fun ac=>?_)
  ·
   refine o.ax 6 ?_;exact S _ (congrArg (fun b=>some (Value.bool b)) (by simp[ac])) (ae (ae (ae (ae (ae (ae (bC (congrArg Value.bool (decide_eq_true ac).symm))))))))
  ·
   refine o.ao (Y.ai j.N rfl bt rfl bP) ?_;refine o.ao (ar (j.N.drop 1) bN) ?_;refine o.ao (Y.ai aS.N rfl bt rfl bP) ?_;refine o.ao (ar (aS.N.drop 1) bN) ?_;refine o.ao (Y.iT rfl rfl rfl) ?_;refine o.dF ?_;exact S _ (congrArg (fun b=>some (Value.bool b)) (by simp[ac])) (ae (ae (ae (ae (ae (ae (bC (congrArg Value.bool (decide_eq_false ac).symm))))))))
 refine o.V ?_;refine o.join (d:=24) (v:= .bool (decide ((a.k≠b.k∨a.br≠b.br)∨a.bX≠b.bX))) 6 (fun T=>?_) ?_
 ·
  refine o.bj (d:=18) rfl (fun B=>?_) (fun B=>?_)
  ·
   refine o.ax 6 ?_;exact T _ (congrArg (fun b=>some (Value.bool b)) (by simp[B])) (ae (ae (ae (ae (ae (ae (bC (congrArg Value.bool (decide_eq_true B).symm))))))))
  ·
   refine o.ao (Y.ai j.N rfl bt rfl a_) ?_;refine o.ao (Y.cast (v2:=bq a.bX) (aT ((j.N.drop 2).take 32) b_ a_ (by rw[hC];exact bB _)) (b6 (hC _))) ?_;refine o.ao (Y.ai aS.N rfl bt rfl a_) ?_;refine o.ao (Y.cast (v2:=bq b.bX) (aT ((aS.N.drop 2).take 32) b_ a_ (by rw[hC];exact bB _)) (b6 (hC _))) ?_;refine o.ao (Y.cast (v2:= .bool (decide (a.bX≠b.bX))) (Y.jM rfl Tryz.eqGuardType26 (fun w=>fV 9998 Tryz.underlying26 Tryz.underlying5 cN dS (by assumption) (by assumption) w) rfl rfl) ((congrArg Value.bool (decide_eq_decide.2 ⟨fun h e=>h (congrArg Subtype.val e),fun h e=>h (Subtype.ext e)⟩)))) ?_;refine o.dF ?_;exact T _ (congrArg (fun b=>some (Value.bool b)) (by simp[B])) (ae (ae (ae (ae (ae (ae (bC (congrArg Value.bool (decide_eq_false B).symm))))))))
 refine o.V ?_;refine o.join (d:=31) (v:= .bool (decide (((a.k≠b.k∨a.br≠b.br)∨a.bX≠b.bX)∨a.bm≠b.bm))) 6 (fun V=>?_) ?_
 ·
  refine o.bj (d:=25) rfl (fun C=>?_) (fun C=>?_)
  ·
   refine o.ax 6 ?_;exact V _ (congrArg (fun b=>some (Value.bool b)) (by simp[C])) (ae (ae (ae (ae (ae (ae (bC (congrArg Value.bool (decide_eq_true C).symm))))))))
  ·
   refine o.ao (Y.ai j.N rfl bt rfl a_) ?_;refine o.ao (Y.cast (v2:=bq a.bm) (aT ((j.N.drop 34).take 32) b_ a_ (by rw[hB];exact bB _)) (b6 (hB _))) ?_;refine o.ao (Y.ai aS.N rfl bt rfl a_) ?_;refine o.ao (Y.cast (v2:=bq b.bm) (aT ((aS.N.drop 34).take 32) b_ a_ (by rw[hB];exact bB _)) (b6 (hB _))) ?_;refine o.ao (Y.cast (v2:= .bool (decide (a.bm≠b.bm))) (Y.jM rfl Tryz.eqGuardType26 (fun w=>fV 9998 Tryz.underlying26 Tryz.underlying5 cN dS (by assumption) (by assumption) w) rfl rfl) ((congrArg Value.bool (decide_eq_decide.2 ⟨fun h e=>h (congrArg Subtype.val e),fun h e=>h (Subtype.ext e)⟩)))) ?_;refine o.dF ?_;exact V _ (congrArg (fun b=>some (Value.bool b)) (by simp[C])) (ae (ae (ae (ae (ae (ae (bC (congrArg Value.bool (decide_eq_false C).symm))))))))
 refine o.V ?_;refine o.join (d:=38) (v:= .bool (decide ((((a.k≠b.k∨a.br≠b.br)∨a.bX≠b.bX)∨a.bm≠b.bm)∨a.dn≠b.dn))) 6 (fun X=>?_) ?_
 ·
  refine o.bj (d:=32) rfl (fun E=>?_) (fun E=>?_)
  ·
   refine o.ax 6 ?_;exact X _ (congrArg (fun b=>some (Value.bool b)) (by simp[E])) (ae (ae (ae (ae (ae (ae (bC (congrArg Value.bool (decide_eq_true E).symm))))))))
  ·
   refine o.ao (Y.ai j.N rfl bt rfl b0) ?_;refine o.ao (ar j.N.iu cj) ?_;refine o.ao (Y.ai aS.N rfl bt rfl b0) ?_;refine o.ao (ar aS.N.iu cj) ?_;refine o.ao cU ?_;refine o.dF ?_;exact X _ (congrArg (fun b=>some (Value.bool b)) (by simp[E])) (ae (ae (ae (ae (ae (ae (bC (congrArg Value.bool (decide_eq_false E).symm))))))))
 refine o.V ?_;refine o.join (d:=45) (v:= .bool (decide (((((a.k≠b.k∨a.br≠b.br)∨a.bX≠b.bX)∨a.bm≠b.bm)∨a.dn≠b.dn)∨a.md≠b.md))) 6 (fun Z=>?_) ?_
 ·
  refine o.bj (d:=39) rfl (fun F=>?_) (fun F=>?_)
  ·
   refine o.ax 6 ?_;exact Z _ (congrArg (fun b=>some (Value.bool b)) (by simp[F])) (ae (ae (ae (ae (ae (ae (bC (congrArg Value.bool (decide_eq_true F).symm))))))))
  ·
   refine o.ao (Y.ai j.N rfl bt rfl b0) ?_;refine o.ao (ar j.N.jB cj) ?_;refine o.ao (Y.ai aS.N rfl bt rfl b0) ?_;refine o.ao (ar aS.N.jB cj) ?_;refine o.ao cU ?_;refine o.dF ?_;exact Z _ (congrArg (fun b=>some (Value.bool b)) (by simp[F])) (ae (ae (ae (ae (ae (ae (bC (congrArg Value.bool (decide_eq_false F).symm))))))))
 refine o.V ?_;refine o.join (d:=52) (v:= .bool (decide ((((((a.k≠b.k∨a.br≠b.br)∨a.bX≠b.bX)∨a.bm≠b.bm)∨a.dn≠b.dn)∨a.md≠b.md)∨a.st≠b.st))) 6 (fun aa=>?_) ?_
 ·
  refine o.bj (d:=46) rfl (fun K=>?_) (fun K=>?_)
  ·
   refine o.ax 6 ?_;exact aa _ (congrArg (fun b=>some (Value.bool b)) (by simp[K])) (ae (ae (ae (ae (ae (ae (bC (congrArg Value.bool (decide_eq_true K).symm))))))))
  ·
   refine o.ao (Y.ai j.N rfl bt rfl cX) ?_;refine o.ao (ar j.N.k4 dA) ?_;refine o.ao (Y.ai aS.N rfl bt rfl cX) ?_;refine o.ao (ar aS.N.k4 dA) ?_;refine o.ao (Y.pU rfl Tryz.underlying4 rfl rfl) ?_;refine o.dF ?_;exact aa _ (congrArg (fun b=>some (Value.bool b)) (by simp[K])) (ae (ae (ae (ae (ae (ae (bC (congrArg Value.bool (decide_eq_false K).symm))))))))
 refine o.V ?_;refine o.join (d:=61) (v:= .bool (decide (((((((a.k≠b.k∨a.br≠b.br)∨a.bX≠b.bX)∨a.bm≠b.bm)∨a.dn≠b.dn)∨a.md≠b.md)∨a.st≠b.st)∨(a.a6.length:Int)≠b.a6.length))) 8 (fun ab=>?_) ?_
 ·
  refine o.bj (d:=53) rfl (fun L=>?_) (fun L=>?_)
  ·
   refine o.ax 8 ?_;exact ab _ (congrArg (fun b=>some (Value.bool b)) (by simp[L])) (ae (ae (ae (ae (ae (ae (ae (ae (bC (congrArg Value.bool (decide_eq_true L).symm))))))))))
  ·
   refine o.ao (Y.ai j.N rfl bt rfl ep) ?_;refine o.ao (ar j.N.fO fi) ?_;refine o.ao (bb k fq) ?_;refine o.ao (Y.ai aS.N rfl bt rfl ep) ?_;refine o.ao (ar aS.N.fO fi) ?_;refine o.ao (bb aw fq) ?_;refine o.ao cU ?_;refine o.dF ?_;exact ab _ (congrArg (fun b=>some (Value.bool b)) (by simp[L])) (ae (ae (ae (ae (ae (ae (ae (ae (bC (congrArg Value.bool (decide_eq_false L).symm))))))))))
 refine o.nil (ay ?_);refine aU (fun M=>?_) (fun M=>?_)
 ·
  refine G.L (fun az=>?_);refine o.ak ?_;refine az ?_;refine G.ret (aq (R ?_));exact⟨by rw[decide_eq_false (Hg M)],n⟩
 ·
  refine G.skip (al (G.t2 (fun aA aB=>G.L (fun aE=>?_))));refine o.ak ?_;refine aE (G.aB (fun _ aF aH=>?_))
  refine G.bg (fun(i:(Nat))=>[(2,.pointer (some ⟨I.size,0,none⟩)),(3,.pointer (some ⟨t.size,0,none⟩)),(5,.int .i64 (i:Int))])
   (fun(i:(Nat)) (H:Heap)=>(i≤a.a6.length)∧(a.a6.take i=b.a6.take i)∧aj N H)
   (fun(i:(Nat))=>a.a6.length-i) 0 ⟨rfl,rfl,rfl,trivial⟩ ?_ ?_
  ·
   exact⟨(by omega),rfl,W.refl _ _⟩
  intro i a0 aI a8 aJ af;obtain⟨bm,ag,x⟩:=aI;replace k:=k.M x;replace aw:=aw.M x;replace j:=j.M x;replace aS:=aS.M x;replace n:=n.L x;have b2:=x.size;refine G.t2 (fun aK aL=>G.L (fun am=>?_));refine o.V ?_;refine o.v1 (Y.ai j.N rfl bt rfl ep) ?_;refine o.v1 (ar j.N.fO fi) ?_;refine o.v1 (bb k fq) ?_;refine o.v1 bJ (o.nil (am ?_));refine aU (fun aM=>?_) (fun aM=>?_)
  ·
   have hlen:=y1 M;have a6:i<a.a6.length:=by omega
   have a7:i<b.a6.length:=by omega
   obtain⟨y,P⟩:∃q,q=a.a6[i]:=⟨_,rfl⟩;obtain⟨z,Q⟩:∃q,q=b.a6[i]:=⟨_,rfl⟩;refine G.skip (aK (G.t2 (fun aN ap=>G.aB (fun aO _ aQ=>G.t1 (fun aR=>?_)))));refine hf ?_;refine o.v1 (Y.ai j.N rfl bt rfl ep) ?_;refine o.v1 (ar j.N.fO fi) ?_;refine o.V ?_;refine o.bR (Y.bL k (i) rfl fq ha rfl rfl) fun bf aW=>?_;refine o.v1 (Y.cast (v2:= .agg (c2 y).toArray) (aT aW.N mB ha (hX _)) (by rw[P])) ?_;refine o.v1 (Y.ai aS.N rfl bt rfl ep) ?_;refine o.v1 (ar aS.N.fO fi) ?_;refine o.V ?_;refine o.bR (Y.bL aw (i) rfl fq ha rfl rfl) fun bg aX=>?_;refine o.v1 (Y.cast (v2:= .agg (c2 z).toArray) (aT aX.N mB ha (hX _)) (by rw[Q])) ?_;refine o.v1 (Y.jM rfl Tryz.eqGuardType129 (fun w=>wi y z w) rfl rfl) (o.nil (aR ?_));refine aU (fun O=>?_) (fun O=>?_)
   ·
    refine G.L (fun aY=>?_);refine o.ak ?_;refine aY ?_;refine G.ret (aQ (ap (af (aH (aB (R ?_))))));exact⟨by rw[decide_eq_false (fun h=>O (by rw[P,Q];have a1:=h.2.2.2.2.2.2.2;simp only[a1]))],n⟩
   ·
    refine G.skip (aO (aN (G.region ?_)));refine o.V ?_;refine o.v1 bD ?_;refine o.ak ?_;refine aP.sub (aJ (i+1) _ ?_ ?_) ⟨rfl,rfl,(aD (by omega)),trivial⟩
    ·exact⟨(by omega),kr ag a6 a7 (by rw[←P,←Q];exact Decidable.not_not.1 O),x⟩
    ·first|omega|(simp only;omega)|(simp;omega)
  ·
   refine G.exit (aL (af (aF ?_)));refine aA (G.L (fun aZ=>?_));refine o.ak ?_;refine aZ ?_;refine G.ret (R ?_);exact⟨by rw[decide_eq_true (Hh M (by have hlen:=y1 M;rwa[List.take_of_length_le (by omega),List.take_of_length_le (by omega)]at ag))],n⟩
end oi

namespace pD
open E Go.RowKit eM eP e1 e7 ev eQ eR fC fD fI fS ga gz gq hG nh dz
theorem wj(d:Nat)(a b:List UInt8)(w:World):(Op.equalIn (d+1) 9 (aI a) (aI b)).run Tryz.prog w= .ok (decide (a=b)) w:=by
 have h:=run_equalIn_string (P:=Tryz.prog) w d 9 (ByteArray.mk a.toArray) (ByteArray.mk b.toArray) Tryz.underlying9;have U:(a==b)=decide (a=b):=by by_cases h:a=b<;>simp[h]
 exact h.trans (by simp[ByteArray.toList_eq,U])
theorem Gp(a:cA)(w:World):(part 9 (dB a).toArray 0).run Tryz.prog w= .ok (aI a.n) w:=by simp[part,bN,dB]
theorem yu(a:cA)(w:World):(part 26 (dB a).toArray 1).run Tryz.prog w= .ok (bq a.i) w:=by
 have e:List.take 32 (dB a).tail=b7 a.i:=by rw[show(dB a).tail=b7 a.i from rfl,List.take_of_length_le (by rw[bB];exact Nat.le_refl _)]
 simp[part,b_,a_,e,bq]
theorem Gq:(Tryz.prog.fieldsOf 71).toList.map (fun f=>(f.name,f.type,f.offset))=[("Name",9,0),("Id",26,1)]:=by kernel_rfl
theorem Db(d0:Nat){fs:List Field}(i:fs.map (fun f=>(f.name,f.type,f.offset))=[("Name",9,0),("Id",26,1)])(a b:cA)(w:World):(Op.eqFields (d0+2) (dB a).toArray (dB b).toArray fs).run Tryz.prog w= .ok (decide (a.n=b.n∧a.i=b.i)) w:=by
 have k:=wj (d0+1) a.n b.n w;have aK:=fV (P:=Tryz.prog) d0 Tryz.underlying26 Tryz.underlying5 cN dS a.i.2 b.i.2 w
 cases fs with
 |nil=>simp at i
 |cons f0 fs=>
 cases fs with
 |nil=>simp at i
 |cons f1 fs=>
 cases fs with
 |cons _ _=>simp at i
 |nil=>
  simp only[List.map_cons,List.map_nil,List.cons.injEq,Prod.mk.injEq,and_true]at i;obtain⟨⟨cM,t0,o⟩,bH,t1,aX⟩:=i;have q:f0.name≠ "_" :=by rw[cM];decide
  have bI:f1.name≠ "_" :=by rw[bH];decide
  unfold Op.eqFields;rw[if_pos q,t0,o];unfold Op.eqFields;rw[if_pos bI,t1,aX];unfold Op.eqFields;simp only[Sem.run_bind,Gp,yu,Result.andThen_ok,k];by_cases d:a.n=b.n
  ·rw[decide_eq_true d]
   simp only[Bool.not_true,Bool.false_eq_true,if_false,Sem.run_bind,yu,Result.andThen_ok,rk,aK];by_cases j:a.i=b.i
   ·simp[d,j]
   ·have n:¬a.i.1=b.i.1:=fun e=>j (Subtype.ext e)
    simp[d,j,n]
  ·rw[decide_eq_false d]
   simp[d]
theorem Gs:Tryz.prog.underlying 71=some (.struct (Tryz.prog.fieldsOf 71)):=by kernel_rfl
theorem Gr:Tryz.prog.stoodInHeld 71=false:=by kernel_rfl
theorem yv(a b:cA):(a.n=b.n∧a.i=b.i)↔a=b:=by cases a;cases b;simp
instance instTRf:DecidableEq cA:=fun a b=>decidable_of_iff _ (yv a b)
theorem wh(a b:cA)(w:World):(Op.equalIn 10000 71 (.agg (dB a).toArray) (.agg (dB b).toArray)).run Tryz.prog w= .ok (decide (a=b)) w:=by
 have h:=run_equalIn_struct w 9999 71 (dB a).toArray (dB b).toArray Gs Gr;have U:=Db 9997 Gq a b w;rw[decide_eq_decide.2 (yv a b)]at U;exact h.trans U
end pD

namespace rC
open E Go.RowKit eM eP e1 e7 ev eQ eR fC fD fI fS ga gz gq hG nh pD dz
theorem Em(a:cE)(w:World):(part 26 (dt a).toArray 0).run Tryz.prog w= .ok (bq a.J) w:=by
 have e:=Dd a;rw[List.drop_zero]at e;simp[part,b_,a_,e,bq]
theorem xi(a:cE)(w:World):(part 26 (dt a).toArray 32).run Tryz.prog w= .ok (bq a.w) w:=by
 have e:=De a;simp[part,b_,a_,e,bq]
theorem sJ(a:cE)(w:World):(part 9 (dt a).toArray 64).run Tryz.prog w= .ok (aI a.y) w:=by
 have e:=wx a
 have d:(dt a)[64]?=some (aI a.y):=by
  have:=congrArg List.head? e;rw[List.head?_drop]at this;exact this
 simp[part,bN,d]
theorem Ep:(Tryz.prog.fieldsOf 64).toList.map (fun f=>(f.name,f.type,f.offset))=[("Old",26,0),("New",26,32),("Why",9,64)]:=by kernel_rfl
theorem Da(d0:Nat){fs:List Field}(i:fs.map (fun f=>(f.name,f.type,f.offset))=[("Old",26,0),("New",26,32),("Why",9,64)])(a b:cE)(w:World):(Op.eqFields (d0+2) (dt a).toArray (dt b).toArray fs).run Tryz.prog w= .ok (decide (a.J=b.J∧a.w=b.w∧a.y=b.y)) w:=by
 have n:=fV (P:=Tryz.prog) d0 Tryz.underlying26 Tryz.underlying5 cN dS a.J.2 b.J.2 w;have aK:=fV (P:=Tryz.prog) d0 Tryz.underlying26 Tryz.underlying5 cN dS a.w.2 b.w.2 w;have o:=wj (d0+1) a.y b.y w
 cases fs with
 |nil=>simp at i
 |cons f0 fs=>
 cases fs with
 |nil=>simp at i
 |cons f1 fs=>
 cases fs with
 |nil=>simp at i
 |cons f2 fs=>
 cases fs with
 |cons _ _=>simp at i
 |nil=>
  simp only[List.map_cons,List.map_nil,List.cons.injEq,Prod.mk.injEq,and_true]at i;obtain⟨⟨cM,t0,x⟩,⟨bH,t1,aX⟩,t,t2,A⟩:=i;have B:f0.name≠ "_" :=by rw[cM];decide
  have bI:f1.name≠ "_" :=by rw[bH];decide
  have C:f2.name≠ "_" :=by rw[t];decide
  unfold Op.eqFields;rw[if_pos B,t0,x];unfold Op.eqFields;rw[if_pos bI,t1,aX];unfold Op.eqFields;rw[if_pos C,t2,A];unfold Op.eqFields;simp only[Sem.run_bind,Em,xi,sJ,Result.andThen_ok,rk,n];by_cases d:a.J=b.J
  ·have q:a.J.1=b.J.1:=congrArg Subtype.val d
   rw[decide_eq_true q];simp only[Bool.not_true,Bool.false_eq_true,if_false,Sem.run_bind,xi,sJ,Result.andThen_ok,rk,aK];by_cases j:a.w=b.w
   ·have r:a.w.1=b.w.1:=congrArg Subtype.val j
    rw[decide_eq_true r];simp only[Bool.not_true,Bool.false_eq_true,if_false,Sem.run_bind,sJ,Result.andThen_ok,o];by_cases U:a.y=b.y
    ·simp[d,j,U]
    ·simp[d,j,U]
   ·have k:¬a.w.1=b.w.1:=fun e=>j (Subtype.ext e)
    rw[decide_eq_false k];simp[d,j]
  ·have k:¬a.J.1=b.J.1:=fun e=>d (Subtype.ext e)
   rw[decide_eq_false k];simp[d]
theorem Et:Tryz.prog.underlying 64=some (.struct (Tryz.prog.fieldsOf 64)):=by kernel_rfl
theorem Es:Tryz.prog.stoodInHeld 64=false:=by kernel_rfl
theorem xj(a b:cE):(a.J=b.J∧a.w=b.w∧a.y=b.y)↔a=b:=by cases a;cases b;simp
instance instTLn:DecidableEq cE:=fun a b=>decidable_of_iff _ (xj a b)
theorem wg(a b:cE)(w:World):(Op.equalIn 10000 64 (.agg (dt a).toArray) (.agg (dt b).toArray)).run Tryz.prog w= .ok (decide (a=b)) w:=by
 have h:=run_equalIn_struct w 9999 64 (dt a).toArray (dt b).toArray Et Es;have U:=Da 9997 Ep a b w;rw[decide_eq_decide.2 (xj a b)]at U;exact h.trans U
end rC

namespace pE
open E Go.RowKit eM eP e1 e7 ev eQ eR fC fD fI fS ga gz gq hG nh oi pD rC dz
def kf(a b:cW):Prop:=a.an=b.an∧lg a.q b.q∧a.ba=b.ba∧cp a.bW=cp b.bW∧cn a.el=cn b.el
noncomputable instance instStS (a b:cW):Decidable (kf a b):=Classical.propDecidable _
theorem Hm{a b:cW}(h:(((a.an≠b.an∨(a.ba.length:Int)≠b.ba.length)∨(a.bW.length:Int)≠b.bW.length)∨(a.el.length:Int)≠b.el.length)):¬kf a b:=fun⟨d,_,i,j,k⟩=>by
 have n:=congrArg List.length j;have o:=congrArg List.length k;simp only[cp,cn,List.length_map]at n o;rcases h with((h|h)|h)|h
 ·exact h d
 ·exact h (by rw[i])
 ·omega
 ·omega
theorem Hn{a b:cW}(h:¬(((a.an≠b.an∨(a.ba.length:Int)≠b.ba.length)∨(a.bW.length:Int)≠b.bW.length)∨(a.el.length:Int)≠b.el.length)):a.an=b.an∧a.ba.length=b.ba.length∧a.bW.length=b.bW.length∧a.el.length=b.el.length:=by
 simp only[not_or,Decidable.not_not]at h;exact⟨h.1.1.1,by omega,by omega,by omega⟩
theorem xg{a b:List e8}(h:cp a=cp b){i:Nat}(j:i<a.length)(k:i<b.length):a[i].n=b[i].n∧a[i].l=b[i].l:=by
 have d:(cp a)[i]?=(cp b)[i]?:=by rw[h]
 simp only[cp,List.getElem?_map,List.getElem?_eq_getElem j,List.getElem?_eq_getElem k,Option.map_some,Option.some.injEq,Prod.mk.injEq]at d;exact d
theorem CY{a b:List bA}(h:cn a=cn b){i:Nat}(j:i<a.length)(k:i<b.length):a[i].k=b[i].k∧a[i].d=b[i].d:=by
 have d:(cn a)[i]?=(cn b)[i]?:=by rw[h]
 simp only[cn,List.getElem?_map,List.getElem?_eq_getElem j,List.getElem?_eq_getElem k,Option.map_some,Option.some.injEq,Prod.mk.injEq]at d;exact⟨Subtype.ext d.1,d.2⟩
set_option maxHeartbeats 3200000 in
theorem se(a b:cW)(w0:World)(I:Heap)
 (fa:bx I dB 33 a.en.v a.ba) (c7:bx I ek 2 a.cw.v a.bW) (E:∀y∈a.bW,bx I dt 65 y.v.v y.l) (ab:bx I c2 33 a.q.cd.v a.q.a6) (x:bx I bO 33 a.ct.v a.el) (M:∀y∈a.el,bx I a1 1 y.v.v y.d) (ec:bx I dB 33 b.en.v b.ba) (A:bx I ek 2 b.cw.v b.bW) (bM:∀y∈b.bW,bx I dt 65 y.v.v y.l) (af:bx I c2 33 b.q.cd.v b.q.a6) (C:bx I bO 33 b.ct.v b.el) (bf:∀y∈b.el,bx I a1 1 y.v.v y.d):
 aC Tryz.prog w0 22 #[eg a,eg b] I (fun r Q=>r= .bool (decide (kf a b))∧aj I Q):=by
 refine aC.aK [eg a,eg b] Tryz.func22 ?_;intro dJ aa;have t:aj I I:=W.refl _ _;replace fa:=fa.bw;replace c7:=c7.bw;replace E:=fun y j=>(E y j).bw;replace ab:=ab.bw;replace x:=x.bw;replace M:=fun y j=>(M y j).bw;replace ec:=ec.bw;replace A:=A.bw;replace bM:=fun y j=>(bM y j).bw;replace af:=af.bw;replace C:=C.bw;replace bf:=fun y j=>(bf y j).bw;have eG:=fa.len;have eH:=c7.len;have eJ:=x.len;have eK:=ec.len;have eL:=A.len;have eM:=C.len;refine G.L (fun cP=>?_);refine o.aO cq ?_;rintro v2 Q ⟨rfl,n,O,eo,cR⟩;have dK:Q.size=I.size+1:=by rw[cR];simp
 replace fa:=fa.M O;replace c7:=c7.M O;replace E:=fun y j=>(E y j).M O;replace ab:=ab.M O;replace x:=x.M O;replace M:=fun y j=>(M y j).M O;replace ec:=ec.M O;replace A:=A.M O;replace bM:=fun y j=>(bM y j).M O;replace af:=af.M O;replace C:=C.M O;replace bf:=fun y j=>(bf y j).M O;replace t:=t.L O;have cs:=O.size;replace n:Var 47 Q I.size (bS a):=n;refine o.aO cq ?_;rintro v3 aY ⟨rfl,aS,L,ep,cm⟩;have dL:aY.size=Q.size+1:=by rw[cm];simp
 replace fa:=fa.M L;replace c7:=c7.M L;replace E:=fun y j=>(E y j).M L;replace ab:=ab.M L;replace x:=x.M L;replace M:=fun y j=>(M y j).M L;replace ec:=ec.M L;replace A:=A.M L;replace bM:=fun y j=>(bM y j).M L;replace af:=af.M L;replace C:=C.M L;replace bf:=fun y j=>(bf y j).M L;replace n:=n.M L;replace t:=t.L L;have bm:=L.size;replace aS:Var 47 aY Q.size (bS b):=aS;refine o.ak ?_;refine cP (G.t2 (fun cr bA=>G.L (fun bE=>?_)));refine o.v1 (Y.ai n.N rfl ca rfl bP) ?_;refine o.v1 (ar n.N bN) ?_;refine o.v1 (Y.ai aS.N rfl ca rfl bP) ?_;refine o.v1 (ar aS.N bN) ?_;refine o.v1 (Y.iT rfl rfl rfl) ?_;refine o.V ?_;refine o.join (d:=22) (v:= .bool (decide (a.an≠b.an∨(a.ba.length:Int)≠b.ba.length))) 8 (fun aZ=>?_) ?_
 ·
  refine o.bj (d:=14) rfl (fun al=>?_) (fun al=>?_)
  ·
   refine o.ax 8 ?_;exact aZ _ (congrArg (fun b=>some (Value.bool b)) (by simp[al])) (ae (ae (ae (ae (ae (ae (ae (ae (bC (congrArg Value.bool (decide_eq_true al).symm))))))))))
  ·
   refine o.ao (Y.ai n.N rfl ca rfl hb) ?_;refine o.ao (ar (n.N.drop 1) ix) ?_;refine o.ao (bb fa gK) ?_;refine o.ao (Y.ai aS.N rfl ca rfl hb) ?_;refine o.ao (ar (aS.N.drop 1) ix) ?_;refine o.ao (bb ec gK) ?_;refine o.ao cU ?_;refine o.dF ?_;exact aZ _ (congrArg (fun b=>some (Value.bool b)) (by simp[al])) (ae (ae (ae (ae (ae (ae (ae (ae (bC (congrArg Value.bool (decide_eq_false al).symm))))))))))
 refine o.V ?_;refine o.join (d:=31) (v:= .bool (decide ((a.an≠b.an∨(a.ba.length:Int)≠b.ba.length)∨(a.bW.length:Int)≠b.bW.length))) 8 (fun a7=>?_) ?_
 ·
  refine o.bj (d:=23) rfl (fun aq=>?_) (fun aq=>?_)
  ·
   refine o.ax 8 ?_;exact a7 _ (congrArg (fun b=>some (Value.bool b)) (by simp[aq])) (ae (ae (ae (ae (ae (ae (ae (ae (bC (congrArg Value.bool (decide_eq_true aq).symm))))))))))
  ·
   refine o.ao (Y.ai n.N rfl ca rfl fW) ?_;refine o.ao (ar (n.N.drop 2) hx) ?_;refine o.ao (bb c7 fG) ?_;refine o.ao (Y.ai aS.N rfl ca rfl fW) ?_;refine o.ao (ar (aS.N.drop 2) hx) ?_;refine o.ao (bb A fG) ?_;refine o.ao cU ?_;refine o.dF ?_;exact a7 _ (congrArg (fun b=>some (Value.bool b)) (by simp[aq])) (ae (ae (ae (ae (ae (ae (ae (ae (bC (congrArg Value.bool (decide_eq_false aq).symm))))))))))
 refine o.V ?_;refine o.join (d:=40) (v:= .bool (decide (((a.an≠b.an∨(a.ba.length:Int)≠b.ba.length)∨(a.bW.length:Int)≠b.bW.length)∨(a.el.length:Int)≠b.el.length))) 8 (fun a8=>?_) ?_
 ·
  refine o.bj (d:=32) rfl (fun ay=>?_) (fun ay=>?_)
  ·
   refine o.ax 8 ?_;exact a8 _ (congrArg (fun b=>some (Value.bool b)) (by simp[ay])) (ae (ae (ae (ae (ae (ae (ae (ae (bC (congrArg Value.bool (decide_eq_true ay).symm))))))))))
  ·
   refine o.ao (Y.ai n.N rfl ca rfl dv) ?_;refine o.ao (ar n.N.hQ dV) ?_;refine o.ao (bb x cu) ?_;refine o.ao (Y.ai aS.N rfl ca rfl dv) ?_;refine o.ao (ar aS.N.hQ dV) ?_;refine o.ao (bb C cu) ?_;refine o.ao cU ?_;refine o.dF ?_;exact a8 _ (congrArg (fun b=>some (Value.bool b)) (by simp[ay])) (ae (ae (ae (ae (ae (ae (ae (ae (bC (congrArg Value.bool (decide_eq_false ay).symm))))))))))
 refine o.V ?_;refine o.bj (d:=41) rfl (fun aJ=>?_) (fun aJ=>?_)
 ·
  refine o.ax 7 ?_;refine o.nil (bE ?_);refine G.iz rfl ?_;refine G.L (fun ct=>?_);refine o.ak ?_;refine ct ?_;refine G.ret (bA (aa ?_));exact⟨by rw[decide_eq_false (Hm aJ)],t⟩
 ·
  obtain⟨s1,s2,eO,eP⟩:=Hn aJ;refine o.ao (Y.ai n.N rfl ca rfl cS) ?_;refine o.ao (Y.cast (v2:=er a.q) (aT ((n.N.drop 3).take 70) h9 cS (by rw[jU];exact ee _)) (b6 (jU a))) ?_;refine o.ao (Y.ai aS.N rfl ca rfl cS) ?_;refine o.ao (Y.cast (v2:=er b.q) (aT ((aS.N.drop 3).take 70) h9 cS (by rw[jU];exact ee _)) (b6 (jU b))) ?_;refine o.call rfl BT rfl bd rfl rfl (CW a.q b.q w0 _ ab.any af.any) (fun dr cv cw=>?_);obtain⟨rfl,ac⟩:=cw;replace fa:=fa.M ac;replace c7:=c7.M ac;replace E:=fun y j=>(E y j).M ac;replace x:=x.M ac;replace M:=fun y j=>(M y j).M ac;replace ec:=ec.M ac;replace A:=A.M ac;replace bM:=fun y j=>(bM y j).M ac;replace C:=C.M ac;replace bf:=fun y j=>(bf y j).M ac;replace n:=n.M ac;replace aS:=aS.M ac;replace t:=t.L ac;have et:=ac.size;refine o.ao (Y.hp rfl rfl) ?_;refine o.dF ?_;refine o.nil (bE ?_);refine aU (fun aK=>?_) (fun aK=>?_)
  ·
   refine G.L (fun cx=>?_);refine o.ak ?_;refine cx ?_;refine G.ret (bA (aa ?_));exact⟨by rw[decide_eq_false (fun h=>aK h.2.1)],t⟩
  ·
   refine G.skip (cr (G.t2 (fun cy cz=>G.L (fun cT=>?_))));refine o.ak ?_;refine cT (G.aB (fun _ dk dm=>?_))
   refine G.bg (fun(i:(Nat))=>[(2,.pointer (some ⟨I.size,0,none⟩)),(3,.pointer (some ⟨Q.size,0,none⟩)),(5,.int .i64 (i:Int))])
    (fun(i:(Nat)) (H:Heap)=>(i≤a.ba.length)∧(a.ba.take i=b.ba.take i)∧aj cv H)
    (fun(i:(Nat))=>a.ba.length-i) 0 ⟨rfl,rfl,rfl,trivial⟩ ?_ ?_
   ·
    exact⟨(by omega),rfl,W.refl _ _⟩
   intro i dp dq dI ce bF;obtain⟨ey,bR,F⟩:=dq;replace fa:=fa.M F;replace c7:=c7.M F;replace E:=fun y j=>(E y j).M F;replace x:=x.M F;replace M:=fun y j=>(M y j).M F;replace ec:=ec.M F;replace A:=A.M F;replace bM:=fun y j=>(bM y j).M F;replace C:=C.M F;replace bf:=fun y j=>(bf y j).M F;replace n:=n.M F;replace aS:=aS.M F;replace t:=t.L F;have eu:=F.size;refine G.t2 (fun b5 b7=>G.L (fun b8=>?_));refine o.V ?_;refine o.v1 (Y.ai n.N rfl ca rfl hb) ?_;refine o.v1 (ar (n.N.drop 1) ix) ?_;refine o.v1 (bb fa gK) ?_;refine o.v1 bJ (o.nil (b8 ?_));refine aU (fun du=>?_) (fun du=>?_)
   ·
    have bI:i<a.ba.length:=by omega
    have bL:i<b.ba.length:=by omega
    obtain⟨y,aE⟩:∃q,q=a.ba[i]:=⟨_,rfl⟩;obtain⟨z,aF⟩:∃q,q=b.ba[i]:=⟨_,rfl⟩;have eE:y∈a.ba:=by rw[aE];exact List.getElem_mem bI
    have eF:z∈b.ba:=by rw[aF];exact List.getElem_mem bL
    refine G.skip (b5 (G.t2 (fun b9 cb=>G.aB (fun cc _ cd=>G.t1 (fun cf=>?_)))));refine hf ?_;refine o.v1 (Y.ai n.N rfl ca rfl hb) ?_;refine o.v1 (ar (n.N.drop 1) ix) ?_;refine o.V ?_;refine o.bR (Y.bL fa (i) rfl gK hP rfl rfl) fun ef cg=>?_;refine o.v1 (Y.cast (v2:= .agg (dB y).toArray) (aT cg.N np hP (hW _)) (by rw[aE])) ?_;refine o.v1 (Y.ai aS.N rfl ca rfl hb) ?_;refine o.v1 (ar (aS.N.drop 1) ix) ?_;refine o.V ?_;refine o.bR (Y.bL ec (i) rfl gK hP rfl rfl) fun dU cj=>?_;refine o.v1 (Y.cast (v2:= .agg (dB z).toArray) (aT cj.N np hP (hW _)) (by rw[aF])) ?_;refine o.v1 (Y.jM rfl Tryz.eqGuardType71 (fun w=>wh y z w) rfl rfl) (o.nil (cf ?_));refine aU (fun aL=>?_) (fun aL=>?_)
    ·
     refine G.L (fun a0=>?_);refine o.ak ?_;refine a0 ?_;refine G.ret (cd (cb (bF (dm (cz (aa ?_))))));exact⟨by rw[decide_eq_false (fun h=>aL (by rw[aE,aF];have P:=h.2.2.1;simp only[P]))],t⟩
    ·
     refine G.skip (cc (b9 (G.region ?_)));refine o.V ?_;refine o.v1 bD ?_;refine o.ak ?_;refine aP.sub (ce (i+1) _ ?_ ?_) ⟨rfl,rfl,(aD (by omega)),trivial⟩
     ·exact⟨(by omega),kr bR bI bL (by rw[←aE,←aF];exact Decidable.not_not.1 aL),F⟩
     ·first|omega|(simp only;omega)|(simp;omega)
   ·
    have dF:a.ba=b.ba:=by rwa[List.take_of_length_le (by omega),List.take_of_length_le (by omega)]at bR
    refine G.exit (b7 (bF (dk ?_)));refine cy (G.t2 (fun b2 bc=>G.L (fun a2=>?_)));refine o.ak ?_;refine a2 (G.aB (fun _ a3 bg=>?_))
    refine G.bg (fun(i2:(Nat))=>[(2,.pointer (some ⟨I.size,0,none⟩)),(3,.pointer (some ⟨Q.size,0,none⟩)),(6,.int .i64 (i2:Int))])
     (fun(i2:(Nat)) (H:Heap)=>(i2≤a.bW.length)∧((cp a.bW).take i2=(cp b.bW).take i2)∧aj dp H)
     (fun(i2:(Nat))=>a.bW.length-i2) 0 ⟨rfl,rfl,rfl,trivial⟩ ?_ ?_
    ·
     exact⟨(by omega),rfl,W.refl _ _⟩
    intro i2 bG ci ev a4 aM;obtain⟨ez,bU,K⟩:=ci;replace c7:=c7.M K;replace E:=fun y j=>(E y j).M K;replace x:=x.M K;replace M:=fun y j=>(M y j).M K;replace A:=A.M K;replace bM:=fun y j=>(bM y j).M K;replace C:=C.M K;replace bf:=fun y j=>(bf y j).M K;replace n:=n.M K;replace aS:=aS.M K;replace t:=t.L K;have ew:=K.size;refine G.t2 (fun a5 bZ=>G.L (fun b0=>?_));refine o.V ?_;refine o.v1 (Y.ai n.N rfl ca rfl fW) ?_;refine o.v1 (ar (n.N.drop 2) hx) ?_;refine o.v1 (bb c7 fG) ?_;refine o.v1 bJ (o.nil (b0 ?_));refine aU (fun dw=>?_) (fun dw=>?_)
    ·
     have aR:i2<a.bW.length:=by omega
     have aW:i2<b.bW.length:=by omega
     obtain⟨B,T⟩:∃q,q=a.bW[i2]:=⟨_,rfl⟩;obtain⟨N,Z⟩:∃q,q=b.bW[i2]:=⟨_,rfl⟩;have aH:B∈a.bW:=by rw[T];exact List.getElem_mem aR
     have aX:N∈b.bW:=by rw[Z];exact List.getElem_mem aW
     have ao:=(E B aH).len;have eQ:=(bM N aX).len;refine G.skip (a5 (G.t2 (fun b1 bh=>G.aB (fun a9 _ bj=>G.t2 (fun cl cV=>G.t1 (fun cX=>?_))))));refine hf ?_;refine o.v1 (Y.ai n.N rfl ca rfl fW) ?_;refine o.v1 (ar (n.N.drop 2) hx) ?_;refine o.V ?_;refine o.bR (Y.bL c7 (i2) rfl fG fp rfl rfl) fun eh bk=>?_;refine o.v1 (Y.ai bk.N rfl fZ rfl bP) ?_;refine o.v1 (Y.cast (v2:=aI B.n) (ar (bk.N.drop 0) bN) (by rw[T])) ?_;refine o.v1 (Y.ai aS.N rfl ca rfl fW) ?_;refine o.v1 (ar (aS.N.drop 2) hx) ?_;refine o.V ?_;refine o.bR (Y.bL A (i2) rfl fG fp rfl rfl) fun ei bl=>?_;refine o.v1 (Y.ai bl.N rfl fZ rfl bP) ?_;refine o.v1 (Y.cast (v2:=aI N.n) (ar (bl.N.drop 0) bN) (by rw[Z])) ?_;refine o.v1 (Y.iT rfl rfl rfl) ?_;refine o.V ?_;refine o.join (d:=103) (v:= .bool (decide (B.n≠N.n∨(B.l.length:Int)≠N.l.length))) 16 (fun ba=>?_) ?_
     ·
      refine o.bj (d:=87) rfl (fun ag=>?_) (fun ag=>?_)
      ·
       refine o.ax 16 ?_;exact ba _ (congrArg (fun b=>some (Value.bool b)) (by simp[ag])) (ae (ae (ae (ae (ae (ae (ae (ae (ae (ae (ae (ae (ae (ae (ae (ae (bC (congrArg Value.bool (decide_eq_true ag).symm))))))))))))))))))
      ·
       refine o.ao (Y.ai n.N rfl ca rfl fW) ?_;refine o.ao (ar (n.N.drop 2) hx) ?_;refine o.bU ?_;refine o.e (g:=fun ad=> .pointer (some ad)) (Y.bL c7 (i2) rfl fG fp rfl rfl) bd rfl rfl (fun ej bn=>?_);refine o.ao (Y.ai bn.N rfl fZ rfl gS) ?_;refine o.ao (Y.cast (v2:=B.v.v) (ar (bn.N.drop 1) h_) (by rw[T])) ?_;refine o.ao (bb (E B aH) hR) ?_;refine o.ao (Y.ai aS.N rfl ca rfl fW) ?_;refine o.ao (ar (aS.N.drop 2) hx) ?_;refine o.bU ?_;refine o.e (g:=fun ad=> .pointer (some ad)) (Y.bL A (i2) rfl fG fp rfl rfl) bd rfl rfl (fun en bo=>?_);refine o.ao (Y.ai bo.N rfl fZ rfl gS) ?_;refine o.ao (Y.cast (v2:=N.v.v) (ar (bo.N.drop 1) h_) (by rw[Z])) ?_;refine o.ao (bb (bM N aX) hR) ?_;refine o.ao cU ?_;refine o.dF ?_;exact ba _ (congrArg (fun b=>some (Value.bool b)) (by simp[ag])) (ae (ae (ae (ae (ae (ae (ae (ae (ae (ae (ae (ae (ae (ae (ae (ae (bC (congrArg Value.bool (decide_eq_false ag).symm))))))))))))))))))
     refine o.nil (cX ?_);refine aU (fun ah=>?_) (fun ah=>?_)
     ·
      refine G.L (fun cZ=>?_);refine o.ak ?_;refine cZ ?_;refine G.ret (cV (bj (bh (aM (bg (bc (aa ?_)))))));exact⟨by rw[decide_eq_false (fun h=>by have P:=xg h.2.2.2.1 aR aW;rw[←T,←Z]at P;rcases ah with q|q;exact q P.1;exact q (by rw[P.2]))],t⟩
     ·
      have dE:B.n=N.n:=by simp only[not_or,Decidable.not_not]at ah;exact ah.1
      have eC:B.l.length=N.l.length:=by simp only[not_or,Decidable.not_not]at ah;omega
      refine G.skip (cl (G.L (fun bT=>?_)));refine o.ak ?_;refine bT (G.aB (fun _ be bY=>?_))
      refine G.bg (fun(k:(Nat))=>[(2,.pointer (some ⟨I.size,0,none⟩)),(3,.pointer (some ⟨Q.size,0,none⟩)),(6,.int .i64 (i2:Int)),(7,.int .i64 (k:Int))])
       (fun(k:(Nat)) (H:Heap)=>(k≤B.l.length)∧(B.l.take k=N.l.take k)∧aj bG H)
       (fun(k:(Nat))=>B.l.length-k) 0 ⟨rfl,rfl,rfl,rfl,trivial⟩ ?_ ?_
      ·
       exact⟨(by omega),rfl,W.refl _ _⟩
      intro k dY co dZ c0 bp;obtain⟨eB,bV,R⟩:=co;replace c7:=c7.M R;replace E:=fun y j=>(E y j).M R;replace A:=A.M R;replace bM:=fun y j=>(bM y j).M R;replace n:=n.M R;replace aS:=aS.M R;replace t:=t.L R;replace K:=K.L R;have d_:=R.size;refine G.t2 (fun c1 bi=>G.L (fun c3=>?_));refine o.V ?_;refine o.v1 (Y.ai n.N rfl ca rfl fW) ?_;refine o.v1 (ar (n.N.drop 2) hx) ?_;refine o.V ?_;refine o.bR (Y.bL c7 (i2) rfl fG fp rfl rfl) fun dM au=>?_;refine o.v1 (Y.ai au.N rfl fZ rfl gS) ?_;refine o.v1 (Y.cast (v2:=B.v.v) (ar (au.N.drop 1) h_) (by rw[T])) ?_;refine o.v1 (bb (E B aH) hR) ?_;refine o.v1 bJ (o.nil (c3 ?_));refine aU (fun aB=>?_) (fun aB=>?_)
      ·
       have c4:k<B.l.length:=by omega
       have c8:k<N.l.length:=by omega
       obtain⟨u,aO⟩:∃q,q=B.l[k]:=⟨_,rfl⟩;obtain⟨v,aQ⟩:∃q,q=N.l[k]:=⟨_,rfl⟩;refine G.skip (c1 (G.t2 (fun c9 c_=>G.aB (fun da _ dc=>G.t1 (fun br=>?_)))));refine hf ?_;refine o.v1 (Y.ai n.N rfl ca rfl fW) ?_;refine o.v1 (ar (n.N.drop 2) hx) ?_;refine o.V ?_;refine o.bR (Y.bL c7 (i2) rfl fG fp rfl rfl) fun dN am=>?_;refine o.v1 (Y.ai am.N rfl fZ rfl gS) ?_;refine o.v1 (Y.cast (v2:=B.v.v) (ar (am.N.drop 1) h_) (by rw[T])) ?_;refine o.V ?_;refine o.bR (Y.bL (E B aH) (k) rfl hR j7 rfl rfl) fun dO b3=>?_;refine o.v1 (Y.cast (v2:= .agg (dt u).toArray) (aT b3.N pM j7 (kN _)) (by rw[aO])) ?_;refine o.v1 (Y.ai aS.N rfl ca rfl fW) ?_;refine o.v1 (ar (aS.N.drop 2) hx) ?_;refine o.V ?_;refine o.bR (Y.bL A (i2) rfl fG fp rfl rfl) fun dP bt=>?_;refine o.v1 (Y.ai bt.N rfl fZ rfl gS) ?_;refine o.v1 (Y.cast (v2:=N.v.v) (ar (bt.N.drop 1) h_) (by rw[Z])) ?_;refine o.V ?_;refine o.bR (Y.bL (bM N aX) (k) rfl hR j7 rfl rfl) fun dQ b4=>?_;refine o.v1 (Y.cast (v2:= .agg (dt v).toArray) (aT b4.N pM j7 (kN _)) (by rw[aQ])) ?_;refine o.v1 (Y.jM rfl Tryz.eqGuardType64 (fun w=>wg u v w) rfl rfl) (o.nil (br ?_));refine aU (fun aN=>?_) (fun aN=>?_)
       ·
        refine G.L (fun de=>?_);refine o.ak ?_;refine de ?_;refine G.ret (dc (c_ (bp (bY (bj (bh (aM (bg (bc (aa ?_))))))))));exact⟨by rw[decide_eq_false (fun h=>by have P:=xg h.2.2.2.1 aR aW;rw[←T,←Z]at P;exact aN (by rw[aO,aQ];simp only[P.2]))],t⟩
       ·
        refine G.skip (da (c9 (G.region ?_)));refine o.V ?_;refine o.v1 bD ?_;refine o.ak ?_;refine aP.sub (c0 (k+1) _ ?_ ?_) ⟨rfl,rfl,(aD (by omega)),(aD (by omega)),trivial⟩
        ·exact⟨(by omega),kr bV c4 c8 (by rw[←aO,←aQ];exact Decidable.not_not.1 aN),R⟩
        ·first|omega|(simp only;omega)|(simp;omega)
      ·
       have dA:B.l=N.l:=by rwa[List.take_of_length_le (by omega),List.take_of_length_le (by omega)]at bV
       refine G.exit (bi (bp (be ?_)));refine a9 (b1 (G.region ?_));refine o.V ?_;refine o.v1 bD ?_;refine o.ak ?_;refine aP.sub (a4 (i2+1) _ ?_ ?_) ⟨rfl,rfl,(aD (by omega)),trivial⟩
       ·exact⟨(by omega),kr bU (by simp only[cp,List.length_map];omega) (by simp only[cp,List.length_map];omega) (by simp only[cp,List.getElem_map,←T,←Z,dE,dA]),K⟩
       ·first|omega|(simp only;omega)|(simp;omega)
    ·
     have dx:cp a.bW=cp b.bW:=by have dG:(cp a.bW).length=a.bW.length:=List.length_map _;have dH:(cp b.bW).length=b.bW.length:=List.length_map _;rwa[List.take_of_length_le (by omega),List.take_of_length_le (by omega)]at bU
     refine G.exit (bZ (aM (a3 ?_)));refine b2 (G.t2 (fun df dg=>G.L (fun bv=>?_)));refine o.ak ?_;refine bv (G.aB (fun _ dh di=>?_))
     refine G.bg (fun(i4:(Nat))=>[(2,.pointer (some ⟨I.size,0,none⟩)),(3,.pointer (some ⟨Q.size,0,none⟩)),(8,.int .i64 (i4:Int))])
      (fun(i4:(Nat)) (H:Heap)=>(i4≤a.el.length)∧((cn a.el).take i4=(cn b.el).take i4)∧aj bG H)
      (fun(i4:(Nat))=>a.el.length-i4) 0 ⟨rfl,rfl,rfl,trivial⟩ ?_ ?_
     ·
      exact⟨(by omega),rfl,W.refl _ _⟩
     intro i4 ea dy eb dj bs;obtain⟨eA,bX,S⟩:=dy;replace x:=x.M S;replace M:=fun y j=>(M y j).M S;replace C:=C.M S;replace bf:=fun y j=>(bf y j).M S;replace n:=n.M S;replace aS:=aS.M S;replace t:=t.L S;have ed:=S.size;refine G.t2 (fun cA cC=>G.L (fun cD=>?_));refine o.V ?_;refine o.v1 (Y.ai n.N rfl ca rfl dv) ?_;refine o.v1 (ar n.N.hQ dV) ?_;refine o.v1 (bb x cu) ?_;refine o.v1 bJ (o.nil (cD ?_));refine aU (fun cG=>?_) (fun cG=>?_)
     ·
      have bK:i4<a.el.length:=by omega
      have bQ:i4<b.el.length:=by omega
      obtain⟨V,az⟩:∃q,q=a.el[i4]:=⟨_,rfl⟩;obtain⟨X,aA⟩:∃q,q=b.el[i4]:=⟨_,rfl⟩;have dC:V∈a.el:=by rw[az];exact List.getElem_mem bK
      have dD:X∈b.el:=by rw[aA];exact List.getElem_mem bQ
      have eR:=V.k.2;have eS:=X.k.2;refine G.skip (cA (G.t2 (fun cH cI=>G.aB (fun cJ _ cK=>G.t1 (fun cL=>?_)))));refine hf ?_;refine o.v1 (Y.ai n.N rfl ca rfl dv) ?_;refine o.v1 (ar n.N.hQ dV) ?_;refine o.V ?_;refine o.bR (Y.bL x (i4) rfl cu ck rfl rfl) fun dR ap=>?_;refine o.v1 (Y.ai ap.N rfl eX rfl a_) ?_;refine o.v1 (Y.cast (v2:=bq V.k) (aT ((ap.N.drop 0).take 32) b_ a_ (by rw[eN];exact bB _)) ((by rw[az];exact b6 (eN _)))) ?_;refine o.v1 (Y.ai aS.N rfl ca rfl dv) ?_;refine o.v1 (ar aS.N.hQ dV) ?_;refine o.V ?_;refine o.bR (Y.bL C (i4) rfl cu ck rfl rfl) fun dT bu=>?_;refine o.v1 (Y.ai bu.N rfl eX rfl a_) ?_;refine o.v1 (Y.cast (v2:=bq X.k) (aT ((bu.N.drop 0).take 32) b_ a_ (by rw[eN];exact bB _)) ((by rw[aA];exact b6 (eN _)))) ?_;refine o.v1 (Y.cast (v2:= .bool (decide (V.k≠X.k))) (Y.jM rfl Tryz.eqGuardType26 (fun w=>fV 9998 Tryz.underlying26 Tryz.underlying5 cN dS (by assumption) (by assumption) w) rfl rfl) ((congrArg Value.bool (decide_eq_decide.2 ⟨fun h e=>h (congrArg Subtype.val e),fun h e=>h (Subtype.ext e)⟩)))) ?_;refine o.V ?_;refine o.join (d:=170) (v:= .bool (decide (V.k≠X.k∨V.d≠X.d))) 16 (fun a6=>?_) ?_
      ·
       refine o.bj (d:=154) rfl (fun ai=>?_) (fun ai=>?_)
       ·
        refine o.ax 16 ?_;exact a6 _ (congrArg (fun b=>some (Value.bool b)) (by simp[ai])) (ae (ae (ae (ae (ae (ae (ae (ae (ae (ae (ae (ae (ae (ae (ae (ae (bC (congrArg Value.bool (decide_eq_true ai).symm))))))))))))))))))
       ·
        refine o.ao (Y.ai n.N rfl ca rfl dv) ?_;refine o.ao (ar n.N.hQ dV) ?_;refine o.bU ?_;refine o.e (g:=fun ad=> .pointer (some ad)) (Y.bL x (i4) rfl cu ck rfl rfl) bd rfl rfl (fun dW bw=>?_);refine o.ao (Y.ai bw.N rfl eX rfl db) ?_;refine o.ao (Y.cast (v2:=V.v.v) (ar (bw.N.ji) eD) (by rw[az])) ?_;refine o.ao (Y.nt (M V dC) rfl Tryz.underlying57 Tryz.underlying9 Tryz.underlying5 rfl) ?_;refine o.ao (Y.ai aS.N rfl ca rfl dv) ?_;refine o.ao (ar aS.N.hQ dV) ?_;refine o.bU ?_;refine o.e (g:=fun ad=> .pointer (some ad)) (Y.bL C (i4) rfl cu ck rfl rfl) bd rfl rfl (fun dX bz=>?_);refine o.ao (Y.ai bz.N rfl eX rfl db) ?_;refine o.ao (Y.cast (v2:=X.v.v) (ar (bz.N.ji) eD) (by rw[aA])) ?_;refine o.ao (Y.nt (bf X dD) rfl Tryz.underlying57 Tryz.underlying9 Tryz.underlying5 rfl) ?_;refine o.ao (Y.iT rfl rfl rfl) ?_;refine o.dF ?_;exact a6 _ (congrArg (fun b=>some (Value.bool b)) (by simp[ai])) (ae (ae (ae (ae (ae (ae (ae (ae (ae (ae (ae (ae (ae (ae (ae (ae (bC (congrArg Value.bool (decide_eq_false ai).symm))))))))))))))))))
      refine o.nil (cL ?_);refine aU (fun ak=>?_) (fun ak=>?_)
      ·
       refine G.L (fun cM=>?_);refine o.ak ?_;refine cM ?_;refine G.ret (cK (cI (bs (di (dg (aa ?_))))));exact⟨by rw[decide_eq_false (fun h=>by have P:=CY h.2.2.2.2 bK bQ;rw[←az,←aA]at P;rcases ak with q|q;exact q P.1;exact q P.2)],t⟩
      ·
       refine G.skip (cJ (cH (G.region ?_)));refine o.V ?_;refine o.v1 bD ?_;refine o.ak ?_;refine aP.sub (dj (i4+1) _ ?_ ?_) ⟨rfl,rfl,(aD (by omega)),trivial⟩
       ·exact⟨(by omega),kr bX (by simp only[cn,List.length_map];omega) (by simp only[cn,List.length_map];omega) (by simp only[not_or,Decidable.not_not]at ak;simp only[cn,List.getElem_map,←az,←aA,ak.1,ak.2]),S⟩
       ·first|omega|(simp only;omega)|(simp;omega)
     ·
      refine G.exit (cC (bs (dh ?_)));refine df (G.L (fun cO=>?_));refine o.ak ?_;refine cO ?_;refine G.ret (aa ?_);exact⟨by have dz:cn a.el=cn b.el:=(by have dG:(cn a.el).length=a.el.length:=List.length_map _;have dH:(cn b.el).length=b.el.length:=List.length_map _;rwa[List.take_of_length_le (by omega),List.take_of_length_le (by omega)]at bX);rw[decide_eq_true (show kf a b from⟨s1,Decidable.not_not.1 aK,dF,dx,dz⟩)],t⟩
end pE

namespace ke
open E Go.RowKit eM eP e1 e7 ev eQ eR fC fD fI fS ga gz gq hG lK mq ng dz
set_option maxRecDepth 100000 in
theorem iJ:c4 Tryz.prog 30 68 33 56:=⟨Tryz.underlying30,_,_,rfl,rfl,rfl,rfl,rfl⟩
set_option maxRecDepth 100000 in
theorem dC:c4 Tryz.prog 57 5 1 1:=⟨Tryz.underlying57,_,_,rfl,rfl,rfl,rfl,rfl⟩
theorem uU:∀(k:Nat) (a b:List UInt8),a.take k=b.take k→k<a.length→k<b.length→a.getD k 0≠b.getD k 0→Op.bytesLess a b=decide ((a.getD k 0).toNat<(b.getD k 0).toNat)
 |0,x::a,y::b,_,_,_,h=>by
  have h:x≠y:=by simpa using h
  have U:(x==y)=false:=by simpa using h
  simp[Op.bytesLess,U,UInt8.lt_iff_toNat_lt]
 |k+1,x::a,y::b,d,i,U,h=>by
  simp only[List.take_succ_cons,List.cons.injEq]at d;obtain⟨rfl,d⟩:=d;have:=uU k a b d (by simpa using i) (by simpa using U) (by simpa using h)
  simp[Op.bytesLess,this]
 |_,[],_,_,i,_,_=>by simp at i
 |_,_,[],_,_,U,_=>by simp at U
theorem sx{l:List UInt8}{j:Nat}(h:j<l.length):l[j]=l.getD j 0:=by simp[h]
theorem oJ(i:cY)(k:Nat)(h:k<32):(b7 i)[k]?=some (.int .u8 (i.1.getD k 0).toNat):=by
 have U:k<i.1.length:=by rw[i.2];exact h
 simp[b7,List.getD_eq_getElem?_getD,List.getElem?_eq_getElem U]
theorem uT(a:List UInt8):Op.bytesLess a a=false:=by
 cases h:Op.bytesLess a a with
 |false=>rfl
 |true=>exact absurd h (mG a)
theorem Gh{l:List bA}{x:bA}{p:Nat}(i:∀j (h:j<l.length),j<p→blt l[j].k.1 x.k.1)(t:p≤l.length)(n:∀h:p<l.length,¬blt l[p].k.1 x.k.1∧¬l[p].k=x.k):cn (l.take p++[x]++l.drop p)=d_ (cn l) x.k.1 x.d:=by
 rw[sy (k:=p) (by simpa[cn]using t) (fun j h r=>by have:=i j (by simpa[cn]using h) r;simpa[cn]using this) (fun h=>by
  have o:p<l.length:=by simpa[cn]using h
  have d:=n o;simp only[cn,List.getElem_map];exact Classical.byContradiction (fun q=>d.2 (Subtype.ext (lT d.1 q))))]
 simp[cn,List.map_take,List.map_drop]
theorem DU{F aR:Nat→Prop}{H:Heap}{l:List bA}{x:bA}(p:Nat)(h:∀y∈l,Rd F H a1 1 y.v.v y.d)(d:∀b,F b→aR b)(i:Rd aR H a1 1 x.v.v x.d):∀y∈l.take p++[x]++l.drop p,Rd aR H a1 1 y.v.v y.d:=by
 intro y hy;rcases List.mem_append.1 hy with hy|hy
 ·rcases List.mem_append.1 hy with hy|hy
  ·exact(h y (List.mem_of_mem_take hy)).imp (fun b _ e=>d b e)
  ·rw[List.mem_singleton.1 hy];exact i
 ·exact(h y (List.mem_of_mem_drop hy)).imp (fun b _ e=>d b e)
theorem rV{l:List bA}{k:aH}{j:Nat}(h:∀q (h:q<l.length),q<j→blt l[q].k.1 k)(o:j<l.length)(d:blt l[j].k.1 k):∀q (h:q<l.length),q<j+1→blt l[q].k.1 k:=fun q n U=>by
 rcases Nat.lt_succ_iff_lt_or_eq.1 U with i|rfl
 ·exact h q n i
 ·exact d
theorem Gx(a b:cY)(w0:World)(I:Heap)
 :
 aC Tryz.prog w0 117 #[bq a,bq b] I (fun r n=>r= .bool (Op.bytesLess a.1 b.1)∧aj I n):=by
 refine aC.aK [bq a,bq b] Tryz.func117 ?_;intro af F;have i:aj I I:=W.refl _ _;have az:=a.2;have aw:=b.2;refine G.L (fun P=>?_);refine o.aO cq ?_;rintro v2 n ⟨rfl,d,B,ag,Q⟩;have ay:n.size=I.size+1:=by rw[Q];simp
 replace i:=i.L B;have ah:=B.size;replace d:Var 26 n I.size (b7 a):=d;refine o.aO cq ?_;rintro v3 x ⟨rfl,j,A,ai,au⟩;have am:x.size=n.size+1:=by rw[au];simp
 replace d:=d.M A;replace i:=i.L A;have ak:=A.size;replace j:Var 26 x n.size (b7 b):=j;refine o.ak ?_;refine P (G.t2 (fun R ap=>G.L (fun S=>?_)));refine o.ak ?_;refine S (G.aB (fun _ T V=>?_))
 refine G.bg (fun(k:(Nat))=>[(2,.pointer (some ⟨I.size,0,none⟩)),(3,.pointer (some ⟨n.size,0,none⟩)),(5,.int .i64 (k:Int))])
  (fun(k:(Nat)) (H:Heap)=>(k≤32)∧(a.1.take k=b.1.take k)∧aj x H)
  (fun(k:(Nat))=>32-k) 0 ⟨rfl,rfl,rfl,trivial⟩ ?_ ?_
 ·
  exact⟨(by omega),by simp,W.refl _ _⟩
 intro k al X ae Y C;obtain⟨aA,t,q⟩:=X;replace d:=d.M q;replace j:=j.M q;replace i:=i.L q;have aq:=q.size;refine G.t2 (fun Z aa=>G.L (fun ab=>?_));refine o.V ?_;refine o.v1 bJ (o.nil (ab ?_));refine aU (fun cy=>?_) (fun cy=>?_)
 ·
  refine G.skip (Z (G.t2 (fun K L=>G.aB (fun M _ N=>G.t1 (fun ac=>?_)))));refine hf ?_;refine o.V ?_;refine o.v1 (eZ d.N (k) k9 cN) ?_;refine o.v1 (ar (d.N.at (k) (oJ a k (by omega))) dS) ?_;refine o.V ?_;refine o.v1 (eZ j.N (k) k9 cN) ?_;refine o.v1 (ar (j.N.at (k) (oJ b k (by omega))) dS) ?_;refine o.v1 cU (o.nil (ac ?_));refine aU (fun E=>?_) (fun E=>?_)
  ·
   refine G.t1 (fun ad=>?_);refine hf ?_;refine o.V ?_;refine o.v1 (eZ d.N (k) k9 cN) ?_;refine o.v1 (ar (d.N.at (k) (oJ a k (by omega))) dS) ?_;refine o.V ?_;refine o.v1 (eZ j.N (k) k9 cN) ?_;refine o.v1 (ar (j.N.at (k) (oJ b k (by omega))) dS) ?_;refine o.v1 bJ ?_;refine o.ak ?_;refine ad ?_;refine G.ret (N (L (C (V (ap (F ?_))))));exact⟨by rw[uU k a.1 b.1 t (by omega) (by omega) (fun e=>E (by rw[e]))];exact congrArg Value.bool (decide_eq_decide.2 (by omega)),i⟩
  ·
   refine G.skip (M (K (G.region ?_)));refine o.V ?_;refine o.v1 bD ?_;refine o.ak ?_;refine aP.sub (Y (k+1) _ ?_ ?_) ⟨rfl,rfl,(aD (by omega)),trivial⟩
   ·exact⟨(by omega),by rw[List.take_succ_eq_append_getElem (by omega),List.take_succ_eq_append_getElem (by omega),t,sx,sx,UInt8.toNat_inj.1 (show(a.1.getD k 0).toNat=(b.1.getD k 0).toNat by omega)],q⟩
   ·first|omega|(simp only;omega)|(simp;omega)
 ·
  refine G.exit (aa (C (T ?_)));refine R (G.L (fun O=>?_));refine o.ak ?_;refine O ?_;refine G.ret (F ?_);obtain rfl:k=32:=by omega
  rw[List.take_of_length_le (by omega),List.take_of_length_le (by omega)]at t;exact⟨by rw[t,uT],i⟩
set_option maxHeartbeats 1600000 in
theorem yx(v1 v2:Value)(l m:List bA)(F:Nat→Prop)(w0:World)(I:Heap)
 (b3:Rd F I bO 33 v1 l) (fg:bh F I.size) (al:bx I bO 33 v2 m) (bG:∀x∈l,Rd F I a1 1 x.v.v x.d) (bZ:bh F I.size) (hy:∀x∈m,bx I a1 1 x.v.v x.d) (fX:l.length≤1000) (fY:m.length≤100000) (eZ:∀x∈m,x.d.length≤140737488355328) (e1:∀x∈m,¬x.k=bz):
 aC Tryz.prog w0 43 #[v1,v2] I (fun r bj=>∃s2:aN,∃b9:List bA,∃bg:Nat→Prop,r=s2.v∧(∀u:Unit,Rd bg bj bO 33 s2.v b9)∧(bh bg bj.size)∧(∀x∈b9,Rd bg bj a1 1 x.v.v x.d)∧(bh bg bj.size)∧(∀b,bg b→F b∨I.size≤b)∧(cn b9=gB (cn l) m)∧aj I bj):=by
 refine aC.aK [v1,v2] Tryz.func43 ?_;intro e9 e2;have M:aj I I:=W.refl _ _;replace al:=al.bw;have cg:=al.bY;replace hy:=fun x aa=>(hy x aa).bw;have cj:bh (fun b=>True∧b<I.size) I.size:=fun b h=>h.2;refine G.L (fun ef=>?_);refine o.ak ?_;refine ef (G.L (fun eg=>?_));refine o.aO (cT _ (([]:List bA)) iJ c0 gX (rfl)) fun fM co eh=>?_;obtain⟨A,aQ,fq,dL⟩:=eh;have fw:co.size=I.size+1:=by rw[dL];simp
 have c3:=(ay.new (cg.mono M.size):ay _ (I.size+1));have c4:=(ay.new (bZ.mono M.size):ay _ (I.size+1));have cs:=(ay.new (cj.mono M.size):ay _ (I.size+1));have c8:T 0 I.size (I.size+1):=T.new M.size;replace b3:=b3.M aQ;replace al:=al.M aQ;replace bG:=fun x b8=>(bG x b8).M aQ;replace hy:=fun x aa=>(hy x aa).M aQ;replace M:=M.L aQ;have fJ:=aQ.size;refine o.V ?_;refine o.aO (dQ A b3 iJ (by simp;omega) (by simp;omega)) fun bm bt ei=>?_;obtain⟨bT,A,aS,aO⟩:=ei;replace aS:T (I.size+1) co.size bT:=aS;replace aO:=aO.md;have ej:=ay.app (c3) (cg.mono M.size) aS;have ek:=ay.app (c4) (bZ.mono M.size) aS;have en:=ay.app (cs) (cj.mono M.size) aS;have be:T 0 I.size bT:=T.L (c8) aS M.size;replace al:=al.ab aO (az.J c3);replace bG:=fun x b8=>(bG x b8).ab aO (az.J c4);replace hy:=fun x aa=>(hy x aa).ab aO (az.J cs);replace M:=M.bo aO (ag.J (aq.q c8));have ds:=aO.size;have dk:=A.le;rw[List.nil_append]at A;obtain⟨eo,rfl⟩:∃s:aN,bm=s.v:=⟨cl bm,A.bl.symm⟩;refine o.ak ?_;refine eg (G.t1 (fun ep=>G.L (fun er=>?_)));refine o.ak ?_;refine er (G.aB (fun _ eu _=>?_))
 refine G.bg (fun(ca:(Nat)×(aN)×(Nat)×(List bA)×(Nat→Prop))=>match ca with|(i,so,aH,t,aR)=>[(1,v2),(5,so.v),(6,.int .i64 (i:Int))])
  (fun(i,so,aH,t,aR) (H:Heap)=>(i≤m.length)∧(aV aH 68 H bO 33 so.v t)∧(∀x∈t,Rd aR H a1 1 x.v.v x.d)∧(bh aR H.size)∧(ay aR aH)∧(∀b,aR b→F b∨I.size≤b)∧(cn t=gB (cn l) (m.take i))∧(T bT bt.size aH)∧W (aE [bT]) bt H)
  (fun(i,so,aH,t,aR)=>m.length-i) (0,eo,bT,l,F) ⟨rfl,rfl,rfl,trivial⟩ ?_ ?_
 ·
  exact⟨(by omega),A,bG,(bZ.mono M.size),(ek),(fun b e=>Or.inl e),rfl,T.refl _ _,W.refl _ _⟩
 rintro⟨i,so,aH,t,aR⟩ n ev e8 dr ew;obtain⟨fW,A,Q,bn,df,b1,bF,cd,K⟩:=ev;have dN:T 0 I.size aH:=T.L (be) cd M.size;replace al:=al.ab K (az.J ej);replace hy:=fun x aa=>(hy x aa).ab K (az.J en);replace M:=M.bo K (ag.J (aq.q be));have fN:=K.size;have dk:=A.le;have cJ:=cd;refine G.t2 (fun ey ez=>G.L (fun eA=>?_));refine o.ax 2 ?_;refine o.v1 (bb al cu) ?_;refine o.v1 bJ (o.nil (eA ?_));refine aU (fun eB=>?_) (fun eB=>?_)
 ·
  refine G.skip (ey (G.t1 (fun c_=>G.aB (fun dO dP _=>G.t1 (fun dR=>G.L (fun dT=>?_))))));refine o.ax 2 ?_;have bE:i<m.length:=by omega
  obtain⟨y,a7⟩:∃q,q=m[i]:=⟨_,rfl⟩;have bI:y∈m:=by rw[a7];exact List.getElem_mem bE
  have fU:=eZ y bI;have e3:=e1 y bI
  have fZ:t.length≤l.length+i:=by
   have dg:=rL (m.take i) (cn l);rw[←bF]at dg;simp only[cn,List.length_map,List.length_take]at dg;omega
  refine o.bR (Y.bL al (i) rfl cu ck rfl rfl) fun fr cL=>?_;refine o.v1 (Y.ai cL.N rfl eX rfl a_) ?_;refine o.v1 (Y.cast (v2:=bq y.k) (aT ((cL.N.drop 0).take 32) b_ a_ (by rw[eN];exact bB _)) ((by rw[a7];exact b6 (eN _)))) ?_;refine o.v1 (Y.build (v:=bq bz) rfl rfl (by intro w;kernel_rfl)) ?_;refine o.v1 (Y.ia rfl Tryz.eqGuardType26 (fun w=>fV 9998 Tryz.underlying26 Tryz.underlying5 cN dS (y.k.2) (bz.2) w) rfl rfl) (o.nil (dT ?_));refine aU (fun da=>?_) (fun da=>?_)
  ·
   exact absurd (Subtype.ext da) e3
  ·
   refine G.skip (dR ?_)
   refine G.cut (fun(ca:(Nat)×(aN)×(Nat))=>match ca with|(aK,ab,aF)=>[(1,v2),(5,so.v),(6,.int .i64 (i:Int)),(7,.pointer (some ⟨aK,0,none⟩))])
    (fun(aK,ab,aF) (H:Heap)=>(Var 68 H aK (bO (⟨y.k,ab,y.d⟩:bA)))∧(aV aF 5 H a1 1 ab.v y.d)∧(T 0 n.size ((aK+1)))∧(T 0 n.size aF)∧(af ((aK+1)) aF)∧aj n H) (fun _ bS _=>?_) ?_
   ·
    have B:aj n n:=W.refl _ _;refine dx (fun ai=>aj n ai) [14] ?_;have ac:aj n n:=W.refl _ _;refine O.V 0 rfl ac ?_;refine O.V 1 rfl ac ?_;refine O.e (g:=fun ad=> .pointer (some ad)) 2 (by kernel_rfl) rfl (by kernel_rfl) (by kernel_rfl) (by kernel_rfl) (Y.bL al (i) rfl cu ck rfl rfl) cQ rfl rfl ac (fun ft bi=>?_);refine O.t1 3 rfl (fun ai ak=>Y.ai (bi.N.M ak) rfl eX rfl a_) ac ?_;refine O.t1 4 rfl (fun ai ak=>Y.cast (v2:=bq y.k) (aT (((bi.N.drop 0).M ak).take 32) b_ a_ (by rw[eN];exact bB _)) ((by rw[a7];exact b6 (eN _)))) ac ?_;refine O.V 6 rfl ac ?_;refine O.V 7 rfl ac ?_;refine O.e (g:=fun ad=> .pointer (some ad)) 8 (by kernel_rfl) rfl (by kernel_rfl) (by kernel_rfl) (by kernel_rfl) (Y.bL al (i) rfl cu ck rfl rfl) cQ rfl rfl ac (fun fu cM=>?_);refine O.t1 9 rfl (fun ai ak=>Y.ai (cM.N.M ak) rfl eX rfl db) ac ?_;refine O.t1 10 rfl (fun ai ak=>Y.cast (v2:=y.v.v) (ar ((cM.N.ji).M ak) eD) (by rw[a7])) ac ?_;refine O.two (i:=5) (j:=13) (by kernel_rfl) ?_ ?_
    ·
     refine et rfl (cT _ (([]:List UInt8)) dC eE fK (rfl)) (fun ed C bY=>?_);obtain⟨k,ap,dV,bU⟩:=bY;have aB:C.size=n.size+1:=by rw[bU];simp
     have bL:T 0 n.size (n.size+1):=T.new B.size;have dX:T 0 n.size (n.size+1):=T.new ac.size;replace hy:=fun x aa=>(hy x aa).M ap;replace B:=B.L ap;replace ac:=ac.L ap;have fO:=ap.size;refine⟨.inr ac,O.narrow (SH2:=fun ai=>W (aE [(n.size+1)]) C ai) (fun ai ak=>(W.aJ (ks:=[]) (ac.kU []) ak (ag.J (aq.q dX))).nil) ?_⟩;have ac:W (aE [(n.size+1)]) C C:=W.refl _ _;have a9:=T.refl (n.size+1) C.size;refine O.two (i:=11) (j:=13) (by kernel_rfl) ?_ ?_
     ·
      refine et rfl (Z.pP k (hy y bI).any rfl dC rfl rfl (by simp;omega) (by simp;omega)) (fun aI X bu=>?_);obtain⟨am,k,R,L⟩:=bu;replace R:T (n.size+1) C.size am:=R;replace L:=L.md;have dY:T 0 n.size am:=T.L (bL) R B.size;have dp:T (n.size+1) C.size am:=T.L (a9) R ac.size;replace B:=B.bo L (ag.J (aq.q bL));replace ac:=ac.aJ L (ag.J (aq.r a9));have fP:=L.size;have bX:=k.le;obtain⟨P,rfl⟩:∃s:aN,aI=s.v:=⟨cl aI,k.bl.symm⟩;rw[List.nil_append]at k;refine O.b3 ac (ag.J (aq.r dp)) ?_;have ac:W (aE [am]) X X:=W.refl _ _;have dq:=T.refl am X.size;refine O.t1 (v:= .agg (bO (⟨y.k,P,y.d⟩:bA)).toArray) 12 rfl (fun ai ak=>?_) ac ?_
      ·exact Y.build (v:= .agg (bO (⟨y.k,P,y.d⟩:bA)).toArray) rfl rfl (by intro w;exact oC _ _ _)
      refine O.aX 13 ?_;refine et rfl (cV kD) ?_;rintro dj E ⟨rfl,an,V,dc,bw⟩;have cO:E.size=X.size+1:=by rw[bw];simp
      have cP:af am (X.size+1):=af.new k.le;have cR:T 0 n.size (X.size+1):=T.new B.size;have dt:T 0 X.size (X.size+1):=T.new ac.size;replace k:=k.M V;replace B:=B.L V;replace ac:=ac.bc V;have fQ:=V.size;refine O.b3 ac (ag.cons (aq.r dq) (ag.J (aq.q dt))) ?_;refine O.aX 14 ?_;refine gL rfl (dM an (_) (bO (⟨y.k,P,y.d⟩:bA)) (gX (⟨y.k,P,y.d⟩:bA)) ck (c0 _) ((c9 (c0 _).symm))) (fun cm bo=>?_);obtain⟨an,N⟩:=bo;replace N:=N.bs;replace k:=k.ab N (ah.J cP);replace B:=B.bo N (ag.J (aq.q cR));have fR:=N.size;refine⟨.inl rfl,?_⟩;refine cx ?_;refine aP.sub (bS (X.size,P,am) _ ?_) ⟨rfl,rfl,(aD (by omega)),rfl,trivial⟩;exact⟨an,k,cR,dY,cP.symm,B⟩
     ·
      refine et rfl (cV kD) ?_;rintro dj E ⟨rfl,an,V,dc,bw⟩;have cO:E.size=C.size+1:=by rw[bw];simp
      have br:af (n.size+1) (C.size+1):=af.new k.le;have cS:T 0 n.size (C.size+1):=T.new B.size;have du:T 0 C.size (C.size+1):=T.new ac.size;replace hy:=fun x aa=>(hy x aa).M V;replace k:=k.M V;replace B:=B.L V;replace ac:=ac.bc V;have de:=V.size;refine O.b3 ac (ag.cons (aq.r a9) (ag.J (aq.q du))) ?_;have ac:W (aE [(n.size+1),(C.size+1)]) E E:=W.refl _ _;have cU:=T.refl (n.size+1) E.size;have dv:=T.refl (C.size+1) E.size;refine O.aX 11 ?_;refine et rfl (Z.pP k (hy y bI).any rfl dC rfl rfl (by simp;omega) (by simp;omega)) (fun aI X bu=>?_);obtain⟨am,k,R,L⟩:=bu;replace R:T (n.size+1) E.size am:=R;replace L:=L.md;have cW:af (C.size+1) am:=af.app (br.symm) an.lt R;have dy:T 0 n.size am:=T.L (bL) R B.size;have dz:T (n.size+1) E.size am:=T.L (cU) R ac.size;replace an:=an.ab L (ah.J br.symm);replace B:=B.bo L (ag.J (aq.q bL));replace ac:=ac.aJ L (ag.J (aq.r cU));have cX:=L.size;have bX:=k.le;obtain⟨P,rfl⟩:∃s:aN,aI=s.v:=⟨cl aI,k.bl.symm⟩;rw[List.nil_append]at k;refine O.b3 ac (ag.cons (aq.r dz) (ag.J (aq.r dv))) ?_;have ac:W (aE [am,(C.size+1)]) X X:=W.refl _ _;refine O.t1 (v:= .agg (bO (⟨y.k,P,y.d⟩:bA)).toArray) 12 rfl (fun ai ak=>?_) ac ?_
      ·exact Y.build (v:= .agg (bO (⟨y.k,P,y.d⟩:bA)).toArray) rfl rfl (by intro w;exact oC _ _ _)
      refine O.aX 14 ?_;refine gL rfl (dM an (_) (bO (⟨y.k,P,y.d⟩:bA)) (gX (⟨y.k,P,y.d⟩:bA)) ck (c0 _) ((c9 (c0 _).symm))) (fun cm bo=>?_);obtain⟨an,N⟩:=bo;replace N:=N.bs;replace k:=k.ab N (ah.J cW.symm);replace B:=B.bo N (ag.J (aq.q cS));have fh:=N.size;refine⟨.inl rfl,?_⟩;refine cx ?_;refine aP.sub (bS (C.size,P,am) _ ?_) ⟨rfl,rfl,(aD (by omega)),rfl,trivial⟩;exact⟨an,k,cS,dy,cW,B⟩
    ·
     refine et rfl (cV kD) ?_;rintro dj E ⟨rfl,an,V,dc,bw⟩;have cO:E.size=n.size+1:=by rw[bw];simp
     have bv:T 0 n.size (n.size+1):=T.new B.size;have dA:T 0 n.size (n.size+1):=T.new ac.size;replace hy:=fun x aa=>(hy x aa).M V;replace B:=B.L V;replace ac:=ac.L V;have fi:=V.size;refine⟨.inr ac,O.narrow (SH2:=fun ai=>W (aE [(n.size+1)]) E ai) (fun ai ak=>(W.aJ (ks:=[]) (ac.kU []) ak (ag.J (aq.q dA))).nil) ?_⟩;have ac:W (aE [(n.size+1)]) E E:=W.refl _ _;have ea:=T.refl (n.size+1) E.size;refine O.aX 5 ?_;refine et rfl (cT _ (([]:List UInt8)) dC eE fK (rfl)) (fun ed C bY=>?_);obtain⟨k,ap,dV,bU⟩:=bY;have aB:C.size=E.size+1:=by rw[bU];simp
     have cq:af (n.size+1) (E.size+1):=af.new an.lt;have cr:T 0 n.size (E.size+1):=T.new B.size;have eb:T 0 E.size (E.size+1):=T.new ac.size;replace hy:=fun x aa=>(hy x aa).M ap;replace an:=an.M ap;replace B:=B.L ap;replace ac:=ac.bc ap;have dE:=ap.size;refine O.b3 ac (ag.cons (aq.r ea) (ag.J (aq.q eb))) ?_;have ac:W (aE [(n.size+1),(E.size+1)]) C C:=W.refl _ _;have ec:=T.refl (n.size+1) C.size;have ct:=T.refl (E.size+1) C.size;refine O.aX 11 ?_;refine et rfl (Z.pP k (hy y bI).any rfl dC rfl rfl (by simp;omega) (by simp;omega)) (fun aI X bu=>?_);obtain⟨am,k,R,L⟩:=bu;replace R:T (E.size+1) C.size am:=R;replace L:=L.md;have cv:af (n.size+1) am:=af.app (cq) an.lt R;have dD:T 0 n.size am:=T.L (cr) R B.size;have dF:T (E.size+1) C.size am:=T.L (ct) R ac.size;replace an:=an.ab L (ah.J cq);replace B:=B.bo L (ag.J (aq.q cr));replace ac:=ac.aJ L (ag.J (aq.r ct));have fj:=L.size;have bX:=k.le;obtain⟨P,rfl⟩:∃s:aN,aI=s.v:=⟨cl aI,k.bl.symm⟩;rw[List.nil_append]at k;refine O.b3 ac (ag.cons (aq.r ec) (ag.J (aq.r dF))) ?_;have ac:W (aE [(n.size+1),am]) X X:=W.refl _ _;refine O.t1 (v:= .agg (bO (⟨y.k,P,y.d⟩:bA)).toArray) 12 rfl (fun ai ak=>?_) ac ?_
     ·exact Y.build (v:= .agg (bO (⟨y.k,P,y.d⟩:bA)).toArray) rfl rfl (by intro w;exact oC _ _ _)
     refine O.aX 14 ?_;refine gL rfl (dM an (_) (bO (⟨y.k,P,y.d⟩:bA)) (gX (⟨y.k,P,y.d⟩:bA)) ck (c0 _) ((c9 (c0 _).symm))) (fun cm bo=>?_);obtain⟨an,N⟩:=bo;replace N:=N.bs;replace k:=k.ab N (ah.J cv.symm);replace B:=B.bo N (ag.J (aq.q bv));have fk:=N.size;refine⟨.inl rfl,?_⟩;refine cx ?_;refine aP.sub (bS (n.size,P,am) _ ?_) ⟨rfl,rfl,(aD (by omega)),rfl,trivial⟩;exact⟨an,k,bv,dD,cv,B⟩
   ·
    rintro⟨aK,ab,aF⟩ bP dm;obtain⟨an,k,fc,cc,ff,bN⟩:=dm;have cw:af aH aF:=af.app (af.z) A.le cc;have cz:T 0 I.size aF:=T.L (T.refl 0 _) cc M.size;replace A:=A.M bN;replace Q:=fun x aA=>(Q x aA).M bN;replace K:=K.bc bN;have fl:=bN.size;have fe:=an.le;have bX:=k.le;refine G.L (fun dZ=>?_);refine o.ak ?_;refine dZ ?_
    refine G.cut (fun(j:(Nat))=>[(1,v2),(5,so.v),(6,.int .i64 (i:Int)),(7,.pointer (some ⟨aK,0,none⟩)),(8,.int .i64 (j:Int))])
     (fun(j:(Nat)) (H:Heap)=>(j≤t.length)∧(∀q (h:q<t.length),q<j→blt t[q].k.1 y.k.1)∧(∀h:j<t.length,¬blt t[j].k.1 y.k.1)∧aj bP H) (fun _ cC _=>?_) ?_
    ·
     have a6:aj bP bP:=W.refl _ _;refine G.aB (fun _ cD _=>?_)
     refine G.bg (fun(j:(Nat))=>[(1,v2),(5,so.v),(6,.int .i64 (i:Int)),(7,.pointer (some ⟨aK,0,none⟩)),(8,.int .i64 (j:Int))])
      (fun(j:(Nat)) (H:Heap)=>(j≤t.length)∧(∀q (h:q<t.length),q<j→blt t[q].k.1 y.k.1)∧aj bP H)
      (fun(j:(Nat))=>t.length-j) 0 ⟨rfl,rfl,rfl,rfl,rfl,trivial⟩ ?_ ?_
     ·
      exact⟨(by omega),(fun q h U=>absurd U (Nat.not_lt_zero _)),W.refl _ _⟩
     intro j fS cy fT eF cG;obtain⟨di,bc,aL⟩:=cy;replace A:=A.M aL;replace an:=an.M aL;replace a6:=a6.L aL;have fm:=aL.size;refine G.t2 (fun eG cH=>G.t1 (fun cI=>?_));refine iW 12 (fun e_ dh=>?_);refine o.ax 2 ?_;refine o.v1 (bb A.rd cu) ?_;refine o.v1 bJ ?_;refine o.V ?_;refine o.bj (d:=43) rfl (fun ee=>?_) (fun ee=>?_)
     ·
      refine o.ax 2 ?_;have ba:j<t.length:=by omega
      obtain⟨z,a8⟩:∃q,q=t[j]:=⟨_,rfl⟩;refine o.ao (mj A (j) cu ck) ?_;refine o.ao (Y.fieldAddr (A.N (j:=j) (by first|omega|(simp;omega)|(simp;done))) rfl eX rfl rfl a_ (by decide) rfl) ?_;refine o.ao (Y.cast (v2:=bq z.k) (aT (((A.N (j:=j) (by first|omega|(simp;omega)|(simp;done))).drop 0).take 32) b_ a_ (by rw[eN];exact bB _)) ((by rw[a8];exact b6 (eN _)))) ?_;refine o.ao (Y.ai an.N rfl eX rfl a_) ?_;refine o.ao (Y.cast (v2:=bq y.k) (aT (an.N.take 32) b_ a_ (by rw[show(bO (⟨y.k,ab,y.d⟩:bA)).take 32=b7 y.k from eN _];exact bB _)) ((b6 (show(bO (⟨y.k,ab,y.d⟩:bA)).take 32=b7 y.k from eN _)))) ?_;refine o.nil (dh _ ?_);refine o.call rfl A3 rfl bd rfl rfl (Gx z.k y.k w0 _) (fun fx fy eC=>?_);obtain⟨rfl,bV⟩:=eC;replace a6:=a6.L bV;replace aL:=aL.L bV;have fH:=bV.size;refine o.N ?_;refine o.nil (cI ?_);refine cK (fun b0=>?_) (fun b0=>?_)
      ·
       refine G.skip (eG (G.aB (fun eH _ _=>G.region ?_)));refine o.V ?_;refine o.v1 bD ?_;refine o.ak ?_;refine eH ?_;refine aP.sub (eF (j+1) _ ?_ ?_) ⟨rfl,rfl,(aD (by omega)),rfl,(aD (by omega)),trivial⟩
       ·exact⟨(by omega),rV bc ba (by rw[←a8];exact b0),aL⟩
       ·first|omega|(simp only;omega)|(simp;omega)
      ·
       refine G.exit (cH (cG (cD ?_)));refine aP.sub (cC j _ ?_) ⟨rfl,rfl,(aD (by omega)),rfl,(aD (by omega)),trivial⟩;exact⟨(by omega),bc,(fun _=>by rw[←a8];unfold blt;simpa using b0),a6⟩
     ·
      refine o.ax 7 ?_;refine o.nil (dh _ ?_);refine o.ax 2 ?_;refine o.nil (cI ?_);refine dw ?_;refine G.exit (cH (cG (cD ?_)));refine aP.sub (cC j _ ?_) ⟨rfl,rfl,(aD (by omega)),rfl,(aD (by omega)),trivial⟩;exact⟨(by omega),bc,(fun h=>absurd h (by omega)),a6⟩
    ·
     intro j cA d_;obtain⟨di,bc,b5,aZ⟩:=d_;replace A:=A.M aZ;replace Q:=fun x aA=>(Q x aA).M aZ;replace an:=an.M aZ;replace k:=k.M aZ;replace K:=K.bc aZ;have bf:=aZ.size;refine G.t2 (fun ce eJ=>G.t1 (fun eK=>?_));refine hf ?_;refine o.ax 2 ?_;refine o.v1 (bb A.rd cu) ?_;refine o.v1 bJ ?_;refine o.V ?_;refine o.join (d:=68) (v:= .bool (decide ((t[j]?.map (·.k))=some y.k))) 9 (fun cb=>?_) ?_
     ·
      refine o.bj (d:=59) rfl (fun dU=>?_) (fun dU=>?_)
      ·
       refine o.ax 2 ?_;have ba:j<t.length:=by omega
       obtain⟨z,a8⟩:∃q,q=t[j]:=⟨_,rfl⟩;refine o.ao (mj A (j) cu ck) ?_;refine o.ao (Y.fieldAddr (A.N (j:=j) (by first|omega|(simp;omega)|(simp;done))) rfl eX rfl rfl a_ (by decide) rfl) ?_;refine o.ao (Y.cast (v2:=bq z.k) (aT (((A.N (j:=j) (by first|omega|(simp;omega)|(simp;done))).drop 0).take 32) b_ a_ (by rw[eN];exact bB _)) ((by rw[a8];exact b6 (eN _)))) ?_;refine o.ao (Y.ai an.N rfl eX rfl a_) ?_;refine o.ao (Y.cast (v2:=bq y.k) (aT (an.N.take 32) b_ a_ (by rw[show(bO (⟨y.k,ab,y.d⟩:bA)).take 32=b7 y.k from eN _];exact bB _)) ((b6 (show(bO (⟨y.k,ab,y.d⟩:bA)).take 32=b7 y.k from eN _)))) ?_;refine o.ao (Y.ia rfl Tryz.eqGuardType26 (fun w=>fV 9998 Tryz.underlying26 Tryz.underlying5 cN dS (z.k.2) (y.k.2) w) rfl rfl) ?_;refine o.N ?_;exact cb _ (congrArg (fun b=>some (Value.bool b)) (decide_eq_decide.2 (by rw[List.getElem?_eq_getElem ba,Option.map_some,Option.some_inj,←a8];exact⟨fun e=>Subtype.ext e,fun e=>congrArg Subtype.val e⟩))) (ae (ae (ae (ae (ae (ae (ae (ae (ae (bC (congrArg Value.bool (decide_eq_true dU).symm)))))))))))
      ·
       refine o.ax 9 ?_;exact cb _ (congrArg (fun b=>some (Value.bool b)) (by rw[List.getElem?_eq_none (by omega)];simp)) (ae (ae (ae (ae (ae (ae (ae (ae (ae (bC (congrArg Value.bool (decide_eq_false dU).symm)))))))))))
     refine o.nil (eK ?_);refine aU (fun bp=>?_) (fun bp=>?_)
     ·
      obtain⟨z9,cX,de⟩:=Option.map_eq_some_iff.1 bp;obtain⟨ba,rfl⟩:=List.getElem?_eq_some_iff.1 cX;have e0:t[j].k=y.k:=de;refine G.L (fun ci=>?_);refine o.ax 2 ?_;refine o.v1 (aT an.N hJ ck (c0 _)) ?_;refine o.v1 (mj A (j) cu ck) ?_;refine o.s1 (S.tf A j 0 (⟨y.k,ab,y.d⟩:bA) (bO (⟨y.k,ab,y.d⟩:bA)) rfl rfl rfl rfl (gX _) ck (c0 _) ba (by decide) (c9 (by rw[c0,c0])).symm) fun fo dG=>?_;obtain⟨A,au⟩:=dG;replace au:=au.md;replace Q:=fun x aA=>(Q x aA).ab au (az.J df);replace k:=k.ab au (ah.J cw.symm);replace K:=K.aJ au (ag.J (aq.r cJ));have dW:=au.size;refine o.nil (ci ?_);refine G.exit (eJ (dP ?_));refine c_ (G.region ?_);refine o.V ?_;refine o.v1 bD ?_;refine o.ak ?_;refine aP.sub (dr (i+1,so,aH,t.set j (⟨y.k,ab,y.d⟩:bA),fun b=>aR b∨b+1=aF) _ ?_ ?_) ⟨rfl,rfl,(aD (by omega)),trivial⟩
      ·exact⟨(by omega),A,yR j Q (fun b e=> .inl e) (k.rd.imp (fun b _ e=> .inr e)),bh.eG (bn.mono (by omega)) k.le,ay.eG (df) (cw),(fun b e=>e.elim (b1 b) (fun e=>Or.inr (by have bK:=(cz);unfold T at bK;omega))),by rw[pO bE,←a7,←bF];exact vW (x:=(⟨y.k,ab,y.d⟩:bA)) bc ba e0,cJ,K⟩
      ·first|omega|(simp only;omega)|(simp;omega)
     ·
      refine G.skip (ce (G.L (fun eL=>?_)));have b4:∀h:j<t.length,¬blt t[j].k.1 y.k.1∧¬t[j].k=y.k:=fun h=>⟨b5 h,fun e=>bp (by rw[List.getElem?_eq_getElem h,Option.map_some,e])⟩;refine o.ak ?_;refine eL (G.L (fun eM=>?_));refine o.ax 3 ?_;refine o.aK (g:=fun v=>v) (Y.slice A.rd (0) (j) rfl cu ck rfl (.inl ⟨rfl,rfl⟩) (.inr ⟨_,_,_,rfl,rfl,by first|rfl|omega⟩) (by omega) (by omega)) fun fB e6=>?_;have e4:aV 0 68 cA bO 33 (.slice none 0 0) []:=aV.nil c0 gX;refine o.aO (dQ e4 e6 iJ (by simp;omega) (by simp;omega)) fun fC dd eR=>?_;obtain⟨bs,on,aW,aJ⟩:=eR;replace aW:T 0 cA.size bs:=aW;replace aJ:=aJ.md;have dH:af aH bs:=af.app (af.z) A.le aW;have a0:=ay.app (ay.z) (bn.mono (by omega)) aW;have b2:af aF bs:=af.app (af.z) k.le aW;have a2:T 0 bt.size bs:=T.L (T.refl 0 _) aW K.size;replace A:=A.ab aJ (ah.J af.z);replace Q:=fun x aA=>(Q x aA).ab aJ (az.J ay.z);replace an:=an.ab aJ (ah.J af.z);replace k:=k.ab aJ (ah.J af.z);replace K:=K.aJ aJ (ag.cons aq.z ag.nil);have gi:=aJ.size;have cf:=on.le;have b4:∀h:j<t.length,¬blt t[j].k.1 y.k.1∧¬t[j].k=y.k:=fun h=>⟨b5 h,fun e=>bp (by rw[List.getElem?_eq_getElem h,Option.map_some,e])⟩;refine o.ak ?_;refine eM (G.L (fun eO=>?_));refine o.V ?_;refine o.v1 (aT an.N hJ ck (c0 _)) ?_;refine o.aO (cT _ ([(⟨y.k,ab,y.d⟩:bA)]) iJ c0 gX (rfl)) fun fD cZ eS=>?_;obtain⟨e5,aX,fI,eP⟩:=eS;have fp:cZ.size=dd.size+1:=by rw[eP];simp
      replace A:=A.M aX;replace Q:=fun x aA=>(Q x aA).M aX;replace k:=k.M aX;replace on:=on.M aX;replace K:=K.bc aX;have fL:=aX.size;refine o.aO (dQ on e5.rd iJ (by simp;omega) (by simp;omega)) fun fE eT eW=>?_;obtain⟨bQ,on,bk,aM⟩:=eW;replace bk:T bs cZ.size bQ:=bk;replace aM:=aM.md;have a3:=ay.app (a0) (bn.mono (by omega)) bk;have a4:af aF bQ:=af.app (b2) k.le bk;have a5:T 0 bt.size bQ:=T.L (a2) bk K.size;replace A:=A.ab aM (ah.J dH);replace Q:=fun x aA=>(Q x aA).ab aM (az.J a0);replace k:=k.ab aM (ah.J b2);replace K:=K.aJ aM (ag.J (aq.q a2));have dl:=aM.size;have cf:=on.le;have b4:∀h:j<t.length,¬blt t[j].k.1 y.k.1∧¬t[j].k=y.k:=fun h=>⟨b5 h,fun e=>bp (by rw[List.getElem?_eq_getElem h,Option.map_some,e])⟩;refine o.ak ?_;refine eO (G.region ?_);refine o.ax 3 ?_;refine o.aK (g:=fun v=>v) (Y.slice A.rd (j) (t.length) rfl cu ck rfl (.inr ⟨_,_,_,rfl,rfl,by first|rfl|omega⟩) (.inl ⟨rfl,rfl⟩) (by omega) (by omega)) fun fF e7=>?_;refine o.aO (dQ on e7 iJ (by simp;omega) (by simp;omega)) fun c1 fG cF=>?_;obtain⟨bR,on,bl,aY⟩:=cF;replace bl:T bQ eT.size bR:=bl;replace aY:=aY.md;have dI:=ay.app (a3) (bn.mono (by omega)) bl;have dJ:af aF bR:=af.app (a4) k.le bl;have dK:T 0 bt.size bR:=T.L (a5) bl K.size;replace Q:=fun x aA=>(Q x aA).ab aY (az.J a3);replace k:=k.ab aY (ah.J a4);replace K:=K.aJ aY (ag.J (aq.q a5));have dn:=aY.size;have cf:=on.le;rw[List.nil_append,List.drop_zero,List.take_length]at on;obtain⟨eY,rfl⟩:∃s:aN,c1=s.v:=⟨cl c1,on.bl.symm⟩;refine o.ak ?_;refine dO (c_ (G.region ?_));refine o.V ?_;refine o.v1 bD ?_;refine o.ak ?_;refine aP.sub (dr (i+1,eY,bR,t.take j++[(⟨y.k,ab,y.d⟩:bA)]++t.drop j,fun b=>aR b∨b+1=aF) _ ?_ ?_) ⟨rfl,rfl,(aD (by omega)),trivial⟩
      ·exact⟨(by omega),on,DU j Q (fun b e=> .inl e) (k.rd.imp (fun b _ e=> .inr e)),bh.eG (bn.mono (by omega)) k.le,ay.eG (dI) (dJ.symm),(fun b e=>e.elim (b1 b) (fun e=>Or.inr (by have bK:=(cz);unfold T at bK;omega))),by rw[pO bE,←a7,←bF];exact Gh (x:=(⟨y.k,ab,y.d⟩:bA)) bc di b4,(T.z (dK)),K⟩
      ·first|omega|(simp only;omega)|(simp;omega)
 ·
  have bE:i=m.length:=by omega
  rw[bE,List.take_length]at bF;refine G.exit (ez (ew (eu ?_)));refine ep (G.L (fun eQ=>?_));refine o.aQ 2 ?_;refine eQ ?_;refine G.ret (e2 ?_);exact⟨so,t,_,rfl,(fun _=>((A.rd.imp (fun b _ e=>Or.inr (by have bK:=(dN);unfold T at bK;omega)):Rd (fun b=>F b∨I.size≤b) _ bO 33 so.v t)).bw),(fun b e=>e.2),(fun x h=>(((Q x h).imp (fun b _ e=>b1 b e):Rd (fun b=>F b∨I.size≤b) _ a1 1 x.v.v x.d)).bw),(fun b e=>e.2),(fun b e=>e.1),bF,M⟩
end ke

namespace mr
open E Go.RowKit eM eP e1 e7 ev eQ eR fC fD fI fS ga gz gq ke dz
set_option maxRecDepth 100000 in
theorem dC:c4 Tryz.prog 57 5 1 1:=⟨Tryz.underlying57,_,_,rfl,rfl,rfl,rfl,rfl⟩
theorem Fk:cm 1 1=[1]:=by decide+kernel
theorem Fj:cm 1 0=[0]:=by decide+kernel
theorem n0(k:Nat)(s:aN)(xs:List UInt8)(i:cY)(w0:World)(I:Heap)
 (d:aV k 5 I a1 1 s.v xs) (bb:xs.length≤1099511627776):
 aC Tryz.prog w0 121 #[s.v,bq i] I (fun r M=>∃s2:aN,∃a8:Nat,r=s2.v∧(aV a8 5 M a1 1 s2.v (xs++i.1))∧(T k I.size a8)∧W (aE [k]) I M):=by
 refine aC.aK [s.v,bq i] Tryz.func121 ?_;intro aQ aK;have t:W (aE [k]) I I:=W.refl _ _;have N:=T.refl k I.size;have ac:=d.le;have a_:=i.2;refine G.L (fun aA=>?_);refine o.aO cq ?_;rintro v3 A ⟨rfl,x,K,aS,aB⟩;have a7:A.size=I.size+1:=by rw[aB];simp
 have aF:af k (I.size+1):=af.new d.le;replace d:=d.M K;replace t:=t.bc K;have aT:=K.size;replace x:Var 26 A I.size (b7 i):=x;refine o.ak ?_;refine aA (G.t1 (fun aH=>G.L (fun aI=>?_)));refine o.ak ?_;refine aI (G.aB (fun _ aJ _=>?_))
 refine G.bg (fun(aM:(Nat)×(aN)×(Nat)×(List UInt8))=>match aM with|(j,s1,q,ys)=>[(0,s1.v),(3,.pointer (some ⟨I.size,0,none⟩)),(5,.int .i64 (j:Int))])
  (fun(j,s1,q,ys) (H:Heap)=>(j≤32)∧(aV q 5 H a1 1 s1.v ys)∧(ys=xs++i.1.take j)∧(T k A.size q)∧W (aE [k]) A H)
  (fun(j,s1,q,ys)=>32-j) (0,s,k,xs) ⟨rfl,rfl,rfl,trivial⟩ ?_ ?_
 ·
  exact⟨(by omega),d,(by simp),T.refl _ _,W.refl _ _⟩
 rintro⟨j,s1,q,ys⟩ Q R aO S V;obtain⟨ba,d,C,ad,n⟩:=R;have X:T k I.size q:=T.L (N) ad t.size;replace x:=x.ab n (ah.J aF.symm);replace t:=t.aJ n (ag.J (aq.r N));have aW:=n.size;have ac:=d.le;have am:=ad;have bc:ys.length≤xs.length+32:=by rw[C,List.length_append,List.length_take];omega
 refine G.t2 (fun Y Z=>G.L (fun aa=>?_));refine o.V ?_;refine o.v1 bJ (o.nil (aa ?_));refine aU (fun cy=>?_) (fun cy=>?_)
 ·
  refine G.skip (Y (G.t1 (fun ab=>G.aB (fun ae _ _=>G.region ?_))));refine o.ax 2 ?_;refine o.v1 (eZ x.N (j) k9 cN) ?_;refine o.v1 (ar (x.N.at (j) (oJ i j (by omega))) dS) ?_;refine o.aO (cT _ ([i.1.getD j 0]) dC eE fK (rfl)) fun aX O ai=>?_;obtain⟨aL,E,aR,ay⟩:=ai;have ap:O.size=Q.size+1:=by rw[ay];simp
  replace d:=d.M E;replace n:=n.bc E;have aY:=E.size;refine o.aO (dQ d aL.rd dC (by simp;omega) (by simp;omega)) fun P aZ ak=>?_;obtain⟨L,d,F,B⟩:=ak;replace F:T q O.size L:=F;replace B:=B.md;have az:T k A.size L:=T.L (am) F n.size;replace n:=n.aJ B (ag.J (aq.r am));have a6:=B.size;have ac:=d.le;obtain⟨al,rfl⟩:∃s:aN,P=s.v:=⟨cl P,d.bl.symm⟩;refine o.ak ?_;refine ae (ab (G.region ?_));refine o.V ?_;refine o.v1 bD ?_;refine o.ak ?_;refine aP.sub (S (j+1,al,L,ys++[i.1.getD j 0]) _ ?_ ?_) ⟨rfl,rfl,(aD (by omega)),trivial⟩
  ·exact⟨(by omega),d,by rw[C,List.take_succ_eq_append_getElem (by omega),sx (l:=i.1) (j:=j) (by omega),List.append_assoc],az,n⟩
  ·first|omega|(simp only;omega)|(simp;omega)
 ·
  obtain rfl:j=32:=by omega
  rw[List.take_of_length_le (by omega)]at C;subst C;refine G.exit (Z (V (aJ ?_)));refine aH (G.L (fun au=>?_));refine o.aQ 2 ?_;refine au ?_;refine G.ret (aK ?_);exact⟨s1,q,rfl,d,X,t⟩
theorem tV(k:Nat)(s:aN)(xs t:List UInt8)(w0:World)(I:Heap)
 (d:aV k 5 I a1 1 s.v xs) (ab:xs.length≤549755813888) (aa:t.length≤255):
 aC Tryz.prog w0 119 #[s.v,.int .i64 1,aI t] I (fun r q=>∃s2:aN,∃a8:Nat,r= .tuple #[s2.v,.bool true]∧(aV a8 5 q a1 1 s2.v (xs++fQ 1 t))∧(T k I.size a8)∧W (aE [k]) I q):=by
 refine aC.aK [s.v,.int .i64 1,aI t] Tryz.func119 ?_;intro R Q;have i:W (aE [k]) I I:=W.refl _ _;have x:=T.refl k I.size;have F:=d.le;refine G.L (fun au=>?_);refine o.aQ 2 ?_;refine au (G.t1 (fun am=>G.L (fun K=>?_)));refine o.V ?_;refine o.v1 ((bJ).gC (by decide)) ?_;refine o.ax 2 ?_;refine o.ao (fB dP) ?_;refine o.bU ?_;refine o.ao (Y.cast (v2:= .int .i64 8) (Y.jx rfl rfl rfl (by decide)) (rfl)) ?_;refine o.ao (Y.cast (v2:= .int .i64 256) (Y.k2 (8) rfl rfl rfl rfl (by decide) (by decide)) (rfl)) ?_;refine o.ao ((dJ).fm (by omega)) ?_;refine o.N ?_;refine o.nil (K ?_);refine dw ?_;refine G.skip (am (G.L (fun ap=>?_)));refine o.ax 3 ?_;refine o.v1 (fB dP) ?_;refine o.v1 (Y.hA rfl gn gU rfl) ?_;refine aW lU (dz.l7 _ _ _ 1 _ w0 _ d (by decide) (by omega)) (fun j L M=>?_);obtain⟨j,B,rfl,d,H,A⟩:=M;have C:T k I.size B:=T.L (x) H i.size;replace i:=i.aJ A (ag.J (aq.r x));have S:=A.size;have F:=d.le;obtain⟨V,rfl⟩:∃s:aN,j=s.v:=⟨cl j,d.bl.symm⟩;refine o.V ?_;refine o.aO (Z.pQ d rfl dC Tryz.underlying9 rfl rfl (by simp[dT];omega)) fun E X N=>?_;obtain⟨n,d,ac,ad⟩:=N;replace ac:T B L.size n:=ac;replace ad:=ad.md;have O:T k I.size n:=T.L (C) ac i.size;replace i:=i.aJ ad (ag.J (aq.r C));obtain⟨P,rfl⟩:∃s:aN,E=s.v:=⟨cl E,d.bl.symm⟩;refine o.aQ 2 ?_;refine ap ?_;refine G.ret (Q ?_);exact⟨P,n,rfl,by rw[fQ,←List.append_assoc];exact d,O,i⟩
theorem HF(k:Nat)(s:aN)(xs t:List UInt8)(w0:World)(I:Heap)
 (d:aV k 5 I a1 1 s.v xs) (ab:xs.length≤549755813888) (aa:t.length≤65535):
 aC Tryz.prog w0 119 #[s.v,.int .i64 2,aI t] I (fun r q=>∃s2:aN,∃a8:Nat,r= .tuple #[s2.v,.bool true]∧(aV a8 5 q a1 1 s2.v (xs++fQ 2 t))∧(T k I.size a8)∧W (aE [k]) I q):=by
 refine aC.aK [s.v,.int .i64 2,aI t] Tryz.func119 ?_;intro R Q;have i:W (aE [k]) I I:=W.refl _ _;have x:=T.refl k I.size;have F:=d.le;refine G.L (fun au=>?_);refine o.aQ 2 ?_;refine au (G.t1 (fun am=>G.L (fun K=>?_)));refine o.V ?_;refine o.v1 ((bJ).gC (by decide)) ?_;refine o.ax 2 ?_;refine o.ao (fB dP) ?_;refine o.bU ?_;refine o.ao (Y.cast (v2:= .int .i64 16) (Y.jx rfl rfl rfl (by decide)) (rfl)) ?_;refine o.ao (Y.cast (v2:= .int .i64 65536) (Y.k2 (16) rfl rfl rfl rfl (by decide) (by decide)) (rfl)) ?_;refine o.ao ((dJ).fm (by omega)) ?_;refine o.N ?_;refine o.nil (K ?_);refine dw ?_;refine G.skip (am (G.L (fun ap=>?_)));refine o.ax 3 ?_;refine o.v1 (fB dP) ?_;refine o.v1 (Y.hA rfl gn gU rfl) ?_;refine aW lU (dz.l7 _ _ _ 2 _ w0 _ d (by decide) (by omega)) (fun j L M=>?_);obtain⟨j,B,rfl,d,H,A⟩:=M;have C:T k I.size B:=T.L (x) H i.size;replace i:=i.aJ A (ag.J (aq.r x));have S:=A.size;have F:=d.le;obtain⟨V,rfl⟩:∃s:aN,j=s.v:=⟨cl j,d.bl.symm⟩;refine o.V ?_;refine o.aO (Z.pQ d rfl dC Tryz.underlying9 rfl rfl (by simp[dT];omega)) fun E X N=>?_;obtain⟨n,d,ac,ad⟩:=N;replace ac:T B L.size n:=ac;replace ad:=ad.md;have O:T k I.size n:=T.L (C) ac i.size;replace i:=i.aJ ad (ag.J (aq.r C));obtain⟨P,rfl⟩:∃s:aN,E=s.v:=⟨cl E,d.bl.symm⟩;refine o.aQ 2 ?_;refine ap ?_;refine G.ret (Q ?_);exact⟨P,n,rfl,by rw[fQ,←List.append_assoc];exact d,O,i⟩
theorem HG(k:Nat)(s:aN)(xs t:List UInt8)(w0:World)(I:Heap)
 (d:aV k 5 I a1 1 s.v xs) (ab:xs.length≤549755813888) (aa:t.length≤549755813888):
 aC Tryz.prog w0 119 #[s.v,.int .i64 4,aI t] I (fun r q=>∃s2:aN,∃a8:Nat,r= .tuple #[s2.v,.bool true]∧(aV a8 5 q a1 1 s2.v (xs++fQ 4 t))∧(T k I.size a8)∧W (aE [k]) I q):=by
 refine aC.aK [s.v,.int .i64 4,aI t] Tryz.func119 ?_;intro R Q;have i:W (aE [k]) I I:=W.refl _ _;have x:=T.refl k I.size;have F:=d.le;refine G.L (fun au=>?_);refine o.aQ 2 ?_;refine au (G.t1 (fun am=>G.L (fun K=>?_)));refine o.V ?_;refine o.v1 ((bJ).fm (by decide)) ?_;refine o.ax 8 ?_;refine o.nil (K ?_);refine dw ?_;refine G.skip (am (G.L (fun ap=>?_)));refine o.ax 3 ?_;refine o.v1 (fB dP) ?_;refine o.v1 (Y.hA rfl gn gU rfl) ?_;refine aW lU (dz.l7 _ _ _ 4 _ w0 _ d (by decide) (by omega)) (fun j L M=>?_);obtain⟨j,B,rfl,d,H,A⟩:=M;have C:T k I.size B:=T.L (x) H i.size;replace i:=i.aJ A (ag.J (aq.r x));have S:=A.size;have F:=d.le;obtain⟨V,rfl⟩:∃s:aN,j=s.v:=⟨cl j,d.bl.symm⟩;refine o.V ?_;refine o.aO (Z.pQ d rfl dC Tryz.underlying9 rfl rfl (by simp[dT];omega)) fun E X N=>?_;obtain⟨n,d,ac,ad⟩:=N;replace ac:T B L.size n:=ac;replace ad:=ad.md;have O:T k I.size n:=T.L (C) ac i.size;replace i:=i.aJ ad (ag.J (aq.r C));obtain⟨P,rfl⟩:∃s:aN,E=s.v:=⟨cl E,d.bl.symm⟩;refine o.aQ 2 ?_;refine ap ?_;refine G.ret (Q ?_);exact⟨P,n,rfl,by rw[fQ,←List.append_assoc];exact d,O,i⟩
theorem xT(k:Nat)(s:aN)(xs:List UInt8)(x:Int)(w0:World)(I:Heap)
 (d:aV k 5 I a1 1 s.v xs) (O:xs.length≤549755813888) (N:0≤x∧x≤255):
 aC Tryz.prog w0 189 #[s.v,.int .i64 1,.int .i64 x] I (fun r j=>∃s2:aN,∃a8:Nat,r= .tuple #[s2.v,.bool true]∧(aV a8 5 j a1 1 s2.v (xs++cm 1 (UInt64.ofNat x.toNat)))∧(T k I.size a8)∧W (aE [k]) I j):=by
 refine aC.aK [s.v,.int .i64 1,.int .i64 x] Tryz.func189 ?_;intro K H;have i:W (aE [k]) I I:=W.refl _ _;have n:=T.refl k I.size;have L:=d.le;refine G.L (fun A=>?_);refine o.aQ 2 ?_;refine A (G.t1 (fun B=>G.L (fun C=>?_)));refine o.V ?_;refine o.v1 ((bJ).fm (by omega)) ?_;refine o.ax 3 ?_;refine o.ao (Y.cast (v2:= .int .i64 8) (Y.jx rfl rfl rfl (by decide)) (rfl)) ?_;refine o.ao (Y.cast (v2:= .int .i64 256) (Y.k2 (8) rfl rfl rfl rfl (by decide) (by decide)) (rfl)) ?_;refine o.ao ((dJ).fm (by omega)) ?_;refine o.dF ?_;refine o.nil (C ?_);refine dw ?_;refine G.skip (B (G.L (fun E=>?_)));refine o.ax 2 ?_;refine o.v1 (Y.cast (v2:= .int .i64 ((x).toNat:Nat)) fc (fM (by omega))) ?_;refine o.v1 (Y.hA rfl gn gU rfl) ?_;refine aW lU (dz.l7 _ _ _ 1 _ w0 _ d (by decide) (by omega)) (fun ac M F=>?_);obtain⟨ac,q,rfl,d,ad,t⟩:=F;have au:T k I.size q:=T.L (n) ad i.size;replace i:=i.aJ t (ag.J (aq.r n));obtain⟨am,rfl⟩:∃s:aN,ac=s.v:=⟨cl ac,d.bl.symm⟩;refine o.aQ 2 ?_;refine E ?_;refine G.ret (H ?_);exact⟨am,q,rfl,d,au,i⟩
theorem xU(k:Nat)(s:aN)(xs:List UInt8)(x:Int)(w0:World)(I:Heap)
 (d:aV k 5 I a1 1 s.v xs) (O:xs.length≤549755813888) (N:0≤x∧x≤65535):
 aC Tryz.prog w0 189 #[s.v,.int .i64 2,.int .i64 x] I (fun r j=>∃s2:aN,∃a8:Nat,r= .tuple #[s2.v,.bool true]∧(aV a8 5 j a1 1 s2.v (xs++cm 2 (UInt64.ofNat x.toNat)))∧(T k I.size a8)∧W (aE [k]) I j):=by
 refine aC.aK [s.v,.int .i64 2,.int .i64 x] Tryz.func189 ?_;intro K H;have i:W (aE [k]) I I:=W.refl _ _;have n:=T.refl k I.size;have L:=d.le;refine G.L (fun A=>?_);refine o.aQ 2 ?_;refine A (G.t1 (fun B=>G.L (fun C=>?_)));refine o.V ?_;refine o.v1 ((bJ).fm (by omega)) ?_;refine o.ax 3 ?_;refine o.ao (Y.cast (v2:= .int .i64 16) (Y.jx rfl rfl rfl (by decide)) (rfl)) ?_;refine o.ao (Y.cast (v2:= .int .i64 65536) (Y.k2 (16) rfl rfl rfl rfl (by decide) (by decide)) (rfl)) ?_;refine o.ao ((dJ).fm (by omega)) ?_;refine o.dF ?_;refine o.nil (C ?_);refine dw ?_;refine G.skip (B (G.L (fun E=>?_)));refine o.ax 2 ?_;refine o.v1 (Y.cast (v2:= .int .i64 ((x).toNat:Nat)) fc (fM (by omega))) ?_;refine o.v1 (Y.hA rfl gn gU rfl) ?_;refine aW lU (dz.l7 _ _ _ 2 _ w0 _ d (by decide) (by omega)) (fun ac M F=>?_);obtain⟨ac,q,rfl,d,ad,t⟩:=F;have au:T k I.size q:=T.L (n) ad i.size;replace i:=i.aJ t (ag.J (aq.r n));obtain⟨am,rfl⟩:∃s:aN,ac=s.v:=⟨cl ac,d.bl.symm⟩;refine o.aQ 2 ?_;refine E ?_;refine G.ret (H ?_);exact⟨am,q,rfl,d,au,i⟩
set_option maxHeartbeats 1600000 in
theorem GW(k:Nat)(s:aN)(xs:List UInt8)(x:cZ)(F:Nat→Prop)(w0:World)(I:Heap)
 (d:aV k 5 I a1 1 s.v xs) (e2:xs.length≤274877906944) (A:Rd F I c2 33 x.cd.v x.a6) (S:bh F I.size) (f2:ay F k) (aK:0≤x.k∧x.k≤255) (dP:x.k≠0→ob x):
 aC Tryz.prog w0 122 #[s.v,er x] I (fun r bn=>∃s2:aN,∃a8:Nat,r= .tuple #[s2.v,.bool true]∧(aV a8 5 bn a1 1 s2.v (xs++j9 x))∧(T k I.size a8)∧W (aE [k]) I bn):=by
 refine aC.aK [s.v,er x] Tryz.func122 ?_;intro dY bm;have q:W (aE [k]) I I:=W.refl _ _;have ac:=T.refl k I.size;have C:=d.le;have e1:=A.len;refine G.L (fun b7=>?_);refine o.aO cq ?_;rintro v3 bo ⟨rfl,j,ae,ez,b8⟩;have ea:bo.size=I.size+1:=by rw[b8];simp
 have bX:af k (I.size+1):=af.new d.le;replace d:=d.M ae;replace A:=A.M ae;replace q:=q.bc ae;have eA:=ae.size;replace j:Var 29 bo I.size (dX x):=j;refine o.aQ 2 ?_;refine b7 (G.L (fun ca=>?_));refine o.V ?_;refine o.v1 (Y.ai j.N rfl bt rfl b0) ?_;refine o.v1 (ar j.N cj) ?_;refine aW pY (xT _ _ _ x.k w0 _ d (by omega) aK) (fun eB eC cI=>?_);have di:=j.lt;obtain⟨dj,a6,rfl,d,a7,aA⟩:=cI;have bZ:=ay.app (f2) (S.mono q.size) a7;have b1:af (I.size+1) a6:=af.app (bX.symm) di a7;have bk:T k I.size a6:=T.L (ac) a7 q.size;replace A:=A.ab aA (az.J f2);replace j:=j.ab aA (ah.J bX.symm);replace q:=q.aJ aA (ag.J (aq.r ac));have eD:=aA.size;have C:=d.le;refine o.V ?_;refine o.v1 cO ?_;refine o.v1 cO ?_;refine o.aQ 2 ?_;refine ca (G.t2 (fun dk dm=>G.L (fun ce=>?_)));refine o.V ?_;refine o.v1 eL ?_;refine o.V ?_;refine o.ao (Y.ai j.N rfl bt rfl b0) ?_;refine o.ao (ar j.N cj) ?_;refine o.ao b9 ?_;refine o.dF ?_;refine o.nil (ce ?_);refine aU (fun dp=>?_) (fun dp=>?_)
 ·
  have V:x.k=0:=by omega
  refine G.L (fun dq=>?_);refine o.aQ 4 ?_;refine dq ?_;refine G.ret (dm (bm ?_));exact⟨dj,a6,rfl,by rw[tK V];exact d,bk,q⟩
 ·
  have V:x.k≠0:=by omega
  have he:=dP V;have eY:=he.br;have eZ:=he.a6;have dM:=he.dn;have dN:=he.md;refine G.skip (dk (G.L (fun dU=>?_)));refine o.V ?_;refine o.v1 (Y.ai j.N rfl bt rfl bP) ?_;refine o.v1 (ar (j.N.drop 1) bN) ?_;refine aW oF (tV _ _ _ x.br w0 _ d (by simp only[List.length_append,dT,hc,x.bX.2,x.bm.2];omega) (by omega)) (fun eF X ci=>?_);have cJ:=j.lt;obtain⟨eG,P,rfl,d,ba,aF⟩:=ci;have bu:=ay.app (bZ) (S.mono q.size) ba;have Q:af (I.size+1) P:=af.app (b1) cJ ba;have bw:T k I.size P:=T.L (bk) ba q.size;replace A:=A.ab aF (az.J bZ);replace j:=j.ab aF (ah.J b1);replace q:=q.aJ aF (ag.J (aq.r bk));have eH:=aF.size;have C:=d.le;refine o.V ?_;refine o.v1 cO ?_;refine o.v1 cO ?_;refine o.ak ?_;refine dU (G.t1 (fun dt=>?_));refine dx (fun N=>W (aE [P]) X N) [] ?_;have B:W (aE [P]) X X:=W.refl _ _;have bx:=T.refl P X.size;refine O.V 0 rfl B ?_;refine O.t1 1 rfl (fun N K=>Y.fieldAddr (j.ab K (ah.J Q)).N rfl bt rfl rfl a_ (by decide) rfl) B ?_;refine O.t1 2 rfl (fun N K=>Y.cast (v2:=bq x.bX) (aT (((j.ab K (ah.J Q)).N.drop 2).take 32) b_ a_ (by rw[hC];exact bB _)) (b6 (hC _))) B ?_;refine O.t1 4 rfl (fun N K=>Y.fieldAddr (j.ab K (ah.J Q)).N rfl bt rfl rfl a_ (by decide) rfl) B ?_;refine O.t1 5 rfl (fun N K=>Y.cast (v2:=bq x.bm) (aT (((j.ab K (ah.J Q)).N.drop 34).take 32) b_ a_ (by rw[hB];exact bB _)) (b6 (hB _))) B ?_;refine O.aX 3 ?_;refine cf nv (n0 _ _ _ x.bX w0 _ d (by simp only[List.length_append,dT,hc,x.bX.2,x.bm.2];omega)) (fun eJ ai du=>?_);have cL:=j.lt;obtain⟨eK,R,rfl,d,au,Z⟩:=du;have bz:=ay.app (bu) (S.mono q.size) au;have bA:af (I.size+1) R:=af.app (Q) cL au;have bC:T k I.size R:=T.L (bw) au q.size;have bT:T P X.size R:=T.L (bx) au B.size;replace A:=A.ab Z (az.J bu);replace j:=j.ab Z (ah.J Q);replace q:=q.aJ Z (ag.J (aq.r bw));replace B:=B.aJ Z (ag.J (aq.r bx));have eb:=Z.size;have C:=d.le;refine O.b3 B (ag.J (aq.r bT)) ?_;have B:W (aE [R]) ai ai:=W.refl _ _;have bE:=T.refl R ai.size;refine O.aX 6 ?_;refine cf nv (n0 _ _ _ x.bm w0 _ d (by simp only[List.length_append,dT,hc,x.bX.2,x.bm.2];omega)) (fun ec be dv=>?_);have bY:=j.lt;obtain⟨ed,ak,rfl,d,am,aa⟩:=dv;have bF:=ay.app (bz) (S.mono q.size) am;have bG:af (I.size+1) ak:=af.app (bA) bY am;have bI:T k I.size ak:=T.L (bC) am q.size;have cM:T R ai.size ak:=T.L (bE) am B.size;replace A:=A.ab aa (az.J bz);replace j:=j.ab aa (ah.J bA);replace q:=q.aJ aa (ag.J (aq.r bC));replace B:=B.aJ aa (ag.J (aq.r bE));have dE:=aa.size;have C:=d.le;refine O.b3 B (ag.J (aq.r cM)) ?_;have B:W (aE [ak]) be be:=W.refl _ _;refine O.t1 7 rfl (fun N K=>ej) B ?_;refine cx ?_;refine dt (G.L (fun dy=>?_));refine o.V ?_;refine o.v1 (Y.ai j.N rfl bt rfl ep) ?_;refine o.v1 (ar j.N.fO fi) ?_;refine o.v1 (bb A fq) ?_;refine o.v1 (Y.hA rfl gn gU rfl) ?_;refine aW lU (dz.l7 _ _ _ 2 _ w0 _ d (by decide) (by simp only[List.length_append,dT,hc,x.bX.2,x.bm.2];omega)) (fun bl a9 dD=>?_);have bi:=j.lt;obtain⟨bl,L,rfl,d,bc,aH⟩:=dD;have bK:=ay.app (bF) (S.mono q.size) bc;have bL:af (I.size+1) L:=af.app (bG) bi bc;have bO:T k I.size L:=T.L (bI) bc q.size;replace A:=A.ab aH (az.J bF);replace j:=j.ab aH (ah.J bG);replace q:=q.aJ aH (ag.J (aq.r bI));have ee:=aH.size;have C:=d.le;obtain⟨co,rfl⟩:∃s:aN,bl=s.v:=⟨cl bl,d.bl.symm⟩;refine o.ak ?_;refine dy (G.t1 (fun dF=>G.L (fun cN=>?_)));refine o.ak ?_;refine cN (G.aB (fun _ aB _=>?_))
  refine G.bg (fun(dV:(Nat)×(aN)×(Nat)×(List UInt8))=>match dV with|(i,s1,M,ys)=>[(0,s1.v),(3,.pointer (some ⟨I.size,0,none⟩)),(6,.bool true),(7,.int .i64 (i:Int))])
   (fun(i,s1,M,ys) (H:Heap)=>(i≤x.a6.length)∧(aV M 5 H a1 1 s1.v ys)∧(ys=xs++cm 1 (UInt64.ofNat x.k.toNat)++fQ 1 x.br++x.bX.1++x.bm.1++cm 2 (UInt64.ofNat x.a6.length)++(x.a6.take i).flatMap j_)∧(T L a9.size M)∧W (aE [L]) a9 H)
   (fun(i,s1,M,ys)=>x.a6.length-i) (0,co,L,xs++cm 1 (UInt64.ofNat x.k.toNat)++fQ 1 x.br++x.bX.1++x.bm.1++cm 2 (UInt64.ofNat x.a6.length)) ⟨rfl,rfl,rfl,rfl,trivial⟩ ?_ ?_
  ·
   exact⟨(by omega),d,(by simp),T.refl _ _,W.refl _ _⟩
  rintro⟨i,s1,M,ys⟩ ef dG eg cP cR;obtain⟨e0,d,ab,al,E⟩:=dG;have cS:=ay.app (bK) (S.mono q.size) al;have aO:af (I.size+1) M:=af.app (bL) j.lt al;have bQ:T k I.size M:=T.L (bO) al q.size;replace A:=A.ab E (az.J bK);replace j:=j.ab E (ah.J bL);replace q:=q.aJ E (ag.J (aq.r bO));have cy:=E.size;have C:=d.le;have a0:=al;have e3:ys.length≤xs.length+3000000:=by have K:=mP (f:=j_) (n:=33) (l:=x.a6.take i) (fun x _=>by rw[ra];omega);rw[List.length_take]at K;rw[ab];simp only[List.length_append,dT,hc,x.bX.2,x.bm.2];omega
  refine G.t2 (fun cU cV=>G.L (fun cW=>?_));refine o.V ?_;refine o.v1 (Y.ai j.N rfl bt rfl ep) ?_;refine o.v1 (ar j.N.fO fi) ?_;refine o.v1 (bb A fq) ?_;refine o.v1 bJ (o.nil (cW ?_));refine aU (fun dH=>?_) (fun dH=>?_)
  ·
   refine G.skip (cU (G.t1 (fun c0=>G.aB (fun c1 _ _=>G.L (fun c3=>?_)))));refine o.V ?_;refine o.v1 (Y.ai j.N rfl bt rfl ep) ?_;refine o.v1 (ar j.N.fO fi) ?_;refine o.V ?_;have b5:i<x.a6.length:=by omega
   obtain⟨t,aM⟩:∃t,t=x.a6[i]:=⟨_,rfl⟩;have dO:=he.dd t (by rw[aM];exact List.getElem_mem b5);refine o.bR (Y.bL A (i) rfl fq ha rfl rfl) fun cs a2=>?_;refine o.v1 (Y.ai a2.N rfl jC rfl b0) ?_;refine o.v1 (Y.cast (v2:= .int .i64 t.d) (ar (a2.N.drop 0) cj) (by rw[aM])) ?_;refine aW pY (xT _ _ _ t.d w0 _ d (by omega) dO) (fun eh ei dI=>?_);obtain⟨eM,dr,rfl,d,bv,ap⟩:=dI;have a3:T L a9.size dr:=T.L (a0) bv E.size;replace A:=A.ab ap (az.J cS);replace j:=j.ab ap (ah.J aO);replace E:=E.aJ ap (ag.J (aq.r a0));have eO:=ap.size;have C:=d.le;refine o.V ?_;refine o.v1 cO ?_;refine o.v1 cO ?_;refine o.aQ 2 ?_;refine c3 (G.t1 (fun c4=>G.L (fun c8=>?_)));refine o.V ?_;refine o.v1 eL (o.nil (c8 ?_));refine dw ?_;refine G.skip (c4 (G.region ?_));refine o.V ?_;refine o.v1 (Y.ai j.N rfl bt rfl ep) ?_;refine o.v1 (ar j.N.fO fi) ?_;refine o.V ?_;refine o.bR (Y.bL A (i) rfl fq ha rfl rfl) fun eN a4=>?_;refine o.v1 (Y.ai a4.N rfl jC rfl a_) ?_;refine o.v1 (Y.cast (v2:=bq t.i) (aT ((a4.N.drop 1).take 32) b_ a_ (by rw[kP];exact bB _)) ((by rw[aM];exact b6 (kP _)))) ?_;refine aW nv (n0 _ _ _ t.i w0 _ d (by rw[List.length_append,dT];omega)) (fun bf dW dJ=>?_);obtain⟨dK,b2,rfl,d,c9,a5⟩:=dJ;have cb:T L a9.size b2:=T.L (a3) c9 E.size;replace E:=E.aJ a5 (ag.J (aq.r a3));have eP:=a5.size;have C:=d.le;refine o.ak ?_;refine c1 (c0 (G.region ?_));refine o.V ?_;refine o.v1 bD ?_;refine o.ak ?_;refine aP.sub (cP (i+1,dK,b2,ys++cm 1 (UInt64.ofNat t.d.toNat)++t.i.1) _ ?_ ?_) ⟨rfl,rfl,rfl,(aD (by omega)),trivial⟩
   ·exact⟨(by omega),d,(by rw[nH b5,←aM,ab,j_];simp only[List.append_assoc]),cb,E⟩
   ·first|omega|(simp only;omega)|(simp;omega)
  ·
   obtain rfl:i=x.a6.length:=by omega
   rw[List.take_length]at ab;refine G.exit (cV (cR (aB ?_)));refine dF (G.L (fun cc=>?_));refine o.V ?_;refine o.v1 (Y.ai j.N rfl bt rfl b0) ?_;refine o.v1 (ar j.N.iu cj) ?_;refine aW pY (xU _ _ _ x.dn w0 _ d (by omega) dM) (fun gi eQ dL=>?_);have cd:=j.lt;obtain⟨eR,b3,rfl,d,bp,aQ⟩:=dL;have cg:af (I.size+1) b3:=af.app (aO) cd bp;have bs:T k I.size b3:=T.L (bQ) bp q.size;replace j:=j.ab aQ (ah.J aO);replace q:=q.aJ aQ (ag.J (aq.r bQ));have ek:=aQ.size;have C:=d.le;refine o.V ?_;refine o.v1 cO ?_;refine o.v1 cO ?_;refine o.aQ 2 ?_;refine cc (G.t1 (fun ck=>G.L (fun cn=>?_)));refine o.V ?_;refine o.v1 eL (o.nil (cn ?_));refine dw ?_;refine G.skip (ck (G.L (fun cr=>?_)));refine o.V ?_;refine o.v1 (Y.ai j.N rfl bt rfl b0) ?_;refine o.v1 (ar j.N.jB cj) ?_;refine aW pY (xU _ _ _ x.md w0 _ d (by rw[List.length_append,dT];omega) dN) (fun eS b4 c_=>?_);obtain⟨eT,bd,rfl,d,ct,aR⟩:=c_;have aI:T k I.size bd:=T.L (bs) ct q.size;replace j:=j.ab aR (ah.J cg);replace q:=q.aJ aR (ag.J (aq.r bs));have en:=aR.size;have C:=d.le;refine o.V ?_;refine o.v1 cO ?_;refine o.v1 cO ?_;refine o.aQ 2 ?_;refine cr (G.t2 (fun cu cv=>G.L (fun cw=>?_)));refine o.v1 (Y.ai j.N rfl bt rfl cX) ?_;refine o.v1 (ar j.N.k4 dA) (o.nil (cw ?_));refine cK (fun da=>?_) (fun da=>?_)
   ·
    refine G.L (fun cz=>?_);refine o.V ?_;refine o.aO (cT _ ([(1:UInt8)]) dC eE fK (rfl)) fun eW bR db=>?_;obtain⟨dR,aS,eo,cA⟩:=db;have dZ:bR.size=b4.size+1:=by rw[cA];simp
    replace d:=d.M aS;replace q:=q.bc aS;have et:=aS.size;refine o.aO (dQ d dR.rd dC (by simp[dT];omega) (by simp[dT];omega)) fun bS dl dc=>?_;obtain⟨bg,d,aX,aJ⟩:=dc;replace aX:T bd bR.size bg:=aX;replace aJ:=aJ.md;have cC:T k I.size bg:=T.L (aI) aX q.size;replace q:=q.aJ aJ (ag.J (aq.r aI));have eu:=aJ.size;have C:=d.le;obtain⟨de,rfl⟩:∃s:aN,bS=s.v:=⟨cl bS,d.bl.symm⟩;refine o.aQ 3 ?_;refine cz ?_;refine G.ret (cv (bm ?_));exact⟨de,bg,rfl,by rw[tL V,if_pos (by assumption),Fk];rw[ab]at d;simpa only[List.append_assoc]using d,cC,q⟩
   ·
    refine G.skip (cu (G.L (fun cD=>?_)));refine o.V ?_;refine o.aO (cT _ ([(0:UInt8)]) dC eE fK (rfl)) fun cF bU df=>?_;obtain⟨dS,aY,ev,cG⟩:=df;have d_:bU.size=b4.size+1:=by rw[cG];simp
    replace d:=d.M aY;replace q:=q.bc aY;have ew:=aY.size;refine o.aO (dQ d dS.rd dC (by simp[dT];omega) (by simp[dT];omega)) fun bV eX dg=>?_;obtain⟨bj,d,aZ,aL⟩:=dg;replace aZ:T bd bU.size bj:=aZ;replace aL:=aL.md;have cH:T k I.size bj:=T.L (aI) aZ q.size;replace q:=q.aJ aL (ag.J (aq.r aI));have ey:=aL.size;have C:=d.le;obtain⟨dh,rfl⟩:∃s:aN,bV=s.v:=⟨cl bV,d.bl.symm⟩;refine o.aQ 3 ?_;refine cD ?_;refine G.ret (bm ?_);exact⟨dh,bj,rfl,by rw[tL V,if_neg (by simp_all),Fj];rw[ab]at d;simpa only[List.append_assoc]using d,cH,q⟩
end mr

namespace ni
open E Go.RowKit eM eP e1 e7 ev eQ eR fC fD fI fS ga gz gq ke mr dz
set_option maxRecDepth 100000 in
theorem dC:c4 Tryz.prog 57 5 1 1:=⟨Tryz.underlying57,_,_,rfl,rfl,rfl,rfl,rfl⟩
abbrev mO(x:b1):UInt8:=if x.bE=true then 1 else 0
abbrev nG(x:b1):UInt8:=if x.al=true then 2 else 0
section
variable {H : Heap} {ad : Addr}
theorem _root_.Go.Proofs.YtfjmpninmdjcaaaGreatDoor.E.cg.rh{x:b1}(h:cg H ad (c_ x)):cg H ((ad.add 4).add 66) (jb x.q++[x.ct.v]):=by
 have:=h.rf.drop 66;rwa[List.drop_append_of_le_length (by rw[ee];omega),wA]at this
end
theorem wK(a b:Bool):[((if a=true then 1 else 0)+(if b=true then 2 else 0):UInt8)]=cm 1 ((if a=true then 1 else 0)|||(if b=true then 2 else 0)):=by
 cases a<;>cases b<;>decide+kernel
theorem Ex(x:b1)(w0:World)(I:Heap)
 (hm:bx I du 66 x.ei.v x.ml) (E:lb x) (aY:x.an.length≤140737488355328∧x.q.br.length≤140737488355328):
 aC Tryz.prog w0 118 #[dG x] I (fun r Q=>r= .bool false∧aj I Q):=by
 refine aC.aK [dG x] Tryz.func118 ?_;intro aH aE;have t:aj I I:=W.refl _ _;replace hm:=hm.bw;have aT:=hm.len;obtain⟨P,C⟩:∃b,b=(x.al&&decide (x.q.k≠0)):=⟨_,rfl⟩;have az:P=true→x.al=true∧x.q.k≠0:=fun h=>by rw[C,Bool.and_eq_true,decide_eq_true_eq]at h;exact h
 refine G.L (fun au=>?_);refine o.aO cq ?_;rintro v1 H1 ⟨rfl,j,A,aL,am⟩;have aQ:H1.size=I.size+1:=by rw[am];simp
 replace hm:=hm.M A;replace t:=t.L A;have aM:=A.size;replace j:Var 32 H1 I.size (c_ x):=j;refine o.ak ?_;refine au (G.t1 (fun ap=>G.L (fun ab=>?_)));refine o.v1 (Y.ai j.N rfl bu rfl cX) ?_;refine o.v1 (ar j.N dA) ?_;refine o.V ?_;refine o.join (d:=11) (v:= .bool false) 5 (fun L=>?_) ?_
 ·
  refine o.split (d:=6) rfl (fun g6=>?_) (fun g6=>?_)
  ·
   have aR:=E.an (by simpa using g6);refine o.ao (Y.ai j.N rfl bu rfl bP) ?_;refine o.ao (ar (j.N.drop 1) bN) ?_;refine o.ao (fB dP) ?_;refine o.ao ((eY).fm (by omega)) ?_;refine o.N ?_;exact L _ (congrArg (fun b=>some (Value.bool b)) (by simp[g6])) (ae (ae (ae (ae (ae (bC (congrArg Value.bool g6.symm)))))))
  ·
   refine o.ax 5 ?_;exact L _ (congrArg (fun b=>some (Value.bool b)) (by simp[g6])) (ae (ae (ae (ae (ae (bC (congrArg Value.bool g6.symm)))))))
 refine o.V ?_;refine o.ao (Y.ai j.N rfl bu rfl cX) ?_;refine o.ao (ar (j.N.drop 3) dA) ?_;refine o.bU ?_;refine o.join (d:=20) (v:= .bool P) 5 (fun F=>?_) ?_
 ·
  refine o.split (d:=15) rfl (fun ac=>?_) (fun ac=>?_)
  ·
   refine o.ao (Y.ai j.N rfl bu rfl cS) ?_;refine o.ao (Y.ai (j.N.drop 4) rfl bt rfl b0) ?_;refine o.ao (ar j.N.n4 cj) ?_;refine o.ao cU ?_;refine o.ao eh ?_;exact F _ (congrArg (fun b=>some (Value.bool b)) (by rw[C];simp[ac])) (ae (ae (ae (ae (ae (bC (congrArg Value.bool ac.symm)))))))
  ·
   refine o.ax 4 ?_;refine o.ao dH ?_;exact F _ (congrArg (fun b=>some (Value.bool b)) (by rw[C];simp[ac])) (ae (ae (ae (ae (ae (bC (congrArg Value.bool ac.symm)))))))
 refine o.bU ?_;refine o.join (d:=27) (v:= .bool false) 6 (fun K=>?_) ?_
 ·
  refine o.split (d:=21) rfl (fun k=>?_) (fun k=>?_)
  ·
   have O:=az (by simpa using k);have aB:=E.h6 O.1 O.2;have aW:=aB.br;refine o.ao (Y.ai j.N rfl bu rfl cS) ?_;refine o.ao (Y.ai (j.N.drop 4) rfl bt rfl bP) ?_;refine o.ao (ar (j.N.rf.drop 1) bN) ?_;refine o.ao (fB dP) ?_;refine o.ao ((eY).fm (by omega)) ?_;refine o.ao eh ?_;exact K _ (congrArg (fun b=>some (Value.bool b)) (by simp[k])) (ae (ae (ae (ae (ae (ae (bC (congrArg Value.bool k.symm))))))))
  ·
   refine o.ax 5 ?_;refine o.ao dH ?_;exact K _ (congrArg (fun b=>some (Value.bool b)) (by simp[k])) (ae (ae (ae (ae (ae (ae (bC (congrArg Value.bool k.symm))))))))
 refine o.dF ?_;refine o.nil (ab ?_);refine dw ?_;refine G.skip (ap (G.t1 (fun af=>G.L (fun ag=>?_))));refine o.ak ?_;refine ag (G.aB (fun _ ah _=>?_))
 refine G.bg (fun(i:(Nat))=>[(1,.pointer (some ⟨I.size,0,none⟩)),(3,.int .i64 (i:Int))])
  (fun(i:(Nat)) (H:Heap)=>(i≤x.ml.length)∧aj H1 H)
  (fun(i:(Nat))=>x.ml.length-i) 0 ⟨rfl,rfl,trivial⟩ ?_ ?_
 ·
  exact⟨(by omega),W.refl _ _⟩
 intro i aN ai aF ak al;obtain⟨aS,n⟩:=ai;replace hm:=hm.M n;replace j:=j.M n;replace t:=t.L n;have aO:=n.size;refine G.t2 (fun aq R=>G.L (fun S=>?_));refine o.V ?_;refine o.v1 (Y.ai j.N rfl bu rfl eo) ?_;refine o.v1 (ar (j.N.drop 2) eB) ?_;refine o.v1 (bb hm dI) ?_;refine o.v1 bJ (o.nil (S ?_));refine aU (fun T=>?_) (fun T=>?_)
 ·
  refine G.skip (aq (G.t1 (fun V=>G.aB (fun X _ _=>G.L (fun Z=>?_)))));refine o.v1 (Y.ai j.N rfl bu rfl eo) ?_;refine o.v1 (ar (j.N.drop 2) eB) ?_;refine o.V ?_;have ay:i<x.ml.length:=by omega
  obtain⟨y,B⟩:∃q,q=x.ml[i]:=⟨_,rfl⟩;have aA:y∈x.ml:=by rw[B];exact List.getElem_mem ay
  have aX:=E.iN y aA;refine o.bR (Y.bL hm (i) rfl dI dO rfl rfl) fun aJ M=>?_;refine o.v1 (Y.ai M.N rfl cC rfl bP) ?_;refine o.v1 (Y.cast (v2:=aI y.n) (ar (M.N.drop 0) bN) (by rw[B])) ?_;refine o.v1 (fB dP) ?_;refine o.v1 ((eY).fm (by omega)) ?_;refine o.V ?_;refine o.ao (Y.ai j.N rfl bu rfl eo) ?_;refine o.ao (ar (j.N.drop 2) eB) ?_;refine o.bU ?_;refine o.e (g:=fun ad=> .pointer (some ad)) (Y.bL hm (i) rfl dI dO rfl rfl) bd rfl rfl (fun aK N=>?_);refine o.ao (Y.ai N.N rfl cC rfl bP) ?_;refine o.ao (Y.cast (v2:=aI y.y) (ar (N.N.mV) bN) (by rw[B])) ?_;refine o.ao (fB dP) ?_;refine o.ao ((eY).fm (by omega)) ?_;refine o.dF ?_;refine o.nil (Z ?_);refine dw ?_;refine G.skip (X (V (G.region ?_)));refine o.V ?_;refine o.v1 bD ?_;refine o.ak ?_;refine aP.sub (ak (i+1) _ ?_ ?_) ⟨rfl,(aD (by omega)),trivial⟩
  ·exact⟨(by omega),n⟩
  ·first|omega|(simp only;omega)|(simp;omega)
 ·
  refine G.exit (R (al (ah ?_)));refine af (G.L (fun aa=>?_));refine o.ak ?_;refine aa ?_;refine G.ret (aE ?_);exact⟨rfl,t⟩
set_option maxHeartbeats 1600000 in
theorem C5(x:b1)(F:Nat→Prop)(w0:World)(I:Heap)
 (n:e2 F I x) (Q:bh F I.size) (K:lb x) (fC:x.an.length≤140737488355328∧x.q.br.length≤140737488355328):
 aC Tryz.prog w0 44 #[dG x] I (fun r bQ=>∃s2:aN,∃a8:Nat,r= .tuple #[s2.v,.int .i64 0]∧(aV a8 5 bQ a1 1 s2.v (fl x))∧(T 0 I.size a8)∧aj I bQ):=by
 refine aC.aK [dG x] Tryz.func44 ?_;intro fD fy;have t:aj I I:=W.refl _ _;have gE:=n.m.len;have gC:=n.e.len;have aK:=K.ml;have gB:=K.el;have fw:=pb K;obtain⟨c8,bO⟩:∃b,b=(x.al&&decide (x.q.k≠0)):=⟨_,rfl⟩;have fu:c8=true→x.al=true∧x.q.k≠0:=fun h=>by rw[bO,Bool.and_eq_true,decide_eq_true_eq]at h;exact h
 refine G.L (fun dZ=>?_);refine o.aO cq ?_;rintro v1 H1 ⟨rfl,j,bI,fX,d_⟩;have fG:H1.size=I.size+1:=by rw[d_];simp
 replace n:=n.M bI;replace t:=t.L bI;have fY:=bI.size;replace j:Var 32 H1 I.size (c_ x):=j;refine o.aQ 2 ?_;refine dZ (G.t1 (fun dE=>G.L (fun ea=>?_)));refine o.v1 (Y.ai j.N rfl bu rfl eo) ?_;refine o.v1 (ar (j.N.drop 2) eB) ?_;refine o.v1 (bb n.m dI) ?_;refine o.v1 ((eY).fm (by omega)) ?_;refine o.V ?_;refine o.ao (Y.ai j.N rfl bu rfl dv) ?_;refine o.ao (ar j.N.fX dV) ?_;refine o.ao (bb n.e cu) ?_;refine o.ao ((eY).fm (by omega)) ?_;refine o.ax 2 ?_;refine o.ao (Y.ai j.N rfl bu rfl cX) ?_;refine o.ao (ar (j.N.drop 3) dA) ?_;refine o.bU ?_;refine o.join (d:=27) (v:= .bool c8) 5 (fun bR=>?_) ?_
 ·
  refine o.split (d:=22) rfl (fun a5=>?_) (fun a5=>?_)
  ·
   refine o.ao (Y.ai j.N rfl bu rfl cS) ?_;refine o.ao (Y.ai (j.N.drop 4) rfl bt rfl b0) ?_;refine o.ao (ar j.N.n4 cj) ?_;refine o.ao cU ?_;refine o.ao eh ?_;exact bR _ (congrArg (fun b=>some (Value.bool b)) (by rw[bO];simp[a5])) (ae (ae (ae (ae (ae (bC (congrArg Value.bool a5.symm)))))))
  ·
   refine o.ax 4 ?_;refine o.ao dH ?_;exact bR _ (congrArg (fun b=>some (Value.bool b)) (by rw[bO];simp[a5])) (ae (ae (ae (ae (ae (bC (congrArg Value.bool a5.symm)))))))
 refine o.bU ?_;refine o.join (d:=34) (v:= .bool false) 6 (fun bS=>?_) ?_
 ·
  refine o.split (d:=28) rfl (fun a0=>?_) (fun a0=>?_)
  ·
   have B:=fu (by simpa using a0);have fx:=K.h6 B.1 B.2;have gJ:=fx.a6;refine o.ao (Y.ai j.N rfl bu rfl cS) ?_;refine o.ao (Y.ai (j.N.drop 4) rfl bt rfl ep) ?_;refine o.ao (ar j.N.rh fi) ?_;refine o.ao (bb n.q fq) ?_;refine o.ao ((eY).fm (by omega)) ?_;refine o.ao eh ?_;exact bS _ (congrArg (fun b=>some (Value.bool b)) (by simp[a0])) (ae (ae (ae (ae (ae (ae (bC (congrArg Value.bool a0.symm))))))))
  ·
   refine o.ax 5 ?_;refine o.ao dH ?_;exact bS _ (congrArg (fun b=>some (Value.bool b)) (by simp[a0])) (ae (ae (ae (ae (ae (ae (bC (congrArg Value.bool a0.symm))))))))
 refine o.dF ?_;refine o.nil (ea ?_);refine dw ?_;refine G.skip (dE (G.t1 (fun eb=>G.L (fun ec=>?_))));refine o.v1 (aT j.N fj ef (dg _)) ?_;refine aW A4 (Ex x w0 _ n.m.any K fC) (fun fZ bK cy=>?_);obtain⟨rfl,aS⟩:=cy;replace n:=n.M aS;replace j:=j.M aS;replace t:=t.L aS;have f_:=aS.size;refine o.nil (ec ?_);refine dw ?_;refine G.skip (eb (G.L (fun ed=>?_)));refine o.ak ?_;refine ed ?_
 refine G.cut (fun(_:Unit)=>[(1,.pointer (some ⟨I.size,0,none⟩)),(4,.int .u8 (mO x).toNat)])
  (fun(_:Unit) (H:Heap)=>(True)∧aj bK H) (fun _ cP _=>?_) ?_
 ·
  have bU:aj bK bK:=W.refl _ _;refine G.L (fun eg=>?_);refine o.v1 (Y.ai j.N rfl bu rfl cX) ?_;refine o.v1 (ar j.N dA) (o.nil (eg ?_));refine cK (fun eM=>?_) (fun eM=>?_)
  ·
   refine G.region ?_;refine o.ak ?_;refine aP.sub (cP () _ ?_) ⟨rfl,(by first|(rw[mO,if_pos (by assumption)];rfl)|(rw[mO,if_neg (by simp_all)];rfl)),trivial⟩;exact⟨trivial,bU⟩
  ·
   refine G.skip ?_;refine aP.sub (cP () _ ?_) ⟨rfl,(by first|(rw[mO,if_pos (by assumption)];rfl)|(rw[mO,if_neg (by simp_all)];rfl)),trivial⟩;exact⟨trivial,bU⟩
 ·
  intro _ bF de;obtain⟨fB,bc⟩:=de;replace n:=n.M bc;replace j:=j.M bc;replace t:=t.L bc;have ga:=bc.size
  refine G.cut (fun(_:Unit)=>[(1,.pointer (some ⟨I.size,0,none⟩)),(4,.int .u8 (mO x+nG x).toNat)])
   (fun(_:Unit) (H:Heap)=>(True)∧aj bF H) (fun _ cR _=>?_) ?_
  ·
   have bV:aj bF bF:=W.refl _ _;refine G.L (fun dF=>?_);refine o.v1 (Y.ai j.N rfl bu rfl cX) ?_;refine o.v1 (ar (j.N.drop 3) dA) (o.nil (dF ?_));refine cK (fun ff=>?_) (fun ff=>?_)
   ·
    refine G.region ?_;refine o.V ?_;refine o.v1 (Y.Af (b:=(UInt8.ofNat 2)) rfl rfl rfl) ?_;refine o.ak ?_;refine aP.sub (cR () _ ?_) ⟨rfl,(by first|(rw[nG,if_pos (by assumption)];rfl)|(rw[nG,if_neg (by simp_all),UInt8.add_zero];rfl)),trivial⟩;exact⟨trivial,bV⟩
   ·
    refine G.skip ?_;refine aP.sub (cR () _ ?_) ⟨rfl,(by first|(rw[nG,if_pos (by assumption)];rfl)|(rw[nG,if_neg (by simp_all),UInt8.add_zero];rfl)),trivial⟩;exact⟨trivial,bV⟩
  ·
   intro _ ac c9;obtain⟨fB,bd⟩:=c9;replace n:=n.M bd;replace j:=j.M bd;replace t:=t.L bd;have gb:=bd.size;refine G.L (fun dJ=>?_);refine o.V ?_;refine o.aO (cT _ ([mO x+nG x]) dC eE fK (rfl)) fun cV V bf=>?_;obtain⟨k,aX,dW,dK⟩:=bf;have fH:V.size=ac.size+1:=by rw[dK];simp
   have cW:=(ay.new (Q.mono t.size):ay _ (ac.size+1));have cZ:af (I.size+1) (ac.size+1):=af.new j.lt;have c0:T 0 I.size (ac.size+1):=T.new t.size;replace n:=n.M aX;replace j:=j.M aX;replace t:=t.L aX;have gd:=aX.size;obtain⟨dd,rfl⟩:∃s:aN,cV=s.v:=⟨cl cV,k.bl.symm⟩;refine o.ak ?_;refine dJ ?_
   refine G.cut (fun(Z:(aN)×(Nat))=>match Z with|(s1,ak)=>[(1,.pointer (some ⟨I.size,0,none⟩)),(5,s1.v)])
    (fun(s1,ak) (H:Heap)=>(aV ak 5 H a1 1 s1.v (jk x))∧(T (ac.size+1) V.size ak)∧W (aE [(ac.size+1)]) V H) (fun _ bX _=>?_) ?_
   ·
    have ap:W (aE [(ac.size+1)]) V V:=W.refl _ _;have bA:=T.refl (ac.size+1) V.size;refine G.L (fun dL=>?_);refine o.v1 (Y.ai j.N rfl bu rfl cX) ?_;refine o.v1 (ar j.N dA) (o.nil (dL ?_));refine cK (fun bk=>?_) (fun bk=>?_)
    ·
     refine G.region ?_;refine o.V ?_;refine o.v1 (Y.ai j.N rfl bu rfl bP) ?_;refine o.v1 (ar (j.N.drop 1) bN) ?_;refine aW oF (tV _ _ _ x.an w0 _ k (by simp) (by have:=K.an bk;omega)) (fun gf gg fg=>?_);obtain⟨gi,c1,rfl,k,dM,a9⟩:=fg;have dN:T (ac.size+1) V.size c1:=T.L (bA) dM ap.size;replace ap:=ap.aJ a9 (ag.J (aq.r bA));have gh:=a9.size;have L:=k.le;refine o.V ?_;refine o.v1 cO ?_;refine o.v1 cO ?_;refine o.ak ?_;refine aP.sub (bX (gi,c1) _ ?_) ⟨rfl,rfl,trivial⟩;exact⟨(by rw[jk,if_pos bk,qm,←wK];exact k),dN,ap⟩
    ·
     refine G.skip ?_;refine aP.sub (bX (dd,(ac.size+1)) _ ?_) ⟨rfl,rfl,trivial⟩;exact⟨(by rw[jk,if_neg (by simp[bk]),List.append_nil,qm,←wK];exact k),bA,ap⟩
   ·
    rintro⟨s1,ak⟩ fE da;obtain⟨k,C,au⟩:=da;have b7:=ay.app (cW) (Q.mono t.size) C;have ct:af (I.size+1) ak:=af.app (cZ) j.lt C;have cv:T 0 I.size ak:=T.L (c0) C t.size;replace n:=n.ab au (az.J cW);replace j:=j.ab au (ah.J cZ);replace t:=t.bo au (ag.J (aq.q c0));have gj:=au.size;have L:=k.le;refine G.L (fun dP=>?_);refine o.V ?_;refine o.v1 (Y.ai j.N rfl bu rfl eo) ?_;refine o.v1 (ar (j.N.drop 2) eB) ?_;refine o.v1 (bb n.m dI) ?_;refine o.v1 (Y.hA rfl gn gU rfl) ?_;refine aW lU (dz.l7 _ _ _ 2 _ w0 _ k (by decide) (by omega)) (fun bL a2 fh=>?_);have dQ:=j.lt;obtain⟨bL,R,rfl,k,bs,aY⟩:=fh;have cw:=ay.app (b7) (Q.mono t.size) bs;have bT:af (I.size+1) R:=af.app (ct) dQ bs;have be:T 0 I.size R:=T.L (cv) bs t.size;replace n:=n.ab aY (az.J b7);replace j:=j.ab aY (ah.J ct);replace t:=t.bo aY (ag.J (aq.q cv));have gk:=aY.size;have L:=k.le;obtain⟨fk,rfl⟩:∃s:aN,bL=s.v:=⟨cl bL,k.bl.symm⟩;refine o.ak ?_;refine dP (G.t1 (fun dR=>G.L (fun df=>?_)));refine o.ak ?_;refine df (G.aB (fun _ dh _=>?_))
    refine G.bg (fun(Z:(Nat)×(aN)×(Nat))=>match Z with|(i,al,M)=>[(1,.pointer (some ⟨I.size,0,none⟩)),(5,al.v),(6,.int .i64 (i:Int))])
     (fun(i,al,M) (H:Heap)=>(i≤x.ml.length)∧(aV M 5 H a1 1 al.v ((jk x++cm 2 (UInt64.ofNat x.ml.length)++(x.ml.take i).flatMap iO)))∧(T R a2.size M)∧W (aE [R]) a2 H)
     (fun(i,al,M)=>x.ml.length-i) (0,fk,R) ⟨rfl,rfl,rfl,trivial⟩ ?_ ?_
    ·
     exact⟨(by omega),(by simpa using k),T.refl _ _,W.refl _ _⟩
    rintro⟨i,al,M⟩ a3 fm gl di dj;obtain⟨fr,k,C,E⟩:=fm;have aF:=ay.app (cw) (Q.mono t.size) C;have aZ:af (I.size+1) M:=af.app (bT) j.lt C;have bw:T 0 I.size M:=T.L (be) C t.size;replace n:=n.ab E (az.J cw);replace j:=j.ab E (ah.J bT);replace t:=t.bo E (ag.J (aq.q be));have gm:=E.size;have L:=k.le;have bY:=C;have ft:=sV K i;have c4:(jk x++cm 2 (UInt64.ofNat x.ml.length)++(x.ml.take i).flatMap iO).length≤4400000000:=by simp only[List.length_append,dT];omega
    refine G.t2 (fun dk dm=>G.L (fun dp=>?_));refine o.V ?_;refine o.v1 (Y.ai j.N rfl bu rfl eo) ?_;refine o.v1 (ar (j.N.drop 2) eB) ?_;refine o.v1 (bb n.m dI) ?_;refine o.v1 bJ (o.nil (dp ?_));refine aU (fun fo=>?_) (fun fo=>?_)
    ·
     refine G.skip (dk (G.t1 (fun dq=>G.aB (fun dt _ _=>G.L (fun du=>?_)))));refine o.V ?_;refine o.v1 (Y.ai j.N rfl bu rfl eo) ?_;refine o.v1 (ar (j.N.drop 2) eB) ?_;refine o.V ?_;have aR:i<x.ml.length:=by omega
     obtain⟨y,N⟩:∃q,q=x.ml[i]:=⟨_,rfl⟩;have bn:y∈x.ml:=by rw[N];exact List.getElem_mem aR
     have gI:=K.iN y bn;refine o.bR (Y.bL n.m (i) rfl dI dO rfl rfl) fun gp cz=>?_;refine o.v1 (Y.ai cz.N rfl cC rfl bP) ?_;refine o.v1 (Y.cast (v2:=aI y.n) (ar (cz.N.drop 0) bN) (by rw[N])) ?_;refine aW oF (tV _ _ _ y.n w0 _ k (by omega) (by omega)) (fun d0 aQ dl=>?_);have dS:=j.lt;obtain⟨d1,a4,rfl,k,bx,aH⟩:=dl;have ab:=ay.app (aF) (Q.mono t.size) bx;have ai:af (I.size+1) a4:=af.app (aZ) dS bx;have bi:T R a2.size a4:=T.L (bY) bx E.size;replace n:=n.ab aH (az.J aF);replace j:=j.ab aH (ah.J aZ);replace t:=t.bo aH (ag.J (aq.q bw));replace E:=E.aJ aH (ag.J (aq.r bY));have cF:=aH.size;have L:=k.le;refine o.V ?_;refine o.v1 cO ?_;refine o.v1 cO ?_;refine o.ak ?_;refine du (G.t1 (fun eO=>?_));refine dx (fun P=>W (aE [a4]) aQ P) [] ?_;have A:W (aE [a4]) aQ aQ:=W.refl _ _;have cA:=T.refl a4 aQ.size;refine O.V 0 rfl A ?_;refine O.t1 1 rfl (fun P B=>Y.fieldAddr (j.ab B (ah.J ai)).N rfl bu rfl rfl eo (by decide) rfl) A ?_;refine O.t1 2 rfl (fun P B=>ar ((j.ab B (ah.J ai)).N.drop 2) eB) A ?_;refine O.V 3 rfl A ?_;refine O.e (g:=fun ad=> .pointer (some ad)) 4 (by kernel_rfl) rfl (by kernel_rfl) (by kernel_rfl) (by kernel_rfl) (Y.bL n.m (i) rfl dI dO rfl rfl) cQ rfl rfl A (fun dn aB=>?_);refine O.t1 5 rfl (fun P B=>Y.fieldAddr (aB.ab B (az.J ab)).N rfl cC rfl rfl a_ (by decide) rfl) A ?_;refine O.t1 6 rfl (fun P B=>Y.cast (v2:=bq y.J) (aT (((aB.ab B (az.J ab)).N.drop 1).take 32) b_ a_ (by rw[gY];exact bB _)) ((by rw[N];exact b6 (gY _)))) A ?_;refine O.t1 8 rfl (fun P B=>Y.fieldAddr (j.ab B (ah.J ai)).N rfl bu rfl rfl eo (by decide) rfl) A ?_;refine O.t1 9 rfl (fun P B=>ar ((j.ab B (ah.J ai)).N.drop 2) eB) A ?_;refine O.V 10 rfl A ?_;refine O.e (g:=fun ad=> .pointer (some ad)) 11 (by kernel_rfl) rfl (by kernel_rfl) (by kernel_rfl) (by kernel_rfl) (Y.bL n.m (i) rfl dI dO rfl rfl) cQ rfl rfl A (fun gq cD=>?_);refine O.t1 12 rfl (fun P B=>Y.fieldAddr (cD.ab B (az.J ab)).N rfl cC rfl rfl a_ (by decide) rfl) A ?_;refine O.t1 13 rfl (fun P B=>Y.cast (v2:=bq y.w) (aT (((cD.ab B (az.J ab)).N.drop 33).take 32) b_ a_ (by rw[e5];exact bB _)) ((by rw[N];exact b6 (e5 _)))) A ?_;refine O.aX 7 ?_;refine cf nv (n0 _ _ _ y.J w0 _ k (by rw[List.length_append,hc];omega)) (fun d2 bl fp=>?_);have eP:=j.lt;obtain⟨d3,aa,rfl,k,a6,aJ⟩:=fp;have eQ:=ay.app (ab) (Q.mono t.size) a6;have eR:af (I.size+1) aa:=af.app (ai) eP a6;have cG:T R a2.size aa:=T.L (bi) a6 E.size;have ce:T a4 aQ.size aa:=T.L (cA) a6 A.size;replace n:=n.ab aJ (az.J ab);replace j:=j.ab aJ (ah.J ai);replace E:=E.aJ aJ (ag.J (aq.r bi));replace A:=A.aJ aJ (ag.J (aq.r cA));have fJ:=aJ.size;have L:=k.le;refine O.b3 A (ag.J (aq.r ce)) ?_;have A:W (aE [aa]) bl bl:=W.refl _ _;have cH:=T.refl aa bl.size;refine O.aX 14 ?_;refine cf nv (n0 _ _ _ y.w w0 _ k (by rw[List.length_append,List.length_append,hc,y.J.2];omega)) (fun d4 c3 ds=>?_);obtain⟨d5,bG,rfl,k,cI,aL⟩:=ds;have cJ:T R a2.size bG:=T.L (cG) cI E.size;have eS:T aa bl.size bG:=T.L (cH) cI A.size;replace n:=n.ab aL (az.J eQ);replace j:=j.ab aL (ah.J eR);replace E:=E.aJ aL (ag.J (aq.r cG));replace A:=A.aJ aL (ag.J (aq.r cH));have gr:=aL.size;have L:=k.le;refine O.b3 A (ag.J (aq.r eS)) ?_;have A:W (aE [bG]) c3 c3:=W.refl _ _;refine O.t1 15 rfl (fun P B=>ej) A ?_;refine cx ?_;refine eO (G.region ?_);refine o.V ?_;refine o.v1 (Y.ai j.N rfl bu rfl eo) ?_;refine o.v1 (ar (j.N.drop 2) eB) ?_;refine o.V ?_;refine o.bR (Y.bL n.m (i) rfl dI dO rfl rfl) fun gu cL=>?_;refine o.v1 (Y.ai cL.N rfl cC rfl bP) ?_;refine o.v1 (Y.cast (v2:=aI y.y) (ar (cL.N.mV) bN) (by rw[N])) ?_;refine aW oF (HF _ _ _ y.y w0 _ k (by rw[List.length_append,List.length_append,List.length_append,hc,y.J.2,y.w.2];omega) (by omega)) (fun gv gx dU=>?_);obtain⟨ci,cM,rfl,k,dX,bZ⟩:=dU;have eT:T R a2.size cM:=T.L (cJ) dX E.size;replace E:=E.aJ bZ (ag.J (aq.r cJ));have gy:=bZ.size;have L:=k.le;refine o.V ?_;refine o.v1 cO ?_;refine o.v1 cO ?_;refine o.ak ?_;refine dt (dq (G.region ?_));refine o.V ?_;refine o.v1 bD ?_;refine o.ak ?_;refine aP.sub (di (i+1,ci,cM) _ ?_ ?_) ⟨rfl,rfl,(aD (by omega)),trivial⟩
     ·exact⟨(by omega),(by rw[nH aR,←N,iO];simpa only[List.append_assoc]using k),eT,E⟩
     ·first|omega|(simp only;omega)|(simp;omega)
    ·
     obtain rfl:i=x.ml.length:=by omega
     rw[List.take_length]at k c4;have fw:=pb K;refine G.exit (dm (dj (dh ?_)));refine dR ?_
     refine G.cut (fun(Z:(aN)×(Nat))=>match Z with|(bo,ic)=>[(1,.pointer (some ⟨I.size,0,none⟩)),(5,bo.v)])
      (fun(bo,ic) (H:Heap)=>(aV ic 5 H a1 1 bo.v (jh x))∧(T M a3.size ic)∧W (aE [M]) a3 H) (fun _ bv _=>?_) ?_
     ·
      have aO:W (aE [M]) a3 a3:=W.refl _ _;have bE:=T.refl M a3.size;refine G.L (fun eW=>?_);refine o.v1 (Y.ai j.N rfl bu rfl cX) ?_;refine o.v1 (ar (j.N.drop 3) dA) (o.nil (eW ?_));refine cK (fun aM=>?_) (fun aM=>?_)
      ·
       refine G.L (fun eZ=>?_);refine o.ak ?_;refine eZ (G.L (fun e0=>?_));refine o.V ?_;refine o.v1 (Y.ai j.N rfl bu rfl cS) ?_;refine o.v1 (Y.cast (v2:=er x.q) (aT ((j.N.drop 4).take 70) h9 cS (by rw[jc];exact ee _)) (b6 (jc x))) ?_;refine aW A6 (GW _ _ _ x.q F w0 _ k (by omega) n.q (Q.mono t.size) (aF) (K.kR aM) (K.h6 aM)) (fun gz gA e1=>?_);obtain⟨co,cN,rfl,k,dY,b2⟩:=e1;have e3:T M a3.size cN:=T.L (bE) dY aO.size;replace aO:=aO.aJ b2 (ag.J (aq.r bE));have fM:=b2.size;have L:=k.le;refine o.V ?_;refine o.v1 cO ?_;refine o.v1 cO ?_;refine o.aQ 2 ?_;refine e0 (G.L (fun e4=>?_));refine o.V ?_;refine o.v1 eL (o.nil (e4 ?_));refine dw ?_;refine G.skip ?_;refine aP.sub (bv (co,cN) _ ?_) ⟨rfl,rfl,trivial⟩;exact⟨(by rw[jh,if_pos aM];exact k),e3,aO⟩
      ·
       refine G.skip ?_;refine aP.sub (bv (al,M) _ ?_) ⟨rfl,rfl,trivial⟩;exact⟨(by rw[jh,if_neg (by simp[aM]),List.append_nil];exact k),bE,aO⟩
     ·
      rintro⟨bo,ic⟩ fF dc;obtain⟨k,C,ba⟩:=dc;have b8:=ay.app (aF) (Q.mono t.size) C;have b9:af (I.size+1) ic:=af.app (aZ) j.lt C;have ca:T 0 I.size ic:=T.L (bw) C t.size;replace n:=n.ab ba (az.J aF);replace j:=j.ab ba (ah.J aZ);replace t:=t.bo ba (ag.J (aq.q bw));have fN:=ba.size;have L:=k.le;refine G.L (fun e6=>?_);refine o.V ?_;refine o.v1 (Y.ai j.N rfl bu rfl dv) ?_;refine o.v1 (ar j.N.fX dV) ?_;refine o.v1 (bb n.e cu) ?_;refine o.v1 (Y.hA rfl gn gU rfl) ?_;refine aW lU (dz.l7 _ _ _ 2 _ w0 _ k (by decide) (by have:=qH K;omega)) (fun bz a7 cs=>?_);have e7:=j.lt;obtain⟨bz,X,rfl,k,bp,bg⟩:=cs;have cb:=ay.app (b8) (Q.mono t.size) bp;have cc:af (I.size+1) X:=af.app (b9) e7 bp;have cd:T 0 I.size X:=T.L (ca) bp t.size;replace n:=n.ab bg (az.J b8);replace j:=j.ab bg (ah.J b9);replace t:=t.bo bg (ag.J (aq.q ca));have fO:=bg.size;have L:=k.le;obtain⟨bm,rfl⟩:∃s:aN,bz=s.v:=⟨cl bz,k.bl.symm⟩;refine o.ak ?_;refine e6 (G.t1 (fun dr=>G.L (fun e8=>?_)));refine o.ak ?_;refine e8 (G.aB (fun _ e9 _=>?_))
      refine G.bg (fun(Z:(Nat)×(aN)×(Nat))=>match Z with|(i,aA,S)=>[(1,.pointer (some ⟨I.size,0,none⟩)),(5,aA.v),(8,.int .i64 (i:Int))])
       (fun(i,aA,S) (H:Heap)=>(i≤x.el.length)∧(aV S 5 H a1 1 aA.v (jh x++cm 2 (UInt64.ofNat x.el.length)++(x.el.take i).flatMap iM))∧(T X a7.size S)∧W (aE [X]) a7 H)
       (fun(i,aA,S)=>x.el.length-i) (0,bm,X) ⟨rfl,rfl,rfl,trivial⟩ ?_ ?_
      ·
       exact⟨(by omega),(by simpa using k),T.refl _ _,W.refl _ _⟩
      rintro⟨i,aA,S⟩ d6 fe d7 e_ fc;obtain⟨fr,k,C,am⟩:=fe;have ei:=ay.app (cb) (Q.mono t.size) C;have ek:af (I.size+1) S:=af.app (cc) j.lt C;have en:T 0 I.size S:=T.L (cd) C t.size;replace n:=n.ab am (az.J cb);replace j:=j.ab am (ah.J cc);replace t:=t.bo am (ag.J (aq.q cd));have fP:=am.size;have L:=k.le;have cg:=C;have ft:=vY K i;have gG:=qH K;have gD:=K.el;have c4:(jh x++cm 2 (UInt64.ofNat x.el.length)++(x.el.take i).flatMap iM).length≤8800000000:=by simp only[List.length_append,dT];omega
      refine G.t2 (fun et eu=>G.L (fun ev=>?_));refine o.V ?_;refine o.v1 (Y.ai j.N rfl bu rfl dv) ?_;refine o.v1 (ar j.N.fX dV) ?_;refine o.v1 (bb n.e cu) ?_;refine o.v1 bJ (o.nil (ev ?_));refine aU (fun ew=>?_) (fun ew=>?_)
      ·
       refine G.skip (et (G.t1 (fun ey=>G.aB (fun ez _ _=>G.L (fun eA=>?_)))));refine o.V ?_;refine o.v1 (Y.ai j.N rfl bu rfl dv) ?_;refine o.v1 (ar j.N.fX dV) ?_;refine o.V ?_;have aR:i<x.el.length:=by omega
       obtain⟨y,N⟩:∃q,q=x.el[i]:=⟨_,rfl⟩;have bn:y∈x.el:=by rw[N];exact List.getElem_mem aR
       have gH:=K.md y bn;refine o.bR (Y.bL n.e (i) rfl cu ck rfl rfl) fun fI b3=>?_;refine o.v1 (Y.ai b3.N rfl eX rfl a_) ?_;refine o.v1 (Y.cast (v2:=bq y.k) (aT ((b3.N.drop 0).take 32) b_ a_ (by rw[eN];exact bB _)) ((by rw[N];exact b6 (eN _)))) ?_;refine aW nv (n0 _ _ _ y.k w0 _ k (by omega)) (fun fQ fR eC=>?_);obtain⟨fS,eF,rfl,k,dy,bj⟩:=eC;have cn:T X a7.size eF:=T.L (cg) dy am.size;replace n:=n.ab bj (az.J ei);replace j:=j.ab bj (ah.J ek);replace am:=am.aJ bj (ag.J (aq.r cg));have fT:=bj.size;have L:=k.le;refine o.ak ?_;refine eA (G.region ?_);refine o.V ?_;refine o.v1 (Y.ai j.N rfl bu rfl dv) ?_;refine o.v1 (ar j.N.fX dV) ?_;refine o.V ?_;refine o.bR (Y.bL n.e (i) rfl cu ck rfl rfl) fun fL b4=>?_;refine o.v1 (Y.ai b4.N rfl eX rfl db) ?_;refine o.v1 (Y.cast (v2:=y.v.v) (ar (b4.N.ji) eD) (by rw[N])) ?_;refine o.v1 (Y.nt (n.d y bn) rfl Tryz.underlying57 Tryz.underlying9 Tryz.underlying5 rfl) ?_;refine aW oF (HG _ _ _ y.d w0 _ k (by rw[List.length_append,y.k.2];omega) (by omega)) (fun fU fV eG=>?_);obtain⟨eH,cr,rfl,k,dD,b5⟩:=eG;have eJ:T X a7.size cr:=T.L (cn) dD am.size;replace am:=am.aJ b5 (ag.J (aq.r cn));have fW:=b5.size;have L:=k.le;refine o.V ?_;refine o.v1 cO ?_;refine o.v1 cO ?_;refine o.ak ?_;refine ez (ey (G.region ?_));refine o.V ?_;refine o.v1 bD ?_;refine o.ak ?_;refine aP.sub (e_ (i+1,eH,cr) _ ?_ ?_) ⟨rfl,rfl,(aD (by omega)),trivial⟩
       ·exact⟨(by omega),(by rw[nH aR,←N,iM];simpa only[List.append_assoc]using k),eJ,am⟩
       ·first|omega|(simp only;omega)|(simp;omega)
      ·
       obtain rfl:i=x.el.length:=by omega
       rw[List.take_length]at k;refine G.exit (eu (fc (e9 ?_)));refine dr (G.L (fun eK=>?_));refine o.aQ 3 ?_;refine eK ?_;refine G.ret (fy ?_);exact⟨aA,S,rfl,by rw[v8];exact k,en,t⟩
end ni

namespace mu
open E Go.RowKit eM eP e1 e7 ev eQ eR fC fD fI fS ga gz gq ke mr ni dz
def gH(l:List bF):Nat:=(l.map (fun m=>m.n.length+m.y.length)).sum
def hn(l:List bA):Nat:=(l.map (fun x=>x.d.length)).sum
theorem Fc{l:List bF}{i:Nat}(h:i<l.length):gH (l.take (i+1))=gH (l.take i)+(l[i].n.length+l[i].y.length):=by
 unfold gH;rw[List.take_succ_eq_append_getElem h,List.map_append,List.sum_append];simp only[List.map_cons,List.map_nil,List.sum_cons,List.sum_nil,Nat.add_zero]
theorem Fa{l:List bA}{i:Nat}(h:i<l.length):hn (l.take (i+1))=hn (l.take i)+l[i].d.length:=by
 unfold hn;rw[List.take_succ_eq_append_getElem h,List.map_append,List.sum_append];simp only[List.map_cons,List.map_nil,List.sum_cons,List.sum_nil,Nat.add_zero]
structure pJ (t:b1):Prop where
 an:t.an.length≤140737488355328
 br:t.q.br.length≤140737488355328
 ei:∀m∈t.ml,m.n.length≤140737488355328∧m.y.length≤140737488355328
 md:∀x∈t.el,x.d.length≤140737488355328
def mW(t:b1):Nat:=t.an.length+t.q.br.length+gH t.ml+hn t.el
def iw(t:b1):Prop:=mW t<20000∧t.ml.length<40∧t.el.length<40∧t.q.a6.length<200
instance (t:b1):Decidable (iw t):=by unfold iw;exact inferInstance
theorem Fe{l:List bF}(h:∀m∈l,m.n.length≤140737488355328∧m.y.length≤140737488355328):gH l≤281474976710656*l.length:=by
 induction l with
 |nil=>simp[gH]
 |cons x l ih=>
  have d:=h x List.mem_cons_self;have U:=ih (fun m hm=>h m (List.mem_cons_of_mem _ hm));unfold gH at U⊢;simp only[List.map_cons,List.sum_cons,List.length_cons];omega
theorem Fb{l:List bA}(h:∀x∈l,x.d.length≤140737488355328):hn l≤140737488355328*l.length:=by
 induction l with
 |nil=>simp[hn]
 |cons x l ih=>
  have d:=h x List.mem_cons_self;have U:=ih (fun m hm=>h m (List.mem_cons_of_mem _ hm));unfold hn at U⊢;simp only[List.map_cons,List.sum_cons,List.length_cons];omega
theorem s3:∀{l:List bF} {m:bF},m∈l→m.n.length+m.y.length≤gH l
 |x::l,m,h=>by
  unfold gH;simp only[List.map_cons,List.sum_cons];rcases List.mem_cons.1 h with rfl|h
  ·omega
  ·have:=s3 h;unfold gH at this;omega
theorem xP:∀{l:List bA} {x:bA},x∈l→x.d.length≤hn l
 |y::l,x,h=>by
  unfold hn;simp only[List.map_cons,List.sum_cons];rcases List.mem_cons.1 h with rfl|h
  ·omega
  ·have:=xP h;unfold hn at this;omega
theorem xO:∀(l:List bF),(l.flatMap iO).length=67*l.length+gH l
 |[]=>rfl
 |x::l=>by
  have:=xO l;rw[List.flatMap_cons,List.length_append,nT,this];unfold gH;simp only[List.map_cons,List.sum_cons,List.length_cons];omega
theorem xC:∀(l:List bA),(l.flatMap iM).length=36*l.length+hn l
 |[]=>rfl
 |x::l=>by
  have:=xC l;rw[List.flatMap_cons,List.length_append,xA,this];unfold hn;simp only[List.map_cons,List.sum_cons,List.length_cons];omega
theorem Hj(q:cZ):(j9 q).length≤100+q.br.length+33*q.a6.length:=by
 have d:=mP (f:=j_) (n:=33) (l:=q.a6) (fun x _=>by rw[ra];omega);unfold j9;split<;>simp only[List.length_append,dT,hc,q.bX.2,q.bm.2,List.length_nil]<;>omega
theorem Di{t:b1}(h:iw t):(fl t).length≤31000:=by
 obtain⟨i,U,k,n⟩:=h;have aK:=xO t.ml;have d:=xC t.el;have j:=Hj t.q;unfold mW at i;unfold fl;simp only[List.length_append,dT,aK,d];split<;>split<;>simp only[List.length_append,dT,hc,List.length_nil]<;>omega
theorem lp{t:b1}(h:iw t):lh t:=by
 have k:=Di h;obtain⟨d,U,i,j⟩:=h;unfold mW at d;exact⟨by omega,by omega,fun m hm=>by have:=s3 hm;omega,fun m hm=>by have:=s3 hm;omega,by omega,by omega,by omega,by omega⟩
set_option maxHeartbeats 1600000 in
theorem wC(x:b1)(w0:World)(I:Heap)
 (hm:bx I du 66 x.ei.v x.ml) (j:bx I c2 33 x.q.cd.v x.q.a6) (he:bx I bO 33 x.ct.v x.el) (an:∀y∈x.el,bx I a1 1 y.v.v y.d) (hw:pJ x):
 aC Tryz.prog w0 13 #[dG x] I (fun r ag=>r= .bool (decide (iw x))∧aj I ag):=by
 refine aC.aK [dG x] Tryz.func13 ?_;intro bh bd;have A:aj I I:=W.refl _ _;replace hm:=hm.bw;replace j:=j.bw;replace he:=he.bw;replace an:=fun y B=>(an y B).bw;have bE:=hm.len;have bA:=j.len;have bs:=he.len;have ao:=hw.an;have bF:=hw.br;refine G.L (fun ai=>?_);refine o.aO cq ?_;rintro v1 H1 ⟨rfl,i,ac,bn,ak⟩;have bj:H1.size=I.size+1:=by rw[ak];simp
 replace hm:=hm.M ac;replace j:=j.M ac;replace he:=he.M ac;replace an:=fun y B=>(an y B).M ac;replace A:=A.L ac;have bo:=ac.size;replace i:Var 32 H1 I.size (c_ x):=i;refine o.ak ?_;refine ai (G.L (fun al=>?_));refine o.v1 (Y.ai i.N rfl bu rfl bP) ?_;refine o.v1 (ar (i.N.drop 1) bN) ?_;refine o.v1 (fB dP) ?_;refine o.v1 (Y.ai i.N rfl bu rfl cS) ?_;refine o.v1 (Y.ai (i.N.drop 4) rfl bt rfl bP) ?_;refine o.v1 (ar (i.N.rf.drop 1) bN) ?_;refine o.v1 (fB dP) ?_;refine o.v1 (Y.cast (v2:= .int .i64 (x.an.length+x.q.br.length:Nat)) bD (fM (by omega))) ?_;refine o.ak ?_;refine al (G.t1 (fun aq=>G.L (fun ay=>?_)));refine o.ak ?_;refine ay (G.aB (fun _ az _=>?_))
 refine G.bg (fun(i1:(Nat))=>[(1,.pointer (some ⟨I.size,0,none⟩)),(3,.int .i64 ((x.an.length+x.q.br.length+gH (x.ml.take i1)):Nat)),(4,.int .i64 (i1:Int))])
  (fun(i1:(Nat)) (H:Heap)=>(i1≤x.ml.length∧i1≤40)∧aj H1 H)
  (fun(i1:(Nat))=>x.ml.length-i1) 0 ⟨rfl,(by simp[gH,cL]),rfl,trivial⟩ ?_ ?_
 ·
  exact⟨(by omega),W.refl _ _⟩
 intro i1 aA aB bg aE aF;obtain⟨bw,k⟩:=aB;replace hm:=hm.M k;replace j:=j.M k;replace he:=he.M k;replace an:=fun y B=>(an y B).M k;replace i:=i.M k;replace A:=A.L k;have bp:=k.size;have ba:=Fe (l:=x.ml.take i1) (fun m hm=>hw.ei m (List.mem_of_mem_take hm));rw[List.length_take]at ba;refine G.t2 (fun aH aJ=>G.L (fun aL=>?_));refine o.V ?_;refine o.v1 (Y.ai i.N rfl bu rfl eo) ?_;refine o.v1 (ar (i.N.drop 2) eB) ?_;refine o.v1 (bb hm dI) ?_;refine o.v1 bJ ?_;refine o.V ?_;refine o.join (d:=22) (v:= .bool (decide ((i1:Int)<x.ml.length∧(i1:Int)<40))) 3 (fun O=>?_) ?_
 ·
  refine o.bj (d:=19) rfl (fun C=>?_) (fun C=>?_)
  ·
   refine o.bU ?_;refine o.ao bJ ?_;refine o.N ?_;exact O _ (congrArg (fun b=>some (Value.bool b)) (by simp[C])) (ae (ae (ae (bC (congrArg Value.bool (decide_eq_true C).symm)))))
  ·
   refine o.ax 3 ?_;exact O _ (congrArg (fun b=>some (Value.bool b)) (by simp[C])) (ae (ae (ae (bC (congrArg Value.bool (decide_eq_false C).symm)))))
 refine o.nil (aL ?_);refine aU (fun aM=>?_) (fun aM=>?_)
 ·
  refine G.skip (aH (G.t1 (fun aN=>G.aB (fun am _ _=>?_))));refine hf ?_;refine o.V ?_;refine o.v1 (Y.ai i.N rfl bu rfl eo) ?_;refine o.v1 (ar (i.N.drop 2) eB) ?_;refine o.V ?_;have L:i1<x.ml.length:=by omega
  obtain⟨y,t⟩:∃q,q=x.ml[i1]:=⟨_,rfl⟩;have M:y∈x.ml:=by rw[t];exact List.getElem_mem L
  have bf:=hw.ei y M;refine o.bR (Y.bL hm (i1) rfl dI dO rfl rfl) fun bk T=>?_;refine o.v1 (Y.ai T.N rfl cC rfl bP) ?_;refine o.v1 (Y.cast (v2:=aI y.n) (ar (T.N.drop 0) bN) (by rw[t])) ?_;refine o.v1 (fB dP) ?_;refine o.v1 (Y.cast (v2:= .int .i64 ((x.an.length+x.q.br.length+gH (x.ml.take i1))+y.n.length:Nat)) bD (fM (by omega))) ?_;refine o.v1 (Y.ai i.N rfl bu rfl eo) ?_;refine o.v1 (ar (i.N.drop 2) eB) ?_;refine o.V ?_;refine o.bR (Y.bL hm (i1) rfl dI dO rfl rfl) fun bl V=>?_;refine o.v1 (Y.ai V.N rfl cC rfl bP) ?_;refine o.v1 (Y.cast (v2:=aI y.y) (ar (V.N.mV) bN) (by rw[t])) ?_;refine o.v1 (fB dP) ?_;refine o.v1 (Y.cast (v2:= .int .i64 ((x.an.length+x.q.br.length+gH (x.ml.take (i1+1))):Nat)) bD (fM (by rw[Fc L,←t];omega))) ?_;refine o.ak ?_;refine am (aN (G.region ?_));refine o.V ?_;refine o.v1 bD ?_;refine o.ak ?_;refine aP.sub (aE (i1+1) _ ?_ ?_) ⟨rfl,(aD (by omega)),(aD (by omega)),trivial⟩
  ·exact⟨(by omega),k⟩
  ·first|omega|(simp only;omega)|(simp;omega)
 ·
  have ab:x.ml.length<40→i1=x.ml.length:=fun a_=>by omega
  refine G.exit (aJ (aF (az ?_)));refine aq (G.t1 (fun aR=>G.L (fun ap=>?_)));refine o.ak ?_;refine ap (G.aB (fun _ aS _=>?_))
  refine G.bg (fun(i2:(Nat))=>[(1,.pointer (some ⟨I.size,0,none⟩)),(3,.int .i64 (((x.an.length+x.q.br.length+gH (x.ml.take i1))+hn (x.el.take i2)):Nat)),(5,.int .i64 (i2:Int))])
   (fun(i2:(Nat)) (H:Heap)=>(i2≤x.el.length∧i2≤40)∧aj aA H)
   (fun(i2:(Nat))=>x.el.length-i2) 0 ⟨rfl,(by simp[hn,cL]),rfl,trivial⟩ ?_ ?_
  ·
   exact⟨(by omega),W.refl _ _⟩
  intro i2 bq aO a0 aT aW;obtain⟨bz,n⟩:=aO;replace hm:=hm.M n;replace j:=j.M n;replace he:=he.M n;replace an:=fun y B=>(an y B).M n;replace i:=i.M n;replace A:=A.L n;have b2:=n.size;have bc:=Fb (l:=x.el.take i2) (fun m hm=>hw.md m (List.mem_of_mem_take hm));rw[List.length_take]at bc;refine G.t2 (fun aX aY=>G.L (fun aZ=>?_));refine o.V ?_;refine o.v1 (Y.ai i.N rfl bu rfl dv) ?_;refine o.v1 (ar i.N.fX dV) ?_;refine o.v1 (bb he cu) ?_;refine o.v1 bJ ?_;refine o.V ?_;refine o.join (d:=50) (v:= .bool (decide ((i2:Int)<x.el.length∧(i2:Int)<40))) 3 (fun P=>?_) ?_
  ·
   refine o.bj (d:=47) rfl (fun E=>?_) (fun E=>?_)
   ·
    refine o.bU ?_;refine o.ao bJ ?_;refine o.N ?_;exact P _ (congrArg (fun b=>some (Value.bool b)) (by simp[E])) (ae (ae (ae (bC (congrArg Value.bool (decide_eq_true E).symm)))))
   ·
    refine o.ax 3 ?_;exact P _ (congrArg (fun b=>some (Value.bool b)) (by simp[E])) (ae (ae (ae (bC (congrArg Value.bool (decide_eq_false E).symm)))))
  refine o.nil (aZ ?_);refine aU (fun aQ=>?_) (fun aQ=>?_)
  ·
   refine G.skip (aX (G.t1 (fun a6=>G.aB (fun a7 _ _=>G.region ?_))));refine o.V ?_;refine o.v1 (Y.ai i.N rfl bu rfl dv) ?_;refine o.v1 (ar i.N.fX dV) ?_;refine o.V ?_;have L:i2<x.el.length:=by omega
   obtain⟨y,t⟩:∃q,q=x.el[i2]:=⟨_,rfl⟩;have M:y∈x.el:=by rw[t];exact List.getElem_mem L
   have bf:=hw.md y M;refine o.bR (Y.bL he (i2) rfl cu ck rfl rfl) fun bm X=>?_;refine o.v1 (Y.ai X.N rfl eX rfl db) ?_;refine o.v1 (Y.cast (v2:=y.v.v) (ar (X.N.ji) eD) (by rw[t])) ?_;refine o.v1 (bb (an y M) dc) ?_;refine o.v1 (Y.cast (v2:= .int .i64 (((x.an.length+x.q.br.length+gH (x.ml.take i1))+hn (x.el.take (i2+1))):Nat)) bD (fM (by rw[Fa L,←t];omega))) ?_;refine o.ak ?_;refine a7 (a6 (G.region ?_));refine o.V ?_;refine o.v1 bD ?_;refine o.ak ?_;refine aP.sub (aT (i2+1) _ ?_ ?_) ⟨rfl,(aD (by omega)),(aD (by omega)),trivial⟩
   ·exact⟨(by omega),n⟩
   ·first|omega|(simp only;omega)|(simp;omega)
  ·
   have af:x.el.length<40→i2=x.el.length:=fun a_=>by omega
   refine G.exit (aY (aW (aS ?_)));refine aR (G.L (fun ah=>?_));refine o.V ?_;refine o.v1 bJ ?_;refine o.V ?_;refine o.join (d:=69) (v:= .bool (decide (((((x.an.length+x.q.br.length+gH (x.ml.take i1))+hn (x.el.take i2)):Nat):Int)<20000∧(x.ml.length:Int)<40))) 5 (fun Q=>?_) ?_
   ·
    refine o.bj (d:=64) rfl (fun F=>?_) (fun F=>?_)
    ·
     refine o.ao (Y.ai i.N rfl bu rfl eo) ?_;refine o.ao (ar (i.N.drop 2) eB) ?_;refine o.ao (bb hm dI) ?_;refine o.ao bJ ?_;refine o.N ?_;exact Q _ (congrArg (fun b=>some (Value.bool b)) (decide_eq_decide.2 ⟨fun h=>⟨F,h⟩,fun h=>h.2⟩)) (ae (ae (ae (ae (ae (bC (congrArg Value.bool (decide_eq_true F).symm)))))))
    ·
     refine o.ax 5 ?_;exact Q _ (congrArg (fun b=>some (Value.bool b)) ((decide_eq_false (fun h=>F h.1)).symm)) (ae (ae (ae (ae (ae (bC (congrArg Value.bool (decide_eq_false F).symm)))))))
   refine o.V ?_;refine o.join (d:=75) (v:= .bool (decide ((((((x.an.length+x.q.br.length+gH (x.ml.take i1))+hn (x.el.take i2)):Nat):Int)<20000∧(x.ml.length:Int)<40)∧(x.el.length:Int)<40))) 5 (fun R=>?_) ?_
   ·
    refine o.bj (d:=70) rfl (fun K=>?_) (fun K=>?_)
    ·
     refine o.ao (Y.ai i.N rfl bu rfl dv) ?_;refine o.ao (ar i.N.fX dV) ?_;refine o.ao (bb he cu) ?_;refine o.ao bJ ?_;refine o.N ?_;exact R _ (congrArg (fun b=>some (Value.bool b)) (decide_eq_decide.2 ⟨fun h=>⟨K,h⟩,fun h=>h.2⟩)) (ae (ae (ae (ae (ae (bC (congrArg Value.bool (decide_eq_true K).symm)))))))
    ·
     refine o.ax 5 ?_;exact R _ (congrArg (fun b=>some (Value.bool b)) ((decide_eq_false (fun h=>K h.1)).symm)) (ae (ae (ae (ae (ae (bC (congrArg Value.bool (decide_eq_false K).symm)))))))
   refine o.V ?_;refine o.join (d:=82) (v:= .bool (decide (((((((x.an.length+x.q.br.length+gH (x.ml.take i1))+hn (x.el.take i2)):Nat):Int)<20000∧(x.ml.length:Int)<40)∧(x.el.length:Int)<40)∧(x.q.a6.length:Int)<200))) 6 (fun S=>?_) ?_
   ·
    refine o.bj (d:=76) rfl (fun au=>?_) (fun au=>?_)
    ·
     refine o.ao (Y.ai i.N rfl bu rfl cS) ?_;refine o.ao (Y.ai (i.N.drop 4) rfl bt rfl ep) ?_;refine o.ao (ar i.N.rh fi) ?_;refine o.ao (bb j fq) ?_;refine o.ao bJ ?_;refine o.N ?_;exact S _ (congrArg (fun b=>some (Value.bool b)) (decide_eq_decide.2 ⟨fun h=>⟨au,h⟩,fun h=>h.2⟩)) (ae (ae (ae (ae (ae (ae (bC (congrArg Value.bool (decide_eq_true au).symm))))))))
    ·
     refine o.ax 6 ?_;exact S _ (congrArg (fun b=>some (Value.bool b)) ((decide_eq_false (fun h=>au h.1)).symm)) (ae (ae (ae (ae (ae (ae (bC (congrArg Value.bool (decide_eq_false au).symm))))))))
   refine o.ak ?_;refine ah ?_;refine G.ret (bd ?_)
   exact⟨congrArg Value.bool (decide_eq_decide.2 (by
    unfold iw mW;constructor
    ·rintro⟨⟨⟨Z,U⟩,aa⟩,a8⟩
     have aK:=ab (by omega);have N:=af (by omega);rw[aK,N,List.take_length,List.take_length]at Z;omega
    ·rintro⟨Z,U,aa,a8⟩
     have aK:=ab U;have N:=af aa;rw[aK,N,List.take_length,List.take_length];omega)),A⟩
end mu

namespace rE
open E Go.RowKit eM eP e1 e7 ev eQ eR fC fD fI fS ga gz gq hG ke mr ni mu dz
set_option maxRecDepth 100000 in
theorem qu:c4 Tryz.prog 24 52 66 96:=⟨Tryz.underlying24,_,_,rfl,rfl,rfl,rfl,rfl⟩
set_option maxRecDepth 100000 in
theorem l0:c4 Tryz.prog 27 129 33 40:=⟨Tryz.underlying27,_,_,rfl,rfl,rfl,rfl,rfl⟩
set_option maxRecDepth 100000 in
theorem iJ:c4 Tryz.prog 30 68 33 56:=⟨Tryz.underlying30,_,_,rfl,rfl,rfl,rfl,rfl⟩
set_option maxRecDepth 100000 in
theorem dC:c4 Tryz.prog 57 5 1 1:=⟨Tryz.underlying57,_,_,rfl,rfl,rfl,rfl,rfl⟩
section
variable {x : b1}
theorem Hk{q:cZ}(s:aN)(l:List fE):(dX q).set 66 s.v=dX {q with cd:=s,a6:=l}:=by
 show Value.int .i64 q.k::aI q.br::((b7 q.bX++(b7 q.bm++jb q)).set 64 s.v)=_;rw[List.set_append_right _ _ (by rw[bB];omega),List.set_append_right _ _ (by rw[bB,bB];omega),bB,bB];rfl
theorem HN(s:aN)(l:List bF):(c_ x).set 2 s.v=c_ {x with ei:=s,ml:=l}:=rfl
theorem HO(s:aN)(l:List fE):(c_ x).set 70 s.v=c_ {x with q:={x.q with cd:=s,a6:=l}}:=by
 show Value.bool x.bE::aI x.an::x.ei.v:: .bool x.al::((dX x.q++[x.ct.v]).set 66 s.v)=_;rw[List.set_append_left _ _ (by rw[ee];omega),Hk (l:=l)];rfl
theorem HM(s:aN)(l:List bA):(c_ x).set 74 s.v=c_ {x with ct:=s,el:=l}:=by
 show Value.bool x.bE::aI x.an::x.ei.v:: .bool x.al::((dX x.q++[x.ct.v]).set 70 s.v)=_;rw[List.set_append_right _ _ (by rw[ee];omega),ee];rfl
end
structure jL (F:Nat→Prop) (H:Heap) (t:b1):Prop where
 q:Rd F H c2 33 t.q.cd.v t.q.a6
 e:Rd F H bO 33 t.ct.v t.el
 d:∀y∈t.el,Rd F H a1 1 y.v.v y.d
section
variable {F aR : Nat → Prop} {H aa : Heap} {t : b1} {ks : List Nat}
theorem jL.M(x:jL F H t)(w:aj H aa):jL F aa t:=⟨x.q.M w,x.e.M w,fun y hy=>(x.d y hy).M w⟩
theorem jL.ab(x:jL F H t)(w:W (aE ks) H aa)(d:az F ks):jL F aa t:=⟨x.q.ab w d,x.e.ab w d,fun y hy=>(x.d y hy).ab w d⟩
theorem jL.imp(x:jL F H t)(d:∀b,b<H.size→F b→aR b):jL aR H t:=⟨x.q.imp d,x.e.imp d,fun y hy=>(x.d y hy).imp d⟩
theorem jL.HK(x:jL F H t)(h:Rd F H du 66 t.ei.v t.ml):e2 F H t:=⟨h,x.q,x.e,x.d⟩
end
def kF(a b:b1):Prop:=a.bE=b.bE∧a.an=b.an∧a.ml=b.ml∧a.al=b.al∧a.q.p=b.q.p∧a.el.map (fun x=>(x.k,x.d))=b.el.map (fun x=>(x.k,x.d))
set_option maxHeartbeats 1600000 in
theorem zp(t:b1)(F:Nat→Prop)(w0:World)(I:Heap)
 (B:e2 F I t) (bj:bh F I.size) (e1:t.ml.length≤1000000) (e3:t.q.a6.length≤1000000) (eY:t.el.length≤1000000) (dK:∀y∈t.el,y.d.length≤140737488355328):
 aC Tryz.prog w0 18 #[dG t] I (fun r R=>∃eH:aN,∃st:aN,∃aa:aN,∃N:List bA,∃mT:Nat,∃aR:Nat→Prop,r=dG {t with ei:=eH,q:={t.q with cd:=st},ct:=aa,el:=N}∧(aV mT 52 R du 66 eH.v t.ml)∧(T 0 I.size mT)∧(∀u:Unit,jL aR R {t with ei:=eH,q:={t.q with cd:=st},ct:=aa,el:=N})∧(bh aR R.size)∧(∀b,aR b→I.size≤b)∧(ay aR mT)∧(N.map (fun x=>(x.k,x.d))=t.el.map (fun x=>(x.k,x.d)))∧aj I R):=by
 refine aC.enter (args:=[dG t]) Tryz.func18 rfl rfl rfl ?_;intro dS dL;have j:aj I I:=W.refl _ _;refine G.L (fun cc=>?_);refine o.aO cq ?_;rintro v1 H1 ⟨rfl,d,b2,ek,cf⟩;have dW:H1.size=I.size+1:=by rw[cf];simp
 have bS:=(ay.new (bj.mono j.size):ay _ (I.size+1));have a2:T 0 I.size (I.size+1):=T.new j.size;replace B:=B.M b2;replace j:=j.L b2;have en:=b2.size;replace d:Var 32 H1 I.size (c_ t):=d;refine o.aO (cV nd) ?_;rintro v2 R ⟨rfl,n,bd,er,cg⟩;have dX:R.size=H1.size+1:=by rw[cg];simp
 have a3:af (I.size+1) (H1.size+1):=af.new d.lt;have cj:T 0 I.size (H1.size+1):=T.new j.size;replace B:=B.M bd;replace d:=d.M bd;replace j:=j.L bd;have eu:=bd.size;refine o.nil (cc (G.L (fun cm=>?_)));refine o.aO (cT _ (([]:List bF)) qu e4 kO (rfl)) ?_;rintro v5 bo ⟨A,a6,ev,cn⟩;have dY:bo.size=R.size+1:=by rw[cn];simp
 have cN:=(ay.new (bj.mono j.size):ay _ (R.size+1));have bU:af (I.size+1) (R.size+1):=af.new d.lt;have bV:af (H1.size+1) (R.size+1):=af.new n.lt;have bX:T 0 I.size (R.size+1):=T.new j.size;replace B:=B.M a6;replace d:=d.M a6;replace n:=n.M a6;replace j:=j.L a6;have ew:=a6.size;refine o.v1 (Y.ai d.N rfl bu rfl eo) ?_;refine o.v1 (ar (d.N.drop 2) eB) ?_;refine o.aO (dQ A B.m qu (by simp;omega) (by simp;omega)) ?_;rintro b7 dP ⟨Z,A,a7,aH⟩;replace a7:T (R.size+1) bo.size Z:=a7;replace aH:=aH.md;have bn:af (I.size+1) Z:=af.app (bU) d.lt a7;have a4:af (H1.size+1) Z:=af.app (bV) n.lt a7;have a5:T 0 I.size Z:=T.L (bX) a7 j.size;replace B:=B.ab aH (az.J cN);replace d:=d.ab aH (ah.J bU);replace n:=n.ab aH (ah.J bV);replace j:=j.bo aH (ag.J (aq.q bX));have ey:=aH.size;have dT:=A.le;rw[List.nil_append]at A;obtain⟨a8,rfl⟩:∃s:aN,b7=s.v:=⟨cl b7,A.bl.symm⟩;refine o.v1 (Y.ai d.N rfl bu rfl eo) ?_;refine o.s1 (dj d 2 (c_ {t with ei:=a8}) (rfl) eo (by rw[dg];omega) ((HN _ _))) fun ap b8=>?_;obtain⟨d,aI⟩:=b8;replace aI:=aI.bs;replace B:=B.ab aI (az.J bS);replace n:=n.ab aI (ah.J a3.symm);replace A:=A.ab aI (ah.J bn.symm);replace j:=j.bo aI (ag.J (aq.q a2));have ez:=aI.size;refine o.nil (cm (G.L (fun dm=>?_)));refine o.aO (cT _ (([]:List fE)) l0 hX mN (rfl)) fun eA bZ dp=>?_;obtain⟨P,aQ,eO,b9⟩:=dp;have d_:bZ.size=ap.size+1:=by rw[b9];simp
 have a9:=(ay.new (bj.mono j.size):ay _ (ap.size+1));have bp:af (I.size+1) (ap.size+1):=af.new d.lt;have bs:af (H1.size+1) (ap.size+1):=af.new n.lt;have bw:af Z (ap.size+1):=af.new A.le;have bx:T 0 I.size (ap.size+1):=T.new j.size;replace B:=B.M aQ;replace d:=d.M aQ;replace n:=n.M aQ;replace A:=A.M aQ;replace j:=j.L aQ;have eC:=aQ.size;refine o.v1 (Y.ai d.N rfl bu rfl cS) ?_;refine o.v1 (Y.ai (d.N.drop 4) rfl bt rfl ep) ?_;refine o.v1 (ar d.N.rh fi) ?_;refine o.aO (dQ P B.q l0 (by simp;omega) (by simp;omega)) fun b0 eF dq=>?_;obtain⟨aM,P,aS,au⟩:=dq;replace aS:T (ap.size+1) bZ.size aM:=aS;replace au:=au.md;have bz:af (I.size+1) aM:=af.app (bp) d.lt aS;have cb:af (H1.size+1) aM:=af.app (bs) n.lt aS;have cO:af Z aM:=af.app (bw) A.le aS;have cP:T 0 I.size aM:=T.L (bx) aS j.size;replace B:=B.ab au (az.J a9);replace d:=d.ab au (ah.J bp);replace n:=n.ab au (ah.J bs);replace A:=A.ab au (ah.J bw);replace j:=j.bo au (ag.J (aq.q bx));have eG:=au.size;have ec:=P.le;rw[List.nil_append]at P;obtain⟨bf,rfl⟩:∃s:aN,b0=s.v:=⟨cl b0,P.bl.symm⟩;refine o.v1 (Y.ai d.N rfl bu rfl cS) ?_;refine o.v1 (Y.ai (d.N.drop 4) rfl bt rfl ep) ?_;refine o.s1 (dj d 70 (c_ {t with ei:=a8,q:={t.q with cd:=bf}}) (rfl) ep (by rw[dg];omega) ((HO _ _))) fun ba bT=>?_;obtain⟨d,ak⟩:=bT;replace ak:=ak.bs;replace B:=B.ab ak (az.J bS);replace n:=n.ab ak (ah.J a3.symm);replace A:=A.ab ak (ah.J bn.symm);replace P:=P.ab ak (ah.J bz.symm);replace j:=j.bo ak (ag.J (aq.q a2));have eJ:=ak.size;refine o.nil (dm (G.L (fun ce=>?_)));refine o.ak ?_;refine ce (G.t1 (fun dt=>G.L (fun dw=>?_)));refine o.ak ?_;refine dw (G.aB (fun _ dU _=>?_))
 refine G.bg (fun(dO:(Nat)×(aN)×(Nat)×(List bA)×(Nat→Prop))=>match dO with|(i,aa,C,N,aR)=>[(1,.pointer (some ⟨I.size,0,none⟩)),(2,.pointer (some ⟨H1.size,0,none⟩)),(3,aa.v),(4,.int .i64 (i:Int))])
  (fun(i,aa,C,N,aR) (H:Heap)=>(i≤t.el.length)∧(aV C 68 H bO 33 aa.v N)∧(∀y∈N,Rd aR H a1 1 y.v.v y.d)∧(bh aR H.size)∧(ay aR C)∧(ay aR (I.size+1))∧(ay aR (H1.size+1))∧(ay aR Z)∧(∀b,aR b→I.size≤b)∧(N.map (fun x=>(x.k,x.d))=(t.el.take i).map (fun x=>(x.k,x.d)))∧(T 0 ba.size C)∧aj ba H)
  (fun(i,aa,C,N,aR)=>t.el.length-i) (0,cM,0,[],fun _=>False) ⟨rfl,rfl,rfl,rfl,trivial⟩ ?_ ?_
 ·
  exact⟨(by omega),aV.nil c0 gX,(fun x h=>by cases h),(fun b e=>e.elim),(fun b e=>e.elim),(fun b e=>e.elim),(fun b e=>e.elim),(fun b e=>e.elim),(fun b e=>e.elim),rfl,T.refl _ _,W.refl _ _⟩
 rintro⟨i,aa,C,N,aR⟩ L ci dR dy dz;obtain⟨eZ,E,Q,bg,f1,f2,f3,f4,bP,bk,aO,K⟩:=ci;have bc:=ay.app (ay.z) (bj.mono j.size) aO;have aZ:af (I.size+1) C:=af.app (af.z) d.lt aO;have be:af (H1.size+1) C:=af.app (af.z) n.lt aO;have bY:af Z C:=af.app (af.z) A.le aO;have cR:T 0 I.size C:=T.L (T.refl 0 _) aO j.size;replace B:=B.M K;replace d:=d.M K;replace n:=n.M K;replace A:=A.M K;replace P:=P.M K;replace j:=j.L K;have eK:=K.size;have ca:=E.le;have bC:=aO;have e0:N.length=i:=by have dJ:=congrArg List.length bk;simp at dJ;omega
 refine G.t2 (fun dA dD=>G.L (fun cU=>?_));refine o.V ?_;refine o.v1 (Y.ai d.N rfl bu rfl dv) ?_;refine o.v1 (ar d.N.fX dV) ?_;refine o.v1 (bb B.e cu) ?_;refine o.v1 bJ (o.nil (cU ?_));refine aU (fun dE=>?_) (fun dE=>?_)
 ·
  refine G.skip (dA (G.t1 (fun bi=>G.aB (fun cW _ _=>?_))));refine dx (fun V=>W (aE [C]) L V) [] ?_;have k:W (aE [C]) L L:=W.refl _ _;have aB:=T.refl C L.size;refine O.V 0 rfl k ?_;refine O.t1 1 rfl (fun V M=>Y.fieldAddr (d.ab M (ah.J aZ)).N rfl bu rfl rfl dv (by decide) rfl) k ?_;refine O.t1 2 rfl (fun V M=>Y.fU (d.ab M (ah.J aZ)).N.fX rfl dV rfl) k ?_;refine O.V 3 rfl k ?_;have b4:i<t.el.length:=by omega
  obtain⟨y,bl⟩:∃q,q=t.el[i]:=⟨_,rfl⟩;have b5:y∈t.el:=by rw[bl];exact List.getElem_mem b4
  have eW:=dK y b5;refine O.e (g:=fun ad=> .pointer (some ad)) 4 (by kernel_rfl) rfl (by kernel_rfl) (by kernel_rfl) (by kernel_rfl) (Y.bL B.e (i) rfl cu ck rfl rfl) cQ rfl rfl k (fun co bE=>?_);refine O.t1 5 rfl (fun V M=>Y.fieldAddr (bE.ab M (az.J bc)).N rfl eX rfl rfl a_ (by decide) rfl) k ?_;refine O.t1 6 rfl (fun V M=>Y.cast (v2:=bq y.k) (aT (((bE.ab M (az.J bc)).N.drop 0).take 32) b_ a_ (by rw[eN];exact bB _)) ((by rw[bl];exact b6 (eN _)))) k ?_;refine O.t1 8 rfl (fun V M=>Y.fieldAddr (d.ab M (ah.J aZ)).N rfl bu rfl rfl dv (by decide) rfl) k ?_;refine O.t1 9 rfl (fun V M=>Y.fU (d.ab M (ah.J aZ)).N.fX rfl dV rfl) k ?_;refine O.V 10 rfl k ?_;refine O.e (g:=fun ad=> .pointer (some ad)) 11 (by kernel_rfl) rfl (by kernel_rfl) (by kernel_rfl) (by kernel_rfl) (Y.bL B.e (i) rfl cu ck rfl rfl) cQ rfl rfl k (fun eP bG=>?_);refine O.t1 12 rfl (fun V M=>Y.fieldAddr (bG.ab M (az.J bc)).N rfl eX rfl rfl db (by decide) rfl) k ?_;refine O.t1 13 rfl (fun V M=>Y.cast (v2:=y.v.v) (ar ((bG.ab M (az.J bc)).N.ji) eD) (by rw[bl])) k ?_;refine O.aX 7 ?_;refine et rfl (cT _ (([]:List UInt8)) dC eE fK (rfl)) (fun eL aF dF=>?_);obtain⟨S,ab,eQ,cX⟩:=dF;have ea:aF.size=L.size+1:=by rw[cX];simp
  have cZ:af (I.size+1) (L.size+1):=af.new d.lt;have c1:af (H1.size+1) (L.size+1):=af.new n.lt;have c3:af Z (L.size+1):=af.new A.le;have bI:af C (L.size+1):=af.new E.le;have c4:=(ay.new (bg.mono (by omega)):ay _ (L.size+1));have c8:T 0 I.size (L.size+1):=T.new j.size;have br:T 0 ba.size (L.size+1):=T.new K.size;have da:T 0 L.size (L.size+1):=T.new k.size;replace B:=B.M ab;replace d:=d.M ab;replace n:=n.M ab;replace A:=A.M ab;replace E:=E.M ab;replace Q:=fun y X=>(Q y X).M ab;replace j:=j.L ab;replace K:=K.L ab;replace k:=k.bc ab;have cs:=ab.size;refine O.b3 k (ag.cons (aq.r aB) (ag.J (aq.q da))) ?_;have k:W (aE [C,(L.size+1)]) aF aF:=W.refl _ _;have dc:=T.refl C aF.size;have bK:=T.refl (L.size+1) aF.size;refine O.aX 14 ?_;refine et rfl (dQ S (B.d y b5) dC (by simp;omega) (by simp;omega)) (fun b3 ae dH=>?_);obtain⟨am,S,aA,aJ⟩:=dH;replace aA:T (L.size+1) aF.size am:=aA;replace aJ:=aJ.md;have de:af (I.size+1) am:=af.app (cZ) d.lt aA;have bv:af (H1.size+1) am:=af.app (c1) n.lt aA;have df:af Z am:=af.app (c3) A.le aA;have bL:af C am:=af.app (bI) E.le aA;have dh:T 0 I.size am:=T.L (c8) aA j.size;have di:T (L.size+1) aF.size am:=T.L (bK) aA k.size;replace E:=E.ab aJ (ah.J bI);replace Q:=fun y X=>(Q y X).ab aJ (az.J c4);replace K:=K.bo aJ (ag.J (aq.q br));replace k:=k.aJ aJ (ag.J (aq.r bK));have bm:=aJ.size;have dZ:=S.le;obtain⟨a0,rfl⟩:∃s:aN,b3=s.v:=⟨cl b3,S.bl.symm⟩;rw[List.nil_append]at S;refine O.b3 k (ag.cons (aq.r dc) (ag.J (aq.r di))) ?_;have k:W (aE [C,am]) ae ae:=W.refl _ _;have cr:=T.refl C ae.size;have cv:=T.refl am ae.size;refine O.t1 (v:= .agg (bO (⟨y.k,a0,y.d⟩:bA)).toArray) 15 rfl (fun V M=>?_) k ?_
  ·exact Y.build (v:= .agg (bO (⟨y.k,a0,y.d⟩:bA)).toArray) rfl rfl (by intro w;exact oC _ _ _)
  refine O.aX 16 ?_;refine et rfl (cT _ ([(⟨y.k,a0,y.d⟩:bA)]) iJ c0 gX (rfl)) (fun eM ai dr=>?_);obtain⟨dN,aW,eR,cw⟩:=dr;have eb:ai.size=ae.size+1:=by rw[cw];simp
  have cy:T 0 ae.size (ae.size+1):=T.new k.size;replace E:=E.M aW;replace Q:=fun y X=>(Q y X).M aW;replace S:=S.M aW;replace K:=K.L aW;replace k:=k.bc aW;have eS:=aW.size;refine O.b3 k (ag.cons (aq.r cr) (ag.cons (aq.r cv) (ag.J (aq.q cy)))) ?_;have k:W (aE [C,am,(ae.size+1)]) ai ai:=W.refl _ _;have bN:=T.refl C ai.size;have cz:=T.refl am ai.size;have cA:=T.refl (ae.size+1) ai.size;refine O.aX 17 ?_;refine et rfl (dQ E dN.rd iJ (by simp;omega) (by simp;omega)) (fun bQ bR dI=>?_);obtain⟨aL,E,aX,aK⟩:=dI;replace aX:T C ai.size aL:=aX;replace aK:=aK.md;have cC:=ay.app (f1) (bg.mono (by omega)) aX;have cD:af am aL:=af.app (bL.symm) S.le aX;have cG:T 0 ba.size aL:=T.L (bC) aX K.size;have cH:T C ai.size aL:=T.L (bN) aX k.size;replace Q:=fun y X=>(Q y X).ab aK (az.J f1);replace S:=S.ab aK (ah.J bL.symm);replace K:=K.bo aK (ag.J (aq.q bC));replace k:=k.aJ aK (ag.J (aq.r bN));have eT:=aK.size;have ca:=E.le;obtain⟨dk,rfl⟩:∃s:aN,bQ=s.v:=⟨cl bQ,E.bl.symm⟩;refine O.b3 k (ag.cons (aq.r cH) (ag.cons (aq.r cz) (ag.J (aq.r cA)))) ?_;have k:W (aE [aL,am,(ae.size+1)]) bR bR:=W.refl _ _;refine O.t1 18 rfl (fun V M=>ej) k ?_;refine cx ?_;refine cW (bi (G.region ?_));refine o.V ?_;refine o.v1 bD ?_;refine o.ak ?_;refine aP.sub (dy (i+1,dk,aL,N++[(⟨y.k,a0,y.d⟩:bA)],fun b=>aR b∨b+1=am) _ ?_ ?_) ⟨rfl,rfl,rfl,(aD (by omega)),trivial⟩
  ·exact⟨(by omega),E,tF Q (fun b e=> .inl e) (S.rd.imp (fun b _ e=> .inr e)),bh.eG (bg.mono (by omega)) S.le,ay.eG (cC) (cD.symm),ay.eG (f2) (de),ay.eG (f3) (bv),ay.eG (f4) (df),mC bP (dh),by rw[List.map_append,bk,List.take_succ_eq_append_getElem b4,List.map_append,←bl];rfl,cG,K⟩
  ·first|omega|(simp only;omega)|(simp;omega)
 ·
  obtain rfl:i=t.el.length:=by omega
  rw[List.take_length]at bk;refine G.exit (dD (dz (dU ?_)));refine dt (G.L (fun cI=>?_));refine o.V ?_;refine o.v1 (Y.ai d.N rfl bu rfl dv) ?_;refine o.s1 (dj d 74 (c_ {t with ei:=a8,q:={t.q with cd:=bf},ct:=aa,el:=N}) (rfl) dv (by rw[dg];omega) ((HM _ _))) fun ed cJ=>?_;obtain⟨d,ac⟩:=cJ;replace ac:=ac.bs;replace n:=n.ab ac (ah.J a3.symm);replace A:=A.ab ac (ah.J bn.symm);replace P:=P.ab ac (ah.J bz.symm);replace E:=E.ab ac (ah.J aZ.symm);replace Q:=fun y X=>(Q y X).ab ac (az.J f2);replace j:=j.bo ac (ag.J (aq.q a2));have ee:=ac.size;refine o.nil (cI (G.L (fun cK=>?_)));refine o.v1 (aT d.N fj ef (dg _)) ?_;refine o.s1 (dM n (_) (c_ {t with ei:=a8,q:={t.q with cd:=bf},ct:=aa,el:=N}) (lW _) ef (dg _) ((c9 (dg _).symm))) fun eg cL=>?_;obtain⟨n,al⟩:=cL;replace al:=al.bs;replace A:=A.ab al (ah.J a4.symm);replace P:=P.ab al (ah.J cb.symm);replace E:=E.ab al (ah.J be.symm);replace Q:=fun y X=>(Q y X).ab al (az.J f3);replace j:=j.bo al (ag.J (aq.q cj));have eh:=al.size;refine o.nil (cK ?_);refine G.ret (dL .ret (.inr rfl) _ _ _ (j6 rfl rfl n.N fj ef (dg _)) ?_);exact⟨a8,bf,aa,N,Z,fun b=>aR b∨b+1=C∨b+1=aM,rfl,A,(a5),(fun _=>⟨P.rd.imp (fun b _ e=> .inr (.inr e)),E.rd.imp (fun b _ e=> .inr (.inl e)),fun y hy=>(Q y hy).imp (fun b _ e=> .inl e)⟩),(fun b e=>e.elim (fun e=>by have aY:=bg b e;omega) (fun e=>e.elim (fun e=>by have aY:=E.le;omega) (fun e=>by have aY:=P.le;omega))),(fun b e=>e.elim (bP b) (fun e=>e.elim (fun e=>by have aY:=(cR);unfold T at aY;omega) (fun e=>by have aY:=(cP);unfold T at aY;omega))),(fun b e h=>e.elim (fun e=>(f4) b e h) (fun e=>e.elim (fun e=>(bY.symm) b e h) (fun e=>(cO.symm) b e h))),bk,j⟩
def kW(b8:dR)(on:List Bool)(i:Nat)(m:bF):bF:=if on.getD i false=true then{m with J:=hK b8 m.n}else m
def jj(b8:dR)(on:List Bool)(ml:List bF):List bF:=ml.mapIdx (kW b8 on)
def ij(b8:dR)(on:List Bool)(i:Nat)(ml:List bF):List bF:=ml.mapIdx (fun j m=>if j<i then kW b8 on j m else m)
theorem Fo(b8:dR)(on:List Bool)(ml:List bF):ij b8 on 0 ml=ml:=by
 unfold ij;refine List.ext_getElem (by simp) (fun i d U=>by simp)
theorem o8(b8:dR)(on:List Bool)(i:Nat)(ml:List bF):(ij b8 on i ml).length=ml.length:=by unfold ij;simp
theorem Fp(b8:dR)(on:List Bool)(ml:List bF):ij b8 on ml.length ml=jj b8 on ml:=by
 unfold ij jj;refine List.ext_getElem (by simp) (fun i d U=>by simp at d;simp[d])
theorem s_{b8:dR}{on:List Bool}{i:Nat}{ml:List bF}(h:i<ml.length):(ij b8 on i ml)[i]'(by rw[o8];exact h)=ml[i]:=by unfold ij;simp
theorem xS{b8:dR}{on:List Bool}{i:Nat}{ml:List bF}(h:i<ml.length):ij b8 on (i+1) ml=(ij b8 on i ml).set i (kW b8 on i ml[i]):=by
 refine List.ext_getElem (by simp[o8]) (fun j k U=>?_);rw[List.getElem_set];by_cases e:i=j
 ·subst e;simp[ij]
 ·rw[if_neg e]
  by_cases d:j<i
  ·simp[ij,d,show j<i+1 by omega]
  ·simp[ij,d,show ¬j<i+1 by omega]
theorem Fq{b8:dR}{on:List Bool}{i:Nat}{ml:List bF}(h:i<ml.length)(d:on.getD i false=false):ij b8 on (i+1) ml=ij b8 on i ml:=by
 rw[xS h,show kW b8 on i ml[i]=(ij b8 on i ml)[i]'(by rw[o8];exact h)by rw[s_ h];unfold kW;rw[if_neg (by rw[d];decide)],List.set_getElem_self]
theorem E5(m:bF)(z:cY):du {m with J:=z}=ed (du m) 1 (b7 z):=by
 unfold ed;rw[bB,show 1+32=33 from rfl,sm];rfl
set_option maxHeartbeats 1600000 in
theorem s5(s:cW)(t:b1)(v:Value)(on:List Bool)(F:Nat→Prop)(w0:World)(I:Heap)
 (E:bx I dB 33 s.en.v s.ba) (ab:e2 F I t) (cj:bh F I.size) (C:bx I qa 1 v on) (cv:t.ml.length≤1000000) (cA:t.q.a6.length≤1000000) (cu:t.el.length≤1000000) (cm:∀y∈t.el,y.d.length≤140737488355328):
 aC Tryz.prog w0 16 #[eg s,dG t,v] I (fun r aJ=>∃eH:aN,∃st:aN,∃bo:aN,∃aQ:List bA,∃aR:Nat→Prop,r=dG {t with ei:=eH,ml:=jj (bG s.ba) on t.ml,q:={t.q with cd:=st},ct:=bo,el:=aQ}∧(∀u:Unit,e2 aR aJ {t with ei:=eH,ml:=jj (bG s.ba) on t.ml,q:={t.q with cd:=st},ct:=bo,el:=aQ})∧(bh aR aJ.size)∧(∀b,aR b→I.size≤b)∧(aQ.map (fun x=>(x.k,x.d))=t.el.map (fun x=>(x.k,x.d)))∧aj I aJ):=by
 refine aC.enter (args:=[eg s,dG t,v]) Tryz.func16 rfl rfl rfl ?_;intro cH cz;have A:aj I I:=W.refl _ _;replace E:=E.bw;have bf:=E.bY;replace C:=C.bw;have bc:=C.bY;have da:=C.len;refine G.L (fun b5=>?_);refine o.aO cq ?_;rintro v3 M ⟨rfl,K,ap,cN,b6⟩;have a0:M.size=I.size+1:=by rw[b6];simp
 replace E:=E.M ap;replace ab:=ab.M ap;replace C:=C.M ap;replace A:=A.L ap;have cO:=ap.size;replace K:Var 47 M I.size (bS s):=K;refine o.aO cq ?_;rintro v4 V ⟨rfl,B,ai,cP,b2⟩;have a2:V.size=M.size+1:=by rw[b2];simp
 have a3:=(ay.new (bf.mono A.size):ay _ (M.size+1));have a4:=(ay.new (bc.mono A.size):ay _ (M.size+1));have a5:af (I.size+1) (M.size+1):=af.new K.lt;have bq:T 0 I.size (M.size+1):=T.new A.size;replace E:=E.M ai;replace ab:=ab.M ai;replace C:=C.M ai;replace K:=K.M ai;replace A:=A.L ai;have cR:=ai.size;replace B:Var 32 V M.size (c_ t):=B;refine o.aO (cV nd) ?_;rintro v6 bp ⟨rfl,P,Z,cS,bs⟩;have cI:bp.size=V.size+1:=by rw[bs];simp
 have bw:af (M.size+1) (V.size+1):=af.new B.lt;have bz:T 0 I.size (V.size+1):=T.new A.size;replace E:=E.M Z;replace ab:=ab.M Z;replace C:=C.M Z;replace K:=K.M Z;replace B:=B.M Z;replace A:=A.L Z;have br:=Z.size;refine o.nil (b5 (G.L (fun a9=>?_)));refine o.v1 (aT B.N fj ef (dg _)) ?_;refine aW vg (zp t F w0 _ ab (cj.mono (by omega)) cv cA cu cm) ?_;rintro v9 cD ⟨aH,aZ,aY,aS,R,a1,rfl,n,ak,k,b9,aK,cn,cr,aa⟩;have bE:=ay.app (ay.z) (bf.mono A.size) ak;have bI:=ay.app (ay.z) (bc.mono A.size) ak;have bK:af (I.size+1) R:=af.app (af.z) K.lt ak;have bg:af (M.size+1) R:=af.app (af.z) B.lt ak;have bj:af (V.size+1) R:=af.app (af.z) P.lt ak;have bk:T 0 I.size R:=T.L (T.refl 0 _) ak A.size;replace E:=E.M aa;replace C:=C.M aa;replace K:=K.M aa;replace B:=B.M aa;replace P:=P.M aa;replace A:=A.L aa;have cT:=aa.size;have au:=n.le;have bL:=cn;have bO:=(fun b e h=>by have bn:=aK b e;omega:ay a1 ((M.size+1)));have bQ:=(fun b e h=>by have bn:=aK b e;omega:ay a1 ((V.size+1)));rw[←Fo (bG s.ba) on t.ml]at n;refine o.s1 (S.var B (_) (c_ {t with ei:=aH,q:={t.q with cd:=aZ},ct:=aY,el:=aS}) rfl rfl rfl rfl (lW _) ef (dg _) (by rw[dg];exact Nat.le_refl _) ((c9 ((dg _).trans (dg _).symm)))) fun bl bR=>?_;obtain⟨B,Q⟩:=bR;replace Q:=Q.bs;replace E:=E.ab Q (az.J a3);replace C:=C.ab Q (az.J a4);replace K:=K.ab Q (ah.J a5);replace P:=P.ab Q (ah.J bw.symm);replace n:=n.ab Q (ah.J bg.symm);replace k:=fun u=>(k u).ab Q (az.J bO);replace A:=A.bo Q (ag.J (aq.q bq));have cU:=Q.size;refine o.nil (a9 (G.t1 (fun b8=>G.L (fun cb=>?_))));refine o.ak ?_;refine cb (G.aB (fun _ cc _=>?_))
 refine G.bg (fun(i:(Nat))=>[(2,v),(3,.pointer (some ⟨I.size,0,none⟩)),(4,.pointer (some ⟨M.size,0,none⟩)),(6,.pointer (some ⟨V.size,0,none⟩)),(7,.int .i64 (i:Int))])
  (fun(i:(Nat)) (H:Heap)=>(i≤t.ml.length)∧(aV R 52 H du 66 aH.v (ij (bG s.ba) on i t.ml))∧(T R bl.size R)∧W (aE [R]) bl H)
  (fun(i:(Nat))=>t.ml.length-i) 0 ⟨rfl,rfl,rfl,rfl,rfl,trivial⟩ ?_ ?_
 ·
  exact⟨(by omega),n,T.refl _ _,W.refl _ _⟩
 intro i a7 cg cG a8 bT;obtain⟨c4,n,aO,L⟩:=cg;have bU:af (V.size+1) R:=af.app (bj) P.lt aO;have bV:T 0 I.size R:=T.L (bk) aO A.size;replace E:=E.ab L (az.J bE);replace C:=C.ab L (az.J bI);replace K:=K.ab L (ah.J bK);replace B:=B.ab L (ah.J bg);replace P:=P.ab L (ah.J bj);replace k:=fun u=>(k u).ab L (az.J bL);replace A:=A.bo L (ag.J (aq.q bk));have cZ:=L.size;have au:=n.le;have am:=aO;have c8:=o8 (bG s.ba) on i t.ml;refine G.t2 (fun be ck=>G.L (fun cl=>?_));refine o.V ?_;refine o.v1 (Y.ai B.N rfl bu rfl eo) ?_;refine o.v1 (ar (B.N.drop 2) eB) ?_;refine o.v1 (Y.cast (v2:= .int .i64 (t.ml.length:Int)) (bb n.rd dI) (fM (by rw[o8]))) ?_;refine o.v1 bJ (o.nil (cl ?_));refine aU (fun bi=>?_) (fun bi=>?_)
 ·
  refine G.skip (be (G.t1 (fun ba=>G.aB (fun bm _ _=>G.L (fun bX=>?_)))));refine o.ax 2 ?_;refine o.v1 (bb C zt) ?_;refine o.v1 bJ ?_;refine o.V ?_;refine o.join (d:=26) (v:= .bool (on.getD i false)) 5 (fun a6=>?_) ?_
  ·
   refine o.bj (d:=21) rfl (fun aL=>?_) (fun aL=>?_)
   ·
    refine o.ax 2 ?_;refine o.e (g:=fun ad=> .pointer (some ad)) (Y.bL C (i) rfl zt cX rfl rfl) bd rfl rfl (fun cL bY=>?_);refine o.ao (ar bY.N dA) ?_;refine o.N ?_;exact a6 _ (congrArg (fun b=>some (Value.bool b)) (by rw[List.getD_eq_getElem?_getD,List.getElem?_eq_getElem (by omega)];rfl)) (ae (ae (ae (ae (ae (bC (congrArg Value.bool (decide_eq_true aL).symm)))))))
   ·
    refine o.ax 5 ?_;exact a6 _ (congrArg (fun b=>some (Value.bool b)) (by rw[List.getD_eq_getElem?_getD,List.getElem?_eq_none (by omega)];rfl)) (ae (ae (ae (ae (ae (bC (congrArg Value.bool (decide_eq_false aL).symm)))))))
  refine o.nil (bX ?_);refine cK (fun aM=>?_) (fun aM=>?_)
  ·
   have cw:=aM;have aA:i<t.ml.length:=by omega
   obtain⟨y,aX⟩:∃q,q=t.ml[i]:=⟨_,rfl⟩;refine dx (fun X=>aj a7 X) [11,12,13] ?_;have N:=aj.refl a7;refine O.t1 0 rfl (fun X k=>Y.ai (B.N.M k) rfl bu rfl eo) N ?_;refine O.t1 1 rfl (fun X k=>ar ((B.N.drop 2).M k) eB) N ?_;refine O.V 2 rfl N ?_;refine O.t1 3 rfl (fun X k=>aT (K.N.M k) eC di (b4 _)) N ?_;refine O.t1 4 rfl (fun X k=>Y.ai (B.N.M k) rfl bu rfl eo) N ?_;refine O.t1 5 rfl (fun X k=>ar ((B.N.drop 2).M k) eB) N ?_;refine O.V 6 rfl N ?_;refine O.t1 7 rfl (fun X k=>Y.qS (n.M k) (i) rfl dI dO rfl rfl (by first|rfl|omega) (by omega)) N ?_;refine O.t1 8 rfl (fun X k=>Y.fieldAddr ((n.N (j:=i) (by omega)).M k) rfl cC rfl rfl bP (by decide) rfl) N ?_;refine O.t1 9 rfl (fun X k=>Y.cast (v2:=aI y.n) (ar (((n.N (j:=i) (by omega)).drop 0).M k) bN) (by rw[s_ aA,aX])) N ?_;refine O.aX 10 ?_;refine cf vm (uJ s y.n w0 _ E.any) (fun bv b3 aB=>?_);obtain⟨rfl,al⟩:=aB;replace n:=n.M al;replace k:=fun u=>(k u).M al;replace L:=L.bc al;have c0:=al.size;have b_:=N.L al;refine O.cc b_ ?_;have ca:=aj.refl b3;refine O.aX 11 ?_;refine hg rfl (Y.qS n (i) rfl dI dO rfl rfl (by first|rfl|omega) (by omega)) (.inl rfl) ?_;refine O.aX 12 ?_;refine hg rfl (Y.ai (n.N (j:=i) (by omega)) rfl cC rfl a_) (.inl rfl) ?_;refine O.aX 13 ?_;refine gL rfl (S.tf n i 1 ({y with J:=hK (bG s.ba) y.n}:bF) (b7 (hK (bG s.ba) y.n)) rfl rfl rfl rfl (jS _) a_ (bB _) (by omega) (by decide) (by rw[s_ aA,←aX];exact E5 _ _)) (fun cJ bt=>?_);obtain⟨n,aF⟩:=bt;replace aF:=aF.md;replace L:=L.aJ aF (ag.J (aq.r am));have c1:=aF.size;refine⟨.inl rfl,?_⟩;refine cx ?_;have db:=ca;refine bm (ba (G.region ?_));refine o.V ?_;refine o.v1 bD ?_;refine o.ak ?_;refine aP.sub (a8 (i+1) _ ?_ ?_) ⟨rfl,rfl,rfl,rfl,(aD (by omega)),trivial⟩
   ·exact⟨(by omega),by rw[xS aA,←aX];unfold kW;rw[if_pos cw];exact n,am,L⟩
   ·first|omega|(simp only;omega)|(simp;omega)
  ·
   have cy:=aM;have aA:i<t.ml.length:=by omega
   refine G.skip (bm (ba (G.region ?_)));refine o.V ?_;refine o.v1 bD ?_;refine o.ak ?_;refine aP.sub (a8 (i+1) _ ?_ ?_) ⟨rfl,rfl,rfl,rfl,(aD (by omega)),trivial⟩
   ·exact⟨(by omega),by rw[Fq aA cy];exact n,am,L⟩
   ·first|omega|(simp only;omega)|(simp;omega)
 ·
  obtain rfl:i=t.ml.length:=by omega
  rw[Fp]at n;refine G.exit (ck (bT (cc ?_)));refine b8 (G.L (fun bZ=>?_));refine o.v1 (aT B.N fj ef (dg _)) ?_;refine o.s1 (dM P (_) (c_ {t with ei:=aH,q:={t.q with cd:=aZ},ct:=aY,el:=aS}) (lW _) ef (dg _) ((c9 (dg _).symm))) fun cM b0=>?_;obtain⟨P,ac⟩:=b0;replace ac:=ac.bs;replace n:=n.ab ac (ah.J bU.symm);replace k:=fun u=>(k u).ab ac (az.J bQ);replace A:=A.bo ac (ag.J (aq.q bz));have c3:=ac.size;refine o.nil (bZ ?_);refine G.ret (cz .ret (.inr rfl) _ _ _ (j6 rfl rfl P.N fj ef (dg _)) ?_);exact⟨aH,aZ,aY,aS,_,rfl,(fun _=>⟨n.rd.imp (fun b _ e=>Or.inr e),(k ()).q.imp (fun b _ e=>Or.inl e),(k ()).e.imp (fun b _ e=>Or.inl e),(fun y hy=>((k ()).d y hy).imp (fun b _ e=>Or.inl e))⟩),(bh.eG (b9.mono (by omega)) n.le),(mC (fun b e=>by have bn:=aK b e;omega) (bV)),cr,A⟩
end rE
end Go.Proofs.YtfjmpninmdjcaaaGreatDoor
