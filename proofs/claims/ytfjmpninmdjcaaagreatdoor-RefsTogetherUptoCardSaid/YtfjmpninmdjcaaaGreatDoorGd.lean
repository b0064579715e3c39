/-
  Contracts of functions of the program, and plain laws: put together of several texts.
-/
import Derived.Lib.AppendZerosOnto
import Derived.Lib.Overlaps
import Derived.Test.YtfjmpninmdjcaaaGreatDoorGc
import Derived.Test.YtfjmpninmdjcaaaGreatDoorGa
import Derived.Test.YtfjmpninmdjcaaaGreatDoorGb
set_option linter.unusedVariables false
set_option linter.unusedSimpArgs false
set_option linter.unusedSectionVars false
set_option linter.defProp false
set_option maxHeartbeats 8000000
set_option maxRecDepth 20000
namespace Go.Proofs.YtfjmpninmdjcaaaGreatDoor

namespace gL
open E Go.RowKit eY fm fw fA ez eZ e0 fI fJ fQ gb eL
set_option maxRecDepth 100000 in
theorem iz:c3 Tryz.prog 30 68 33 56:=⟨Tryz.underlying30,_,_,rfl,rfl,rfl,rfl,rfl⟩
set_option maxRecDepth 100000 in
theorem oU:c3 Tryz.prog 45 62 2 40:=⟨Tryz.underlying45,_,_,rfl,rfl,rfl,rfl,rfl⟩
section
variable {P : Program} {w0 : World} {n : Nat} {l : bO} {H H1 : Heap} {I : Oper}
end
section
variable {P : Program} {w0 : World} {n : Nat} {l : bO} {H : Heap} {I : Oper}
theorem Z.vA{d x:Operand}{t t2 e A:TypeId}{b off o F kQ q sz k:Nat}{cs ys:List Value}{ad:Addr}(E:Var e H b cs)(S:∀w,At w0 H w→∀j v,ys[j]?=some v→w.cell? (ad.add j)=some v)(hy:ys.length=k*sz)(R:∀u∈ys,u.oneCell'=true)(Q:I.op= .call {callee:= .builtin .copy,args:= #[d,x],argTypes:= #[t,t2]})
 (T:P.underlying t=some (.slice A)) (aj:∀w,(sizeOf A).run P w= .ok sz w) (ak:aH l d=some (.slice (some ⟨b,off,none⟩) o F)) (U:aH l x=some (.slice (some ad) kQ q)) (N:k=min kQ o) (X:off+k*sz≤cs.length):
 Z P w0 n l H I (fun r ab=>r= .int .i64 k∧Var e ab b (dU cs off ys)∧W (fun g=>g=b) H ab):=by
 intro a w B i;obtain⟨G,J,K⟩:=id E.row;have O:Nat.min kQ o=k:=N.symm
 have L:(Builtin.firstCells sz k (.slice (some ad) kQ q)).run P w= .ok ys.toArray w:=
  run_firstCells_some (P:=P) w sz k ad kQ q _ hy (fun j v M=>S w i j v M)
 have C:=mQ P b off e G ys 0 cs.toArray w (by rw[i.heap];exact J) K (by simp;omega) R;simp only[Nat.add_zero]at C;refine⟨_,_,w.setRow b (dU cs off ys).toArray,?_,i.row _ _,rfl,⟨q7 i E.row (by simp[dU];omega)⟩,po i _ _⟩;simp[execOp,Q,B.eval ak,B.eval U,resolve,invoke,builtin,Builtin.copy_,run_underlying T,Builtin.lenOf,aj,O,L,C,dU,goInt]
theorem HU{z:Value}{α:Type}{f:α→List Value}{z0:α}(h:z.cells.toList=f z0):∀m,(Builtin.zeroCells z.cells m).toList=(List.replicate m z0).flatMap f:=by
 have o:(f z0).length=z.cells.size:=by rw[←h,Array.length_toList]
 have k:∀m,(Builtin.zeroCells z.cells m).toList=(List.range (m*z.cells.size)).map (fun i=>z.cells[i%z.cells.size]!):=fun m=>by
  unfold Builtin.zeroCells;rw[Array.toList_map,Array.toList_range]
 have aN:(List.range z.cells.size).map (fun i=>z.cells[i%z.cells.size]!)=f z0:=by
  rw[←h];apply List.ext_getElem
  ·simp
  ·intro j n V
   have d:j<z.cells.size:=by simpa using n
   simp[Nat.mod_eq_of_lt d,getElem!_pos z.cells j d]
 intro m;rw[k]
 induction m with
 |zero=>simp
 |succ m ih=>
  rw[Nat.succ_mul,Nat.add_comm,List.range_add,List.map_append,List.map_map,aN,List.replicate_succ,List.flatMap_cons,←ih];congr 1;apply List.map_congr_left;intro j _;simp
theorem Z.zV{α:Type}{F:Nat→Prop}{f:α→List Value}{s x:Operand}{t iK e:TypeId}{C E:IntKind}{ad:Addr}{c m sz bytes:Nat}{i:TypeInfo}{z:Value}{xs:List α}(z0:α)(av:∀x,(f x).length=sz)(G:∀x,∀u∈f x,u.oneCell'=true)(T:Rd F H f sz (.slice (some ad) xs.length c) xs)
 (S:I.op= .call {callee:= .builtin .append,args:= #[s,x],argTypes:= #[t,iK]}) (aa:P.underlying t=some (.slice e)) (ae:P.underlying iK=some (.int C)) (N:P.info? e=some i) (ag:i.zero=some z) (Y:i.size=sz) (J:i.bytes=bytes) (B:z.cells.toList=f z0) (X:0<sz) (Q:0<m)
 (aj:aH l s=some (.slice (some ad) xs.length c)) (af:aH l x=some (.int E m)) (q:c<xs.length+m) (aA:(xs.length+m)*bytes≤140737488355328) (hm:xs.length+m≤9223372036854775807):
 Z P w0 n l H I (fun r ab=>aU (H.size+1) e ab f sz r (xs++List.replicate m z0)∧aq H ab∧∃ai,ab=H.push ai):=by
 subst Y;subst J;intro a w o d;have holds:=T.ll av rfl d
 have hold:(Builtin.firstCells i.size xs.length (.slice (some ad) xs.length c)).run P w.drew= .ok (xs.flatMap f).toArray w.drew:=
  run_firstCells_some (P:=P) w.drew i.size xs.length ad xs.length c _ (length_flatMap av xs) (fun j v O=>by simpa using holds j v O)
 have U:=Lib.run_append_grow_zeros (P:=P) w t iK I.type e i z E C aa ae N ag (some ad) xs.length c (xs.flatMap f) hold m Q X q (by omega) (by
  have:m*i.bytes≤(xs.length+m)*i.bytes:=Nat.mul_le_mul_right _ (by omega);omega) (growslice_fits q aA)
 have k:At w0 H w.drew:=d.drew;have M:=grownCap_ge w (xs.length+m) c e;have L:grownCap w (xs.length+m) c e≤maxLen:=grownCap_le_maxLen w (xs.length+m) c e (by unfold maxLen;omega);have ah:z.cells.size=i.size:=by rw[←Array.length_toList,B,av]
 have R:=Own.new (e:=e) (G':=fun b=>b+1=H.size+1) (w:=w.drew) (z:=z) (cap:=grownCap w (xs.length+m) c e) (zs:=xs++List.replicate m z0) av G ah (by rw[k.heap]) (by simpa using M) L
 have K:(xs.flatMap f).toArray++Builtin.zeroCells z.cells m=((xs++List.replicate m z0).flatMap f).toArray:=by
  apply Array.ext';rw[Array.toList_append,HU B,List.flatMap_append]
 have A:w.heap.size=H.size:=by rw[d.heap]
 refine⟨.slice (some ⟨w.heap.size,0,none⟩) (xs.length+m) (grownCap w (xs.length+m) c e),_,w.drew.alloc (.cells ((xs.flatMap f).toArray++Builtin.zeroCells z.cells m++Builtin.zeroCells z.cells (grownCap w (xs.length+m) c e-(xs.length+m))) e),?_,⟨rfl,d.os,d.tape,d.output,k.e_⟩,⟨?_,?_⟩,?_,?_⟩
 ·simp[execOp,S,resolve,invoke,builtin,o.eval aj,o.eval af,U,A]
 ·rw[K]
  simpa[A]using R
 ·rw[(k.alloc _).heap];simp
 ·rw[(k.alloc _).heap];exact W.push _ _ _
 ·exact⟨_,(k.alloc _).heap⟩
theorem Y.yy{x:Operand}{o d:Option Operand}{t e:TypeId}{a:Option Addr}{len cap sz:Nat}(i j:Nat)(B:I.op= .slice t x o d none)(C:∀w,(underlying t).run P w= .ok (.slice e) w)(aj:∀w,(sizeOf e).run P w= .ok sz w)(E:aH l x=some (.slice a len cap))
 (A:o=none∧i=0∨∃p k aF,o=some p∧aH l p=some (.int k aF)∧aF=(i:Int)) (r:d=none∧j=len∨∃p k aF,d=some p∧aH l p=some (.int k aF)∧aF=(j:Int)) (K:i≤j) (L:j≤cap):
 Y P w0 n l H I (.slice (if cap=i then a else a.map (·.add (i*sz))) (j-i) (cap-i)):=by
 intro ac w q J
 have aN:∀w,(Instr.sliceBounds true len cap (o.map ac.eval) (d.map ac.eval) none).run P w= .ok (i,j,cap) w:=by
  intro w
  rcases A with⟨rfl,rfl⟩|⟨p,k,aF,rfl,F,rfl⟩<;>rcases r with⟨rfl,rfl⟩|⟨N,a7,M,rfl,G,rfl⟩<;>
   simp[Instr.sliceBounds,Instr.sliceBound,asIntOf,q.eval, *]
 have hu:∀w,(underlying t).run P w= .ok (.slice e) w:=C;simp[execOp,B,q.eval E,Instr.sliceAt,Instr.slice,hu,aj,aN]
theorem Y.BU{x:Operand}{t e:TypeId}{a:Option Addr}{len cap:Nat}(i:I.op= .call {callee:= .builtin .cap,args:= #[x],argTypes:= #[t]})(j:∀w,(underlying t).run P w= .ok (.slice e) w)(k:aH l x=some (.slice a len cap)):Y P w0 n l H I (.int .i64 cap):=by
 intro ac w d o;simp[execOp,i,d.eval k,resolve,invoke,builtin,Builtin.cap_,j,goInt]
theorem aU.view{α:Type}{k:Nat}{e:TypeId}{f:α→List Value}{sz:Nat}{v:Value}{xs:List α}(h:aU k e H f sz v xs)(o:xs≠[]):∃g cap cs,v= .slice (some ⟨g,0,none⟩) xs.length cap∧k=g+1∧Var e H g cs∧xs.length≤cap∧cap≤maxLen∧cs.length=cap*sz∧cs.take (xs.length*sz)=xs.flatMap f:=by
 rcases h.own.ex with⟨_,x⟩|⟨g,cap,cur,r,n,q,d,V,i,j⟩
 ·exact absurd x o
 ·exact⟨g,cap,cur.toList,r,n.symm,⟨q⟩,d,V,by rw[Array.length_toList];exact i,j⟩
theorem aU.back{α:Type}{g:Nat}{e:TypeId}{f:α→List Value}{sz cap:Nat}{cs:List Value}{xs:List α}(av:∀x,(f x).length=sz)(i:∀x,∀u∈f x,u.oneCell'=true)(d:Var e H g cs)(j:xs.length≤cap)(hm:cap≤maxLen)(aj:cs.length=cap*sz)(k:cs.take (xs.length*sz)=xs.flatMap f):aU (g+1) e H f sz (.slice (some ⟨g,0,none⟩) xs.length cap) xs:=
 ⟨⟨av,i,.inr ⟨g,cap,cs.toArray,rfl,rfl,d.row,j,hm,by simpa using aj,by simpa using k⟩⟩,d.lt⟩
end
theorem GD{α:Type}{f:α→List Value}{sz:Nat}(av:∀x,(f x).length=sz){cs:List Value}{xs ys:List α}{i:Nat}(h:cs.take (xs.length*sz)=xs.flatMap f)(q:cs.length≥xs.length*sz)(n:i+ys.length≤xs.length):(dU cs (i*sz) (ys.flatMap f)).take (xs.length*sz)=(xs.take i++ys++xs.drop (i+ys.length)).flatMap f:=by
 have hy:=length_flatMap av ys;have hm:(i+ys.length)*sz≤xs.length*sz:=Nat.mul_le_mul_right _ n;have o:(i+ys.length)*sz=i*sz+ys.length*sz:=Nat.add_mul _ _ _
 have j:cs.take (i*sz)=(xs.take i).flatMap f:=by
  have:=congrArg (List.take (i*sz)) h;rw[List.take_take,Nat.min_eq_left (by omega)]at this;rw[this]
  conv=>lhs;rw[←List.take_append_drop i xs,List.flatMap_append]
  rw[List.take_left' (by rw[length_flatMap av,List.length_take,Nat.min_eq_left (by omega)])]
 have k:(cs.take (xs.length*sz)).drop ((i+ys.length)*sz)=(xs.drop (i+ys.length)).flatMap f:=by
  rw[h]
  conv=>lhs;rw[←List.take_append_drop (i+ys.length) xs,List.flatMap_append]
  rw[List.drop_left' (by rw[length_flatMap av,List.length_take,Nat.min_eq_left (by omega)])]
 have d:((xs.take i++ys).flatMap f).length=(i+ys.length)*sz:=by
  rw[length_flatMap av,List.length_append,List.length_take,Nat.min_eq_left (by omega)]
 rw[dU,j,←List.flatMap_append,hy,←o,List.flatMap_append (xs:=xs.take i++ys),←k,List.take_append,d,List.take_of_length_le (by rw[d];exact hm),List.drop_take]
section
variable {P : Program} {w0 : World} {n : Nat} {l : bO} {H : Heap} {I : Oper}
theorem Z.r3{α:Type}{F:Nat→Prop}{f:α→List Value}{d x:Operand}{t t2 e q:TypeId}{g i o J cap sz k:Nat}{ad:Addr}{G:Nat}{v:Value}{xs ys:List α}(h:aU k e H f sz v xs)(E:v= .slice (some ⟨g,0,none⟩) xs.length cap)(S:Rd F H f sz (.slice (some ad) ys.length G) ys)(Q:xs≠[])
 (R:I.op= .call {callee:= .builtin .copy,args:= #[d,x],argTypes:= #[t,t2]})
 (X:P.underlying t=some (.slice q)) (aj:∀w,(sizeOf q).run P w= .ok sz w) (ak:aH l d=some (.slice (some ⟨g,i*sz,none⟩) o J)) (aa:aH l x=some (.slice (some ad) ys.length G)) (af:ys.length≤o) (A:i+ys.length≤xs.length) (ah:ys≠[]):
 Z P w0 n l H I (fun r ab=>r= .int .i64 ys.length∧aU k e ab f sz v (xs.take i++ys++xs.drop (i+ys.length))∧W (fun b=>b+1=k) H ab):=by
 obtain⟨g2,ae,cs,j,B,O,K,V,L,M⟩:=aU.view h Q;rw[E]at j;simp only[Value.slice.injEq,Option.some.injEq,Addr.mk.injEq,true_and,and_true]at j;obtain⟨rfl,rfl⟩:=j;have av:=h.own.cells;have hlen:=length_flatMap av ys;have U:(i+ys.length)*sz≤xs.length*sz:=Nat.mul_le_mul_right _ A;have ag:xs.length*sz≤cap*sz:=Nat.mul_le_mul_right _ K;rw[Nat.add_mul]at U;refine(Z.vA O (fun w N=>S.ll av rfl N) hlen (fun u hu=>by obtain⟨y,_,hu⟩:=List.mem_flatMap.1 hu;exact h.own.one y u hu) R X aj ak aa (by omega) (by omega)).mono ?_;rintro r ab ⟨T,Y,hm⟩;have C:(xs.take i++ys++xs.drop (i+ys.length)).length=xs.length:=by simp;omega
 refine⟨T,?_,?_⟩
 ·rw[B,E,←C]
  refine aU.back av h.own.one Y (by omega) V ?_ ?_
  ·rw[tB (by omega),L]
  ·rw[C];exact GD av M (by omega) A
 ·exact hm.weaken (fun b _ e=>by rw[B,e])
theorem Z.Ch{k:Nat}{α:Type}{f:α→List Value}{d x:Operand}{t t2 e E:TypeId}{g i C L kQ ah cap sz:Nat}{v:Value}{xs:List α}(h:aU k e H f sz v xs)(af:v= .slice (some ⟨g,0,none⟩) xs.length cap)(q:i<xs.length)(O:xs.length<cap)
 (T:I.op= .call {callee:= .builtin .copy,args:= #[d,x],argTypes:= #[t,t2]})
 (Y:P.underlying t=some (.slice E)) (aj:∀w,(sizeOf E).run P w= .ok sz w) (ak:aH l d=some (.slice (some ⟨g,(i+1)*sz,none⟩) C L)) (ag:aH l x=some (.slice (some ⟨g,i*sz,none⟩) kQ ah)) (Q:xs.length-i=min kQ C):
 Z P w0 n l H I (fun r ab=>r= .int .i64 (xs.length-i:Nat)∧aU k e ab f sz (.slice (some ⟨g,0,none⟩) (xs.length+1) cap) (xs.take (i+1)++xs.drop i)∧W (fun b=>b+1=k) H ab):=by
 have S:xs≠[]:=by intro e;rw[e]at q;simp at q
 obtain⟨g2,ai,cs,B,J,G,al,V,M,F⟩:=aU.view h S;rw[af]at B;simp only[Value.slice.injEq,Option.some.injEq,Addr.mk.injEq,true_and,and_true]at B;obtain⟨rfl,rfl⟩:=B;have av:=h.own.cells;have R:(xs.drop i).length=xs.length-i:=List.length_drop;have hlen:((xs.drop i).flatMap f).length=(xs.length-i)*sz:=by rw[length_flatMap av,R]
 have aa:i*sz+(xs.length-i)*sz=xs.length*sz:=by rw[←Nat.add_mul];congr 1;omega
 have an:(i+1)*sz+(xs.length-i)*sz=(xs.length+1)*sz:=by rw[←Nat.add_mul];congr 1;omega
 have ar:(xs.length+1)*sz≤cap*sz:=Nat.mul_le_mul_right _ O;have au:(i+1)*sz≤xs.length*sz:=Nat.mul_le_mul_right _ q
 have az:∀j,j≤xs.length→cs.take (j*sz)=(xs.take j).flatMap f:=fun j o=>by
  have hm:j*sz≤xs.length*sz:=Nat.mul_le_mul_right _ o;have:=congrArg (List.take (j*sz)) F;rw[List.take_take,Nat.min_eq_left hm]at this;rw[this]
  conv=>lhs;rw[←List.take_append_drop j xs,List.flatMap_append]
  rw[List.take_left' (by rw[length_flatMap av,List.length_take,Nat.min_eq_left o])]
 have X:(cs.take (xs.length*sz)).drop (i*sz)=(xs.drop i).flatMap f:=by
  rw[F]
  conv=>lhs;rw[←List.take_append_drop i xs,List.flatMap_append]
  rw[List.drop_left' (by rw[length_flatMap av,List.length_take,Nat.min_eq_left (by omega)])]
 have K:b8 H ⟨g,i*sz,none⟩ ((xs.drop i).flatMap f):=by
  have:=(G.O.take (xs.length*sz)).drop (i*sz);rw[X,add_eq rfl]at this
  simpa using this
 refine(Z.vA (k:=xs.length-i) (sz:=sz) G (fun w N j v o=>by rw[N.cell,add_eq K.spot];exact K.cells j v o) hlen (fun u hu=>by obtain⟨y,_,hu⟩:=List.mem_flatMap.1 hu;exact h.own.one y u hu) T Y aj ak ag Q (by omega)).mono ?_;rintro r ab ⟨U,ae,hm⟩;have A:(xs.take (i+1)++xs.drop i).length=xs.length+1:=by simp;omega
 refine⟨U,?_,hm.weaken (fun b _ e=>by rw[J,e])⟩;rw[J,←A];refine aU.back av h.own.one ae (by omega) V ?_ ?_
 ·rw[tB (by omega),M]
 ·rw[A,dU,az (i+1) (by omega),←List.flatMap_append,List.take_left' (by rw[length_flatMap av,A])]
theorem Y.yw{x:Operand}{d:Option Operand}{t e:TypeId}{g len cap sz:Nat}(j:Nat)(q:I.op= .slice t x none d none)(r:∀w,(underlying t).run P w= .ok (.slice e) w)(aj:∀w,(sizeOf e).run P w= .ok sz w)(A:aH l x=some (.slice (some ⟨g,0,none⟩) len cap))
 (i:d=none∧j=len∨∃p k aF,d=some p∧aH l p=some (.int k aF)∧aF=(j:Int)) (o:j≤cap):Y P w0 n l H I (.slice (some ⟨g,0,none⟩) j cap):=by
 have:=Y.yy (P:=P) (w0:=w0) (n:=n) (H:=H) 0 j q r aj A (.inl ⟨rfl,rfl⟩) i (Nat.zero_le _) o
 simpa[add_eq]using this
theorem Y.mV{x p:Operand}{t e:TypeId}{g len cap sz:Nat}{k:IntKind}{aF:Int}(i:Nat)(r:I.op= .slice t x (some p) none none)(A:∀w,(underlying t).run P w= .ok (.slice e) w)(aj:∀w,(sizeOf e).run P w= .ok sz w)(B:aH l x=some (.slice (some ⟨g,0,none⟩) len cap))
 (q:aH l p=some (.int k aF)) (j:aF=(i:Int)) (d:i≤len) (av:i<cap) (o:len≤cap):Y P w0 n l H I (.slice (some ⟨g,i*sz,none⟩) (len-i) (cap-i)):=by
 have:=Y.yy (P:=P) (w0:=w0) (n:=n) (H:=H) i len r A aj B (.inr ⟨_,_,_,rfl,q,j⟩) (.inl ⟨rfl,rfl⟩) d o;rw[if_neg (by omega)]at this
 simpa[add_eq]using this
end
abbrev jA:bu:=HR
theorem Du{l:List bu}{x:bu}{i:Nat}(h:i=l.length):l++[x]=l.take i++x::l.drop i:=by subst h;simp
theorem Dv{l:List bu}{x:bu}{i n:Nat}(k:i<l.length)(aC:n=l.length+1-i):
 ((l.take i++List.replicate n jA).take i++[x]++(l.take i++List.replicate n jA).drop (i+1)).take (i+1)++l.drop i++((l.take i++List.replicate n jA).take i++[x]++(l.take i++List.replicate n jA).drop (i+1)).drop (i+1+(l.drop i).length)=l.take i++x::l.drop i:=by
 have d:(l.take i).length=i:=by rw[List.length_take];omega
 have V:(l.take i++[x]).length=i+1:=by simp[d]
 have aN:(l.take i++List.replicate n jA).take i=l.take i:=List.take_left' d;rw[aN,List.take_left' V];have j:(l.take i++[x]++(l.take i++List.replicate n jA).drop (i+1)).drop (i+1+(l.drop i).length)=[]:=List.drop_eq_nil_of_le (by simp[d];omega);rw[j];simp
theorem Dw{l:List bu}{x:bu}{i:Nat}(j:i<l.length):(l.take (i+1)++l.drop i).take i++[x]++(l.take (i+1)++l.drop i).drop (i+1)=l.take i++x::l.drop i:=by
 have d:(l.take (i+1)).length=i+1:=by rw[List.length_take];omega
 rw[List.drop_left' d,List.take_append_of_le_length (by omega),List.take_take,Nat.min_eq_left (by omega)];simp
theorem Fz{F:Nat→Prop}{H:Heap}{l:List bu}{g cap i:Nat}(h:Rd F H bQ 33 (.slice (some ⟨g,0,none⟩) l.length cap) l):Rd F H bQ 33 (.slice (some ⟨g,0,none⟩) (l.take i).length cap) (l.take i):=by
 obtain⟨a,c,e,B,V,r⟩:=h.ex;cases e;refine⟨_,_,rfl,by rw[List.length_take];omega,V,fun A=>?_⟩;obtain⟨ad,aN,k,n,o,q⟩:=r (by intro e;subst e;simp at A);exact⟨ad,aN,k,n,o,fun j x d=>q j x (by rw[List.getElem?_take]at d;split at d;exact d;cases d)⟩
theorem Fy{F:Nat→Prop}{H:Heap}{l:List bu}{g cap i:Nat}(h:Rd F H bQ 33 (.slice (some ⟨g,0,none⟩) l.length cap) l):Rd F H bQ 33 (.slice (some ⟨g,i*33,none⟩) (l.drop i).length (cap-i)) (l.drop i):=by
 obtain⟨a,c,e,B,V,q⟩:=h.ex;cases e;refine⟨_,_,rfl,by rw[List.length_drop];omega,by omega,fun r=>?_⟩;obtain⟨ad,aN,A,k,n,o⟩:=q (by intro e;subst e;simp at r);cases aN;refine⟨_,rfl,rfl,k,n,fun j x d=>?_⟩;rw[List.getElem?_drop]at d;have:=o (i+j) x d
 simpa[Nat.add_mul]using this
section
variable {P : Program} {w0 : World} {n : Nat} {l : bO} {H : Heap} {I : Oper}
theorem Y.overlaps{f:FuncId}{fn:Func}{args:List Operand}{r:Array TypeId}{tS tR e:TypeId}{g d q o off aZ j sz:Nat}{cs:List Value}{k:Array Value}(i:H[d]?=some (.cells k e (0,0)))(K:Var e H g cs)(F:d≠g)(B:cs.length≠0)
 (G:I.op= .call {callee:= .value (.func f),args:=args.toArray,argTypes:=r}) (C:P.funcs[f]?=some fn) (E:(fn.name== "runtime.NumGoroutine")=false) (aA:fn.body.isNone=true) (aC:Extern.findNext fn=none) (he:Extern.find fn=some (Extern.SlicesOverlaps.overlaps #[tS,tS] #[tR]))
 (J:P.underlying tS=some (.slice e)) (aj:∀w,(sizeOf e).run P w= .ok sz w) (A:gH l args=some [.slice (some ⟨d,0,none⟩) q o,.slice (some ⟨g,off,none⟩) aZ j]):Y P w0 n l H I (.bool false):=by
 refine Y.ext G C E aA aC he A (fun w hw=>?_);obtain⟨L,x,_⟩:=K.row;refine Lib.run_overlaps_apart w tS tR e J sz aj ⟨d,0,none⟩ ⟨g,off,none⟩ q o aZ j F e e k.size cs.toArray.size ?_ ?_ (by simpa using B) ?_ ?_
 ·simp[World.shape?,hw.heap,i]
 ·simp[World.shape?,hw.heap,x]
 ·simp[World.frozen?,hw.heap,i]
 ·simp[World.frozen?,hw.heap,i]
end
section
variable {α : Type} {P : Program} {w0 : World} {n : Nat} {l : bO} {H : Heap} {I : Oper} {e : TypeId} {f : α → List Value} {sz : Nat}
theorem Z.DM{t:TypeId}{k bytes:Nat}{parts:List (Nat×Operand)}(d:List Value)(zs:List α)(O:I.op= .buildSlice t k parts.toArray)(Y:c3 P t e sz bytes)(Q:gH l (parts.map (·.2))=some d)(N:parts.map (·.1)=List.range k)(j:d.length=k)(ar:k*sz≤16777216)(an:k≤16777216)
 (av:∀x,(f x).length=sz) (U:∀x,∀u∈f x,u.oneCell'=true) (G:d.map (fun v=>v.cells.toList)=zs.map f):
 Z P w0 n l H I (fun r ab=>Own (fun b=>b=H.size) e ab f sz r zs∧aq H ab∧∃c:Array Value,ab=H.push (.cells c e (0,0))):=by
 obtain⟨S,i,z,B,ah,ae,al,au⟩:=Y;subst ae;intro a w X J;have L:=X.jH Q;have T:zs.length=k:=by have:=congrArg List.length G;simpa[j]using this.symm
 have R:(parts.toArray.map (fun(x:Nat×Operand)=>(x.1,a.eval x.2))).toList=(d.zipIdx 0).map (fun p=>(p.2,p.1)):=by
  have aN:parts.map (fun(x:Nat×Operand)=>(x.1,a.eval x.2))=(List.range k).zip d:=by
   rw[←N,←L,List.map_map];clear N L Q O
   induction parts with
   |nil=>rfl
   |cons p eP ih=>simp[ih]
  rw[List.map_toArray];simp only;rw[aN,List.zipIdx_eq_zip_range',w2 j]
 have K:∀v∈d,v.cells.size=i.size:=by
  intro v af;have:v.cells.toList∈zs.map f:=by rw[←G];exact List.mem_map.2 ⟨v,af,rfl⟩
  obtain⟨x,_,ag⟩:=List.mem_map.1 this;have:=av x;rw[ag]at this
  simpa using this
 have M:d.flatMap (fun v=>v.cells.toList)=zs.flatMap f:=by rw[List.flatMap_def,List.flatMap_def,G]
 have W:∀(o:Array Value),((Array.range (k*i.size)).map (o[·%o.size]!)).toList=[]++((Array.range (k*i.size)).map (o[·%o.size]!)).toList:=fun _=>rfl
 have F:∃cs:Array Value,cs.toList=zs.flatMap f∧(Instr.buildSlice t k (parts.toArray.map (fun(x:Nat×Operand)=>(x.1,a.eval x.2)))).run P w= .ok (.slice (some ⟨w.heap.size,0,none⟩) k k) (w.alloc (.cells cs e)):=by
  by_cases q:k*i.size=0
  ·obtain⟨r,C,E⟩:=oO i.size d 0 #[] [] [] rfl (by simp) (by simp[j,q]) K
   refine⟨r,by rw[E,M];rfl,?_⟩;simp only[Instr.buildSlice,Sem.run_bind,run_underlying S,Result.andThen_ok,sizeOf,typeInfo,run_program,B,Sem.run_pure,R];have ai:∀g:Nat→Value,(Array.range 0).map g= #[]:=fun g=>by simp
   simp[q,ai,C,newRow]
  ·obtain⟨r,C,E⟩:=oO i.size d 0 ((Array.range (k*i.size)).map (z.cells[·%z.cells.size]!)) [] _ (W _) (by simp) (by simp[j]) K
   refine⟨r,by rw[E,M];rfl,?_⟩;simp only[Instr.buildSlice,Sem.run_bind,run_underlying S,Result.andThen_ok,sizeOf,typeInfo,run_program,B,Sem.run_pure,R];have aa:¬(k*i.size>2^24):=by simp only[Nat.reducePow];omega
   simp[q,aa,zeroValue,typeInfo,B,ah,C,newRow]
 obtain⟨cs,A,F⟩:=F;refine⟨.slice (some ⟨w.heap.size,0,none⟩) k k,H.push (.cells cs e),w.alloc (.cells cs e),?_,J.alloc (.cells cs e),⟨av,U,.inr ⟨H.size,k,cs,?_,rfl,.of (by simp),?_,?_,?_,?_⟩⟩,aq.pu _ _,_,rfl⟩
 ·simp only[execOp,O,Sem.run_bind,F,Result.andThen_ok,Sem.run_pure]
 ·rw[T,J.heap]
 ·omega
 ·unfold maxLen;omega
 ·rw[←Array.length_toList,A,length_flatMap av,T]
 ·rw[←length_flatMap av,List.take_of_length_le (by rw[←A];exact Nat.le_refl _),A]
theorem Z.DN{t:TypeId}{k bytes:Nat}{parts:List (Nat×Operand)}(d:List Value)(zs:List α)(E:I.op= .buildSlice t k parts.toArray)(q:c3 P t e sz bytes)(F:gH l (parts.map (·.2))=some d)(o:parts.map (·.1)=List.range k)(A:d.length=k)(C:k*sz≤16777216)(B:k≤16777216)
 (av:∀x,(f x).length=sz) (i:∀x,∀u∈f x,u.oneCell'=true) (G:d.map (fun v=>v.cells.toList)=zs.map f):
 Z P w0 n l H I (fun r ab=>aU (H.size+1) e ab f sz r zs∧aq H ab∧∃c:Array Value,ab=H.push (.cells c e (0,0))):=
 (Z.DM d zs E q F o A C B av i G).mono fun r ab ⟨i,V,c,j⟩=>⟨aU.new (fun _ e=>e) i j,V,c,j⟩
end
theorem Dx(k C:Nat)(v ae:Value)(l:List bu)(x:bu)(i:Nat)(w0:World)(J:Heap)
 (j:aU k 68 J bQ 33 v l) (q:aU C 68 J bQ 33 ae [x]) (au:af k C) (ca:i≤l.length) (bH:∃c,J[C-1]?=some (.cells c 68 (0,0))) (cd:l.length≤1048576):
 aG Tryz.prog w0 63 #[v,.int .i64 i,ae] J (fun r ai=>∃aD:Value,∃aC:Nat,r=aD∧(aU aC 68 ai bQ 33 aD (l.take i++x::l.drop i))∧(U k J.size aC)∧W (aB [k]) J ai):=by
 refine aG.aN [v,.int .i64 i,ae] Tryz.func63 ?_;intro bJ ab;have n:W (aB [k]) J J:=W.refl _ _;have E:=U.refl k J.size;have bb:=j.le;have bU:=q.le;have cf:=j.len;refine G.L (fun aJ=>?_);refine o.al ?_;refine aJ (G.L (fun aK=>?_));refine o.az 2 ?_;refine o.aN (g:=fun v=>v) (Y.slice j.rd (i) (l.length) rfl cA cr rfl (.inr ⟨_,_,_,rfl,rfl,by first|rfl|omega⟩) (.inl ⟨rfl,rfl⟩) (by omega) (by omega)) fun bM cj=>?_;refine o.nil (aK (G.L (fun aL=>?_)));refine o.aa ?_;refine o.v1 (Y.cast (v2:= .int .i64 1) (bf q.rd cA) (rfl)) ?_;refine o.al ?_;refine aL (G.t1 (fun aM=>G.L (fun aN=>?_)));refine o.aa ?_;refine o.v1 ((cb).fC (fun h=>by simp at h)) (o.nil (aN ?_));refine dK ?_;refine G.skip (aM (G.L (fun aO=>?_)));refine o.aa ?_;refine o.v1 (bf j.rd cA) ?_;refine o.al ?_;refine aO (G.t2 (fun aP aQ=>G.L (fun aR=>?_)));refine o.az 2 ?_;refine o.v1 cb (o.nil (aR ?_));refine aW (fun aS=>?_) (fun aS=>?_)
 ·
  refine G.L (fun aT=>?_);refine o.az 2 ?_;refine o.aS (eg j q.rd iz (by simp only[List.length_cons,List.length_nil];omega) (by simp only[List.length_cons,List.length_nil];omega)) fun aV bN aX=>?_;obtain⟨aw,j,X,O⟩:=aX;have X:U k J.size aw:=X;have O:=O.md;have aZ:U k J.size aw:=U.L (E) X n.size;have n:=n.aL O (ah.I (ao.r E));have bO:=O.size;have bb:=j.le;refine o.al ?_;refine aT ?_;refine G.ret (aQ (ab ?_));exact⟨aV,aw,rfl,by rw[←Du (by omega)];exact j,aZ,n⟩
 ·
  have K:i<l.length:=by omega
  have bB:l≠[]:=by intro e;rw[e]at K;simp at K
  obtain⟨g,cap,cs,B,bA,bF,b6,bx,b8,_⟩:=aU.view j bB;unfold maxLen at bx;obtain⟨R,ar,b2,N,cc,_,b7,b9,_,_⟩:=aU.view q (by simp);obtain⟨b3,az⟩:=bH;rw[show C-1=R by omega]at az;have bz:R≠g:=fun e=>au g bA.symm (by omega);refine G.skip (aP (G.t2 (fun am bc=>G.L (fun ap=>?_))));refine o.az 2 ?_;refine o.v1 bD ?_;refine o.aa ?_;refine o.v1 (Y.BU rfl cA (congrArg some B)) ?_;refine o.v1 eX (o.nil (ap ?_));refine aW (fun a1=>?_) (fun a1=>?_)
  ·
   obtain⟨bE,i0,z0,ay,al,a6,bt,_⟩:=iz
   have a7:z0.cells.toList=bQ jA:=by
    have d:(zeroValue 68).run Tryz.prog w0= .ok (.agg (bQ jA).toArray) w0:=by kernel_rfl
    simp[zeroValue,typeInfo,ay,al]at d;rw[d];rfl
   have L:(l.take i).length=i:=by rw[List.length_take];omega
   refine G.L (fun bd=>?_);refine o.az 2 ?_;refine o.v1 (Y.yw i rfl cA cr (congrArg some B) (.inr ⟨_,_,_,rfl,rfl,rfl⟩) (by omega)) ?_;refine o.az 2 ?_;refine o.v1 bD ?_;refine o.aa ?_;refine o.v1 (Y.cast (v2:= .int .i64 ((l.length+1-i:Nat):Int)) fG (by congr 1;omega)) ?_;refine o.aS (Z.zV (F:=fun b=>b+1=k) (ad:=⟨g,0,none⟩) (c:=cap) (xs:=l.take i) (m:=l.length+1-i) jA di hr (by have d:=j.rd;rw[B]at d;exact Fz d) rfl bE Tryz.underlying3 ay al a6 bt a7 (by decide) (by omega) (by rw[L];rfl) rfl (by rw[L];omega) (by rw[L];omega) (by rw[L];omega)) fun a8 a_ ba=>?_;obtain⟨on,P,a0,bg⟩:=ba;have bP:a_.size=J.size+1:=by rw[bg];simp
   have cg:af k (J.size+1):=af.new j.le;have an:U 0 J.size (J.size+1):=U.new n.size;have j:=j.N P;have q:=q.N P;have n:=n.a8 P;have a9:=P.size;have A:(l.take i++List.replicate (l.length+1-i) jA).length=l.length+1:=by rw[List.length_append,L,List.length_replicate];omega
   obtain⟨g2,b1,_,M,_,_,bw,_,_,_⟩:=aU.view on (by intro e;rw[e]at A;simp at A);rw[A]at M bw;refine o.al ?_;refine bd (G.L (fun bk=>?_));refine o.az 2 ?_;refine o.v1 (Y.mV i rfl cA cr (congrArg some M) rfl rfl (by omega) (by omega) (by omega)) ?_;refine o.aa ?_;refine o.aS (Z.r3 (i:=i) on (by rw[A];exact M) (show Rd (fun b=>b+1=C) _ bQ 33 (.slice (some ⟨R,0,none⟩) [x].length ar) [x]from by have d:=q.rd;rw[N]at d;exact d) (by intro e;rw[e]at A;simp at A) rfl Tryz.underlying30 cr rfl (congrArg some N) (by simp;omega) (by rw[A];simp;omega) (by simp)) fun bR bV a2=>?_;obtain⟨rfl,on,H⟩:=a2;have H:=H.md;have j:=j.ae H (ag.I cg);have n:=n.aL H (ah.I (ao.q an));have bW:=H.size;have S:((l.take i++List.replicate (l.length+1-i) jA).take i++[x]++(l.take i++List.replicate (l.length+1-i) jA).drop (i+[x].length)).length=l.length+1:=by simp;omega
   refine o.nil (bk (G.t1 (fun bl=>?_)));refine G.jq 8 rfl (by kernel_rfl) (fun bK bq=>?_);refine o.az 3 ?_;refine o.v1 bD ?_;refine o.v1 (Y.mV (i+1) rfl cA cr (congrArg some M) rfl (by simp) (by omega) (by omega) (by omega)) ?_;refine o.az 2 ?_;refine o.v1 (Y.mV i rfl cA cr (congrArg some B) rfl rfl (by omega) (by omega) (by omega)) ?_;refine o.nil (bq _ ?_);refine o.aS (Z.r3 (i:=i+1) (ys:=l.drop i) on (by rw[S];exact M) (show Rd (fun b=>b+1=k) _ bQ 33 (.slice (some ⟨g,i*33,none⟩) (l.drop i).length (cap-i)) (l.drop i)from by have d:=j.rd;rw[B]at d;exact Fy d) (by intro e;rw[e]at S;simp at S) rfl Tryz.underlying30 cr rfl (by rw[List.length_drop];rfl) (by rw[List.length_drop];omega) (by rw[S,List.length_drop];omega) (by intro e;have d:=congrArg List.length e;rw[List.length_drop]at d;simp at d;omega)) fun bX bT a3=>?_;obtain⟨rfl,on,Q⟩:=a3;have Q:=Q.md;have n:=n.aL Q (ah.I (ao.q an));have be:=Q.size;refine o.nil (bl (G.L (fun bm=>?_)));refine o.aP 2 ?_;refine bm ?_;refine G.ret (bc (ab ?_));exact⟨a8,(J.size+1),rfl,by have d:=on;rw[show i+[x].length=i+1 from rfl,Dv K rfl]at d;exact d,(by unfold U;omega),n⟩
  ·
   refine G.skip (am (G.L (fun bn=>?_)));refine o.az 3 ?_;refine o.v1 bD ?_;refine o.v1 (Y.yw (l.length+1) rfl cA cr (congrArg some B) (.inr ⟨_,_,_,rfl,rfl,by simp⟩) (by omega)) ?_;refine o.al ?_;refine bn (G.t2 (fun _ bo=>G.L (fun bp=>?_)));refine o.az 4 ?_;refine o.v1 bD ?_;refine o.v1 (Y.mV (i+1) rfl cA cr rfl rfl (by simp) (by omega) (by omega) (by omega)) ?_;refine o.v1 (Y.overlaps (tS:=30) (tR:=4) az bF bz (by omega) rfl rfl (by kernel_rfl) (by kernel_rfl) (by kernel_rfl) (by kernel_rfl) Tryz.underlying30 cr (congrArg (fun z=>some [z,_]) N)) ?_;refine o.v1 eG (o.nil (bp ?_));refine G.h9 rfl ?_;refine G.t1 (fun aF=>?_);refine G.jq 8 rfl (by kernel_rfl) (fun bL bs=>?_);refine o.az 3 ?_;refine o.v1 bD ?_;refine o.v1 (Y.mV (i+1) rfl cA cr rfl rfl (by simp) (by omega) (by omega) (by omega)) ?_;refine o.az 2 ?_;refine o.v1 (Y.mV i rfl cA cr rfl rfl rfl (by omega) (by omega) (by omega)) ?_;refine o.nil (bs _ ?_);refine o.aS (Z.Ch (i:=i) j B K (by omega) rfl Tryz.underlying30 cr rfl rfl (by omega)) fun b5 bY a4=>?_;obtain⟨rfl,j,ac⟩:=a4;have ac:=ac.md;have q:=q.ae ac (ag.I au.symm);have n:=n.aL ac (ah.I (ao.r E));have bZ:=ac.size;have T:(l.take (i+1)++l.drop i).length=l.length+1:=by simp;omega
   refine o.nil (aF (G.L (fun aH=>?_)));refine o.az 2 ?_;refine o.v1 (Y.mV i rfl cA cr rfl rfl rfl (by omega) (by omega) (by omega)) ?_;refine o.aa ?_;refine o.aS (Z.r3 (i:=i) j (by rw[T]) (show Rd (fun b=>b+1=C) _ bQ 33 (.slice (some ⟨R,0,none⟩) [x].length ar) [x]from by have d:=q.rd;rw[N]at d;exact d) (by intro e;rw[e]at T;simp at T) rfl Tryz.underlying30 cr rfl (congrArg some N) (by simp;omega) (by rw[T];simp;omega) (by simp)) fun bi b0 a5=>?_;obtain⟨rfl,j,aa⟩:=a5;have aa:=aa.md;have n:=n.aL aa (ah.I (ao.r E));refine o.nil (aH (G.L (fun aI=>?_)));refine o.aP 2 ?_;refine aI ?_;refine G.ret (bo (ab ?_));exact⟨.slice (some ⟨g,0,none⟩) (l.length+1) cap,k,rfl,by have d:=j;rw[show i+[x].length=i+1 from rfl,Dw K]at d;exact d,E,n⟩
theorem oG:∀{a b:List UInt8},Lib.compareBytes a b<0↔Op.bytesLess a b=true
 |[],[]=>by simp[Lib.compareBytes,Op.bytesLess]
 |[],_::_=>by simp[Lib.compareBytes,Op.bytesLess]
 |_::_,[]=>by simp[Lib.compareBytes,Op.bytesLess]
 |x::a,y::b=>by
  simp only[Lib.compareBytes,Op.bytesLess];by_cases d:x<y
  ·simp[d]
  ·by_cases V:y<x
   ·have:¬x=y:=fun e=>by subst e;exact d V
    simp[d,V,this]
   ·have e:x=y:=by apply UInt8.toNat.inj;rw[UInt8.lt_iff_toNat_lt]at d V;omega
    subst e;simp[d,oG (a:=a) (b:=b)]
theorem r0:∀{a b:List UInt8},Lib.compareBytes a b=0↔a=b
 |[],[]=>by simp[Lib.compareBytes]
 |[],_::_=>by simp[Lib.compareBytes]
 |_::_,[]=>by simp[Lib.compareBytes]
 |x::a,y::b=>by
  simp only[Lib.compareBytes];by_cases d:x<y
  ·have:¬x=y:=fun e=>by subst e;simp[UInt8.lt_iff_toNat_lt]at d
   simp[d,this]
  ·by_cases V:y<x
   ·have:¬x=y:=fun e=>by subst e;exact d V
    simp[d,V,this]
   ·have e:x=y:=by apply UInt8.toNat.inj;rw[UInt8.lt_iff_toNat_lt]at d V;omega
    subst e;simp[d,r0 (a:=a) (b:=b)]
theorem B_(u v:Value)(a b:List UInt8)(w0:World)(J:Heap)
 (d:bM J a6 1 u a) (aA:bM J a6 1 v b):
 aG Tryz.prog w0 62 #[u,v] J (fun r i=>r= .int .i64 (Lib.compareBytes a b)∧aq J i):=by
 refine aG.aN [u,v] Tryz.func62 ?_;intro x q;have n:aq J J:=W.refl _ _;have d:=d.b2;have aA:=aA.b2;refine G.L (fun j=>?_);refine o.al ?_;refine j (G.L (fun k=>?_));refine o.az 2 ?_;refine o.v1 (Y.compare d aA rfl Tryz.func136 (by kernel_rfl) (by kernel_rfl) (by kernel_rfl) (by kernel_rfl) rfl) ?_;refine o.al ?_;refine k ?_;refine G.ret (q ?_);exact⟨rfl,n⟩
theorem tO(s:c1)(F:Nat→Prop)(w0:World)(J:Heap)
 (aj:fo F J s) (cD:bk F J.size) (ok:s.m.Ok):
 aG Tryz.prog w0 39 #[eR s] J (fun r E=>∃s2:c1,∃cR:Nat,∃aQ:Nat→Prop,r=eR s2∧(iN aQ E s2)∧(aU cR 68 E bQ 33 s2.b9.v s2.el)∧(U 0 J.size cR)∧(bk aQ E.size)∧(∀c,aQ c→J.size≤c)∧(ax aQ cR)∧(s2.m=s.m)∧aq J E):=by
 refine aG.enter (args:=[eR s]) Tryz.func39 rfl rfl rfl ?_;intro gd fY;have n:aq J J:=W.refl _ _;have aS:=FZ ok;have z2:=DQ ok;have z3:=Cy ok;have z4:=DW ok;have z5:=D9 ok;have hn:=G8 ok;refine G.L (fun fR=>?_);refine o.aS cY ?_;rintro v1 H1 ⟨rfl,L,cP,em,fS⟩;have gE:H1.size=J.size+1:=by rw[fS];simp
 have aj:=aj.N cP;have n:=n.L cP;have gC:=cP.size;have L:Var 47 H1 J.size (b3 s):=L;refine o.aS (dk kW) ?_;rintro v2 E ⟨rfl,C,cp,g_,fT⟩;have gF:E.size=H1.size+1:=by rw[fT];simp
 have fq:U 0 J.size (H1.size+1):=U.new n.size;have aj:=aj.N cp;have L:=L.N cp;have n:=n.L cp;have b1:=cp.size;refine o.nil (fR ?_)
 refine G.cut (fun(cc:(aO)×(Nat)×(Nat))=>match cc with|(R,P,B)=>[(1,.pointer (some ⟨J.size,0,none⟩)),(2,.pointer (some ⟨H1.size,0,none⟩)),(3,.pointer (some ⟨B,0,none⟩))])
  (fun(R,P,B) (H:Heap)=>(aU P 71 H dE 33 R.v s.aY)∧(Var 47 H B (b3 ⟨s.ak,R,s.aY,dw,[],s.q,dw,[]⟩))∧(U 0 E.size P)∧(U 0 E.size ((B+1)))∧(af P ((B+1)))∧aq E H) (fun _ dl _=>?_) ?_
 ·
  have X:aq E E:=W.refl _ _;refine dg (fun A=>aq E A) [9] ?_;have am:aq E E:=W.refl _ _;refine T.t1 0 rfl (fun A k=>Y.an (L.O.N k) rfl cH rfl bV) am ?_;refine T.t1 1 rfl (fun A k=>au (L.O.N k) bR) am ?_;refine T.t1 2 rfl (fun A k=>Y.an (L.O.N k) rfl cH rfl h2) am ?_;refine T.t1 3 rfl (fun A k=>au ((L.O.drop 1).N k) jh) am ?_;refine T.t1 5 rfl (fun A k=>Y.an (L.O.N k) rfl cH rfl dY) am ?_;refine T.t1 6 rfl (fun A k=>Y.cast (v2:=gu s.q) (a_ (((L.O.drop 3).N k).take 70) j9 dY (by rw[nt];exact fz _)) (cn (nt s))) am ?_;refine T.two (i:=4) (j:=8) (by kernel_rfl) ?_ ?_
  ·
   refine b7 u0 (x1 s.fN.v s.aY w0 _ aj.r.any (by omega)) (fun fu ae co=>?_);obtain⟨R,P,rfl,or,bJ,bb⟩:=co;have fg:U 0 E.size P:=U.L (U.refl 0 _) bJ X.size;have fh:U 0 E.size P:=U.L (U.refl 0 _) bJ am.size;have X:=X.L bb;have am:=am.L bb;have ha:=bb.size;have cV:=or.le;refine⟨.inr am,T.narrow (SH2:=fun A=>W (aB [P]) ae A) (fun A k=>(W.aL (ks:=[]) (am.kI []) k (ah.I (ao.q fh))).nil) ?_⟩;have am:W (aB [P]) ae ae:=W.refl _ _;have fi:=U.refl P ae.size;refine T.t1 (v:=eR ⟨s.ak,R,s.aY,dw,[],s.q,dw,[]⟩) 7 rfl (fun A k=>?_) am ?_
   ·exact Y.build (v:=eR ⟨s.ak,R,s.aY,dw,[],s.q,dw,[]⟩) rfl rfl (by intro w;exact uT _)
   refine T.aX 8 ?_;refine ey rfl (dk kW) ?_;rintro v3 a1 ⟨rfl,d,aZ,fw,cs⟩;have fj:a1.size=ae.size+1:=by rw[cs];simp
   have cX:af P (ae.size+1):=af.new or.le;have c0:U 0 E.size (ae.size+1):=U.new X.size;have bw:U 0 ae.size (ae.size+1):=U.new am.size;have or:=or.N aZ;have X:=X.L aZ;have am:=am.a8 aZ;have es:=aZ.size;refine T.bZ am (ah.cons (ao.r fi) (ah.I (ao.q bw))) ?_;refine T.aX 9 ?_;refine gW rfl (eh d (_) (b3 ⟨s.ak,R,s.aY,dw,[],s.q,dw,[]⟩) (ke _) ev (cO _) ((dJ (cO _).symm))) (fun cZ br=>?_);obtain⟨d,aL⟩:=br;have aL:=aL.bB;have or:=or.ae aL (ag.I cX);have X:=X.bx aL (ah.I (ao.q c0));have hb:=aL.size;refine⟨.inl rfl,?_⟩;refine cI ?_;refine aR.sub (dl (R,P,ae.size) _ ?_) ⟨rfl,rfl,rfl,trivial⟩;exact⟨or,d,fg,c0,cX,X⟩
  ·
   refine ey rfl (dk kW) ?_;rintro v3 a1 ⟨rfl,d,aZ,fw,cs⟩;have fj:a1.size=E.size+1:=by rw[cs];simp
   have c2:U 0 E.size (E.size+1):=U.new X.size;have fk:U 0 E.size (E.size+1):=U.new am.size;have aj:=aj.N aZ;have X:=X.L aZ;have am:=am.L aZ;have hc:=aZ.size;refine⟨.inr am,T.narrow (SH2:=fun A=>W (aB [(E.size+1)]) a1 A) (fun A k=>(W.aL (ks:=[]) (am.kI []) k (ah.I (ao.q fk))).nil) ?_⟩;have am:W (aB [(E.size+1)]) a1 a1:=W.refl _ _;have fl:=U.refl (E.size+1) a1.size;refine T.aX 4 ?_;refine b7 u0 (x1 s.fN.v s.aY w0 _ aj.r.any (by omega)) (fun fu ae co=>?_);obtain⟨R,P,rfl,or,bJ,bb⟩:=co;have c3:af (E.size+1) P:=af.app (af.z) d.lt bJ;have fm:U 0 E.size P:=U.L (U.refl 0 _) bJ X.size;have fp:U 0 a1.size P:=U.L (U.refl 0 _) bJ am.size;have d:=d.N bb;have X:=X.L bb;have am:=am.a8 bb;have hd:=bb.size;have cV:=or.le;refine T.bZ am (ah.cons (ao.r fl) (ah.I (ao.q fp))) ?_;have am:W (aB [(E.size+1),P]) ae ae:=W.refl _ _;refine T.t1 (v:=eR ⟨s.ak,R,s.aY,dw,[],s.q,dw,[]⟩) 7 rfl (fun A k=>?_) am ?_
   ·exact Y.build (v:=eR ⟨s.ak,R,s.aY,dw,[],s.q,dw,[]⟩) rfl rfl (by intro w;exact uT _)
   refine T.aX 9 ?_;refine gW rfl (eh d (_) (b3 ⟨s.ak,R,s.aY,dw,[],s.q,dw,[]⟩) (ke _) ev (cO _) ((dJ (cO _).symm))) (fun cZ br=>?_);obtain⟨d,aL⟩:=br;have aL:=aL.bB;have or:=or.ae aL (ag.I c3.symm);have X:=X.bx aL (ah.I (ao.q c2));have ex:=aL.size;refine⟨.inl rfl,?_⟩;refine cI ?_;refine aR.sub (dl (R,P,E.size) _ ?_) ⟨rfl,rfl,rfl,trivial⟩;exact⟨or,d,fm,c2,c3.symm,X⟩
 ·
  rintro⟨R,P,B⟩ gf eo;obtain⟨or,d,cW,ck,a0,bZ⟩:=eo;have eD:af (H1.size+1) P:=af.app (af.z) C.lt cW;have eE:U 0 J.size P:=U.L (U.refl 0 _) cW n.size;have cE:=ax.app (ax.z) (cD.mono n.size) ck;have c5:af (J.size+1) ((B+1)):=af.app (af.z) L.lt ck;have cG:af (H1.size+1) ((B+1)):=af.app (af.z) C.lt ck;have cJ:U 0 J.size ((B+1)):=U.L (U.refl 0 _) ck n.size;have aj:=aj.N bZ;have L:=L.N bZ;have C:=C.N bZ;have n:=n.L bZ;have hf:=bZ.size;have cV:=or.le;have gg:=d.le;have bv:=a0;refine G.L (fun fx=>?_);refine o.v1 (Y.an L.O rfl cH rfl dY) ?_;refine o.v1 (Y.an (L.O.drop 3) rfl bN rfl e4) ?_;refine o.v1 (au L.O.GO fU) ?_;refine aV vi (yU s.q.cf.v s.q.ba w0 _ aj.q.any (by omega)) (fun hg gG fy=>?_);obtain⟨bE,b6,rfl,aC,cK,bm⟩:=fy;have eF:af (H1.size+1) b6:=af.app (af.z) C.lt cK;have cL:af ((B+1)) b6:=af.app (af.z) d.lt cK;have eG:U 0 J.size b6:=U.L (U.refl 0 _) cK n.size;have aj:=aj.N bm;have L:=L.N bm;have C:=C.N bm;have or:=or.N bm;have d:=d.N bm;have n:=n.L bm;have gk:=bm.size;have gi:=aC.le;refine o.v1 (Y.an d.O rfl cH rfl dY) ?_;refine o.v1 (Y.an (d.O.drop 3) rfl bN rfl e4) ?_;refine o.s1 (dL d 69 (b3 ⟨s.ak,R,s.aY,dw,[],{s.q with cf:=bE},dw,[]⟩) (rfl) e4 (by rw[cO];omega) ((yL _ _))) fun a3 eH=>?_;obtain⟨d,aX⟩:=eH;have aX:=aX.bB;have aj:=aj.ae aX (ay.I cE);have L:=L.ae aX (ag.I c5);have C:=C.ae aX (ag.I cG);have or:=or.ae aX (ag.I bv);have aC:=aC.ae aX (ag.I cL.symm);have n:=n.bx aX (ah.I (ao.q cJ));have gl:=aX.size;refine o.nil (fx (G.t1 (fun fA=>G.L (fun fB=>?_))));refine o.v1 (Y.an L.O rfl cH rfl gS) ?_;refine o.v1 (au (L.O.drop 2) hT) ?_;refine o.v1 (bf aj.g h6) ?_;refine o.aa (o.nil (fB ?_));refine G.aD (fun _ fC _=>?_)
  refine G.bc (fun(cc:(Nat)×(aO)×(Nat)×(List ir)×(Nat→Prop))=>match cc with|(j,s1,Q,ab,aH)=>[(1,.pointer (some ⟨J.size,0,none⟩)),(2,.pointer (some ⟨H1.size,0,none⟩)),(3,.pointer (some ⟨B,0,none⟩)),(23,s.cP.v),(24,.int .i64 (s.b4.length:Int)),(25,.int .i64 (j:Int))])
   (fun(j,s1,Q,ab,aH) (H:Heap)=>(j≤s.b4.length)∧(Var 47 H B (b3 ⟨s.ak,R,s.aY,s1,ab,{s.q with cf:=bE},dw,[]⟩))∧(aU Q 62 H ia 2 s1.v ab)∧(∀x∈ab,Rd aH H eB 65 x.v.v x.l)∧(bk aH H.size)∧(ax aH (B+1))∧(ax aH Q)∧(ax aH (H1.size+1))∧(∀c,aH c→J.size≤c)∧(dv ab=dv (s.b4.take j))∧(U 0 a3.size Q)∧(af (B+1) Q)∧W (aB [(B+1)]) a3 H)
   (fun(j,s1,Q,ab,aH)=>s.b4.length-j) (0,dw,0,[],fun _=>False) ⟨rfl,rfl,rfl,rfl,rfl,rfl,trivial⟩ ?_ ?_
  ·
   exact⟨(by omega),d,aU.nil kB nn,(fun x h=>by cases h),(fun b e=>e.elim),(fun b e=>e.elim),(fun b e=>e.elim),(fun b e=>e.elim),(fun c e=>e.elim),rfl,U.refl _ _,af.z,W.refl _ _⟩
  rintro⟨j,s1,Q,ab,aH⟩ ai fD gb fE fF;obtain⟨hi,d,M,Z,b0,f1,f2,f5,cg,b9,cx,dx,ac⟩:=fD;have eJ:af (H1.size+1) Q:=af.app (af.z) C.lt cx;have eK:U 0 J.size Q:=U.L (U.refl 0 _) cx n.size;have aj:=aj.ae ac (ay.I cE);have L:=L.ae ac (ag.I c5);have C:=C.ae ac (ag.I cG);have or:=or.ae ac (ag.I bv);have aC:=aC.ae ac (ag.I cL.symm);have n:=n.bx ac (ah.I (ao.q cJ));have gm:=ac.size;have bT:=M.le;have a4:=dx;have dr:=U.refl (B+1) a3.size;have c6:=cx;refine G.L (fun fG=>?_);refine o.v1 bH (o.nil (fG ?_));refine G.t2 (fun fH fI=>?_);refine aW (fun fJ=>?_) (fun fJ=>?_)
  ·
   refine G.skip (fH (G.t1 (fun eL=>G.aD (fun eM _ _=>G.L (fun eN=>?_)))));have b8:j<s.b4.length:=by omega
   obtain⟨y,bF⟩:∃q,q=s.b4[j]:=⟨_,rfl⟩;have cb:y∈s.b4:=by rw[bF];exact List.getElem_mem b8
   have fZ:=z4 y cb;have hj:ab.length=j:=by have cQ:=congrArg List.length b9;simp only[dv,List.length_map,List.length_take]at cQ;omega
   refine o.b1 (Y.bU aj.g (j) rfl h6 iH rfl rfl) fun gn eP=>?_;refine o.v1 (Y.cast (v2:= .agg (ia y).toArray) (a_ eP.O um iH (kB _)) (by rw[bF])) ?_;refine o.aS (dk zv) ?_;rintro v5 dp ⟨rfl,bM,bg,gH,fK⟩;have gp:dp.size=ai.size+1:=by rw[fK];simp
   have eS:=(ax.new (cD.mono n.size):ax _ (ai.size+1));have eT:af (H1.size+1) (ai.size+1):=af.new C.lt;have eU:af ((B+1)) (ai.size+1):=af.new d.lt;have a5:af Q (ai.size+1):=af.new M.le;have eV:=(ax.new (b0.mono (by omega)):ax _ (ai.size+1));have eW:U 0 J.size (ai.size+1):=U.new n.size;have eX:U 0 a3.size (ai.size+1):=U.new ac.size;have aj:=aj.N bg;have C:=C.N bg;have d:=d.N bg;have M:=M.N bg;have Z:=fun x K=>(Z x K).N bg;have n:=n.L bg;have ac:=ac.a8 bg;have gr:=bg.size;refine o.s1 (eh bM (_) (ia y) (nn y) iH (kB _) ((dJ (kB _).symm))) fun bP eY=>?_;obtain⟨bM,aw⟩:=eY;have aw:=aw.bB;have aj:=aj.ae aw (ay.I eS);have C:=C.ae aw (ag.I eT);have d:=d.ae aw (ag.I eU);have M:=M.ae aw (ag.I a5);have Z:=fun x K=>(Z x K).ae aw (ay.I eV);have n:=n.bx aw (ah.I (ao.q eW));have ac:=ac.aL aw (ah.I (ao.q eX));have gv:=aw.size;refine o.nil (eN ?_);refine dg (fun A=>W (aB [Q]) bP A) [11] ?_;have ap:W (aB [Q]) bP bP:=W.refl _ _;have eZ:=U.refl Q bP.size;refine T.t1 0 rfl (fun A k=>Y.fieldAddr (d.ae k (ag.I a4)).O rfl cH rfl rfl gS (by decide) rfl) ap ?_;refine T.t1 1 rfl (fun A k=>au ((d.ae k (ag.I a4)).O.drop 2) hT) ap ?_;refine T.t1 2 rfl (fun A k=>Y.fieldAddr (bM.ae k (ag.I a5.symm)).O rfl jv rfl rfl bV (by decide) rfl) ap ?_;refine T.t1 3 rfl (fun A k=>Y.fM (bM.ae k (ag.I a5.symm)).O rfl bR rfl) ap ?_;refine T.t1 4 rfl (fun A k=>Y.fieldAddr (bM.ae k (ag.I a5.symm)).O rfl jv rfl rfl lq (by decide) rfl) ap ?_;refine T.t1 5 rfl (fun A k=>au ((bM.ae k (ag.I a5.symm)).O.drop 1) k6) ap ?_;refine T.aX 6 ?_;refine b7 oC (oZ y.v.v y.l w0 _ (aj.n y cb).any (by omega)) (fun gI aJ fL=>?_);obtain⟨ct,an,rfl,aT,bU,bK⟩:=fL;have e0:af (H1.size+1) an:=af.app (af.z) C.lt bU;have cz:af ((B+1)) an:=af.app (af.z) d.lt bU;have c7:af Q an:=af.app (af.z) M.le bU;have e1:U 0 J.size an:=U.L (U.refl 0 _) bU n.size;have e2:U 0 bP.size an:=U.L (U.refl 0 _) bU ap.size;have d:=d.N bK;have M:=M.N bK;have Z:=fun x K=>(Z x K).N bK;have ac:=ac.a8 bK;have ap:=ap.a8 bK;have gw:=bK.size;have gj:=aT.le;refine T.bZ ap (ah.cons (ao.r eZ) (ah.I (ao.q e2))) ?_;have ap:W (aB [Q,an]) aJ aJ:=W.refl _ _;have ep:=U.refl Q aJ.size;have er:=U.refl an aJ.size;refine T.t1 7 rfl (fun A k=>Y.build (v:= .agg (ia ⟨y.n,ct,y.l⟩).toArray) rfl rfl (by intro w;kernel_rfl)) ap ?_;refine T.aX 8 ?_;refine ey rfl (cS _ ([(⟨y.n,ct,y.l⟩:ir)]) oU kB nn (rfl)) (fun gJ be fM=>?_);obtain⟨f_,bn,d0,et⟩:=fM;have cy:be.size=aJ.size+1:=by rw[et];simp
   have du:af ((B+1)) (aJ.size+1):=af.new d.lt;have dO:U 0 aJ.size (aJ.size+1):=U.new ap.size;have d:=d.N bn;have M:=M.N bn;have Z:=fun x K=>(Z x K).N bn;have aT:=aT.N bn;have ac:=ac.a8 bn;have ap:=ap.a8 bn;have d1:=bn.size;refine T.bZ ap (ah.cons (ao.r ep) (ah.cons (ao.r er) (ah.I (ao.q dO)))) ?_;have ap:W (aB [Q,an,(aJ.size+1)]) be be:=W.refl _ _;have bi:=U.refl Q be.size;have dP:=U.refl an be.size;have dQ:=U.refl (aJ.size+1) be.size;refine T.aX 9 ?_;refine ey rfl (eg M f_.rd oU (by simp;omega) (by simp;omega)) (fun dn db d2=>?_);obtain⟨bA,M,bo,a8⟩:=d2;have bo:U Q be.size bA:=bo;have a8:=a8.md;have cu:af ((B+1)) bA:=af.app (a4) d.lt bo;have dS:=ax.app (f2) (b0.mono (by omega)) bo;have dU:af an bA:=af.app (c7.symm) aT.le bo;have dV:U 0 a3.size bA:=U.L (c6) bo ac.size;have dX:U Q be.size bA:=U.L (bi) bo ap.size;have d:=d.ae a8 (ag.I a4);have Z:=fun x K=>(Z x K).ae a8 (ay.I f2);have aT:=aT.ae a8 (ag.I c7.symm);have ac:=ac.aL a8 (ah.I (ao.q c6));have ap:=ap.aL a8 (ah.I (ao.r bi));have d3:=a8.size;have bT:=M.le;obtain⟨de,rfl⟩:∃s:aO,dn=s.v:=⟨cm dn,M.bm.symm⟩;refine T.bZ ap (ah.cons (ao.r dX) (ah.cons (ao.r dP) (ah.I (ao.r dQ)))) ?_;have ap:W (aB [bA,an,(aJ.size+1)]) db db:=W.refl _ _;refine T.t1 10 rfl (fun A k=>Y.fieldAddr (d.ae k (ag.cons cu (ag.cons cz (ag.I du)))).O rfl cH rfl rfl gS (by decide) rfl) ap ?_;refine T.aX 11 ?_;refine gW rfl (dL d 2 (b3 ⟨s.ak,R,s.aY,de,ab++[⟨y.n,ct,y.l⟩],{s.q with cf:=bE},dw,[]⟩) (rfl) gS (by rw[cO];omega) ((tE _ _))) (fun gA dZ=>?_);obtain⟨d,al⟩:=dZ;have al:=al.bB;have M:=M.ae al (ag.I cu.symm);have Z:=fun x K=>(Z x K).ae al (ay.I f1);have aT:=aT.ae al (ag.I cz.symm);have ac:=ac.aL al (ah.I (ao.r dr));have d4:=al.size;refine⟨.inl rfl,?_⟩;refine cI ?_;refine eM (eL (G.region ?_));refine o.v1 bD ?_;refine o.aa (o.nil ?_);refine aR.sub (fE (j+1,de,bA,ab++[⟨y.n,ct,y.l⟩],fun b=>aH b∨b+1=an) _ ?_ ?_) ⟨rfl,rfl,rfl,rfl,(aF (by omega)),(aF (by omega)),trivial⟩
   ·exact⟨(by omega),d,M,tw Z (fun b e=> .inl e) (aT.rd.imp (fun b _ e=> .inr e)),bk.dx (b0.mono (by omega)) aT.le,ax.dx (f1) (cz),ax.dx (dS) (dU.symm),ax.dx (f5) (e0),lK cg (e1),by unfold dv at b9⊢;rw[List.map_append,b9,List.take_succ_eq_append_getElem b8,List.map_append,←bF];rfl,dV,cu,ac⟩
   ·first|omega|(simp only;omega)|(simp;omega)
  ·
   obtain rfl:j=s.b4.length:=by omega
   rw[List.take_length]at b9;refine G.exit (fI (fF (fC ?_)));refine fA (G.t1 (fun eu=>G.L (fun ew=>?_)));refine o.v1 (Y.an L.O rfl cH rfl dT) ?_;refine o.v1 (au L.O.i_ eA) ?_;refine o.v1 (bf aj.e cA) ?_;refine o.aa (o.nil (ew ?_));refine G.aD (fun _ cB _=>?_)
   refine G.bc (fun(cc:(Nat)×(aO)×(Nat)×(List bu)×(Nat→Prop))=>match cc with|(i,bz,a7,az,aI)=>[(2,.pointer (some ⟨H1.size,0,none⟩)),(3,.pointer (some ⟨B,0,none⟩)),(42,s.b9.v),(43,.int .i64 (s.el.length:Int)),(44,.int .i64 (i:Int))])
    (fun(i,bz,a7,az,aI) (H:Heap)=>(i≤s.el.length)∧(Var 47 H B (b3 ⟨s.ak,R,s.aY,s1,ab,{s.q with cf:=bE},bz,az⟩))∧(aU a7 68 H bQ 33 bz.v az)∧(∀x∈az,Rd aI H a6 1 x.v.v x.d)∧(bk aI H.size)∧(ax aI (B+1))∧(ax aI a7)∧(ax aI (H1.size+1))∧(∀c,aI c→J.size≤c)∧(cq az=cq (s.el.take i))∧(U 0 ai.size a7)∧(af (B+1) a7)∧W (aB [(B+1)]) ai H)
    (fun(i,bz,a7,az,aI)=>s.el.length-i) (0,dw,0,[],fun _=>False) ⟨rfl,rfl,rfl,rfl,rfl,trivial⟩ ?_ ?_
   ·
    exact⟨(by omega),d,aU.nil di hr,(fun x h=>by cases h),(fun b e=>e.elim),(fun b e=>e.elim),(fun b e=>e.elim),(fun b e=>e.elim),(fun c e=>e.elim),rfl,U.refl _ _,af.z,W.refl _ _⟩
   rintro⟨i,bz,a7,az,aI⟩ aD d5 gK ez eC;obtain⟨hh,d,S,aa,cl,f3,f4,f6,a2,ca,bt,dy,O⟩:=d5;have ea:af (H1.size+1) a7:=af.app (af.z) C.lt bt;have ec:af P a7:=af.app (af.z) or.le bt;have ed:af b6 a7:=af.app (af.z) aC.le bt;have ee:af Q a7:=af.app (af.z) M.le bt;have ef:=ax.app (ax.z) (b0.mono (by omega)) bt;have ei:U 0 J.size a7:=U.L (U.refl 0 _) bt n.size;have aj:=aj.ae O (ay.I cE);have C:=C.ae O (ag.I cG);have or:=or.ae O (ag.I bv);have aC:=aC.ae O (ag.I cL.symm);have M:=M.ae O (ag.I a4.symm);have Z:=fun x K=>(Z x K).ae O (ay.I f1);have n:=n.bx O (ah.I (ao.q cJ));have d6:=O.size;have b5:=S.le;have cd:=dy;have dt:=U.refl (B+1) ai.size;have c9:=bt;refine G.L (fun e3=>?_);refine o.v1 bH (o.nil (e3 ?_));refine G.t2 (fun fN bj=>?_);refine aW (fun d7=>?_) (fun d7=>?_)
   ·
    refine G.skip (fN (G.t1 (fun dW=>G.aD (fun dd _ _=>G.L (fun fO=>?_)))));have b8:i<s.el.length:=by omega
    obtain⟨y,bF⟩:∃q,q=s.el[i]:=⟨_,rfl⟩;have cb:y∈s.el:=by rw[bF];exact List.getElem_mem b8
    have fZ:=z5 y cb;have hk:az.length=i:=by have cQ:=congrArg List.length ca;simp only[cq,List.length_map,List.length_take]at cQ;omega
    refine o.b1 (Y.bU aj.e (i) rfl cA cr rfl rfl) fun d8 gB=>?_;refine o.v1 (Y.cast (v2:= .agg (bQ y).toArray) (a_ gB.O iu cr (di _)) (by rw[bF])) ?_;refine o.aS (dk lz) ?_;rintro hl dq ⟨rfl,bO,bl,gL,d9⟩;have gx:dq.size=aD.size+1:=by rw[d9];simp
    have ej:=(ax.new (cD.mono n.size):ax _ (aD.size+1));have dz:af (H1.size+1) (aD.size+1):=af.new C.lt;have dA:af ((B+1)) (aD.size+1):=af.new d.lt;have bW:af a7 (aD.size+1):=af.new S.le;have dB:=(ax.new (cl.mono (by omega)):ax _ (aD.size+1));have dC:U 0 J.size (aD.size+1):=U.new n.size;have dG:U 0 ai.size (aD.size+1):=U.new O.size;have aj:=aj.N bl;have C:=C.N bl;have d:=d.N bl;have S:=S.N bl;have aa:=fun x K=>(aa x K).N bl;have n:=n.L bl;have O:=O.a8 bl;have gO:=bl.size;refine o.s1 (eh bO (_) (bQ y) (hr y) cr (di _) ((dJ (di _).symm))) fun bY dH=>?_;obtain⟨bO,aM⟩:=dH;have aM:=aM.bB;have aj:=aj.ae aM (ay.I ej);have C:=C.ae aM (ag.I dz);have d:=d.ae aM (ag.I dA);have S:=S.ae aM (ag.I bW);have aa:=fun x K=>(aa x K).ae aM (ay.I dB);have n:=n.bx aM (ah.I (ao.q dC));have O:=O.aL aM (ah.I (ao.q dG));have gP:=aM.size;refine o.nil (fO ?_);refine dg (fun A=>W (aB [a7]) bY A) [11] ?_;have N:W (aB [a7]) bY bY:=W.refl _ _;have dI:=U.refl a7 bY.size;refine T.t1 0 rfl (fun A k=>Y.fieldAddr (d.ae k (ag.I cd)).O rfl cH rfl rfl dT (by decide) rfl) N ?_;refine T.t1 1 rfl (fun A k=>Y.fM (d.ae k (ag.I cd)).O.i_ rfl eA rfl) N ?_;refine T.t1 2 rfl (fun A k=>Y.fieldAddr (bO.ae k (ag.I bW.symm)).O rfl fr rfl rfl bd (by decide) rfl) N ?_;refine T.t1 3 rfl (fun A k=>Y.cast (v2:=bs y.k) (a_ ((bO.ae k (ag.I bW.symm)).O.take 32) cj bd (by rw[show(bQ y).take 32=bX y.k from fa y];exact bC _)) (cn (show(bQ y).take 32=bX y.k from fa y))) N ?_;refine T.t1 4 rfl (fun A k=>Y.fieldAddr (bO.ae k (ag.I bW.symm)).O rfl fr rfl rfl c8 (by decide) rfl) N ?_;refine T.t1 5 rfl (fun A k=>Y.fM (bO.ae k (ag.I bW.symm)).O.jR rfl eI rfl) N ?_;refine T.aX 6 ?_;refine b7 ni (mm y.v.v y.d w0 _ (aj.d y cb).any (by omega)) (fun gM aK fV=>?_);obtain⟨b2,ar,rfl,aP,a9,bL⟩:=fV;have dK:af (H1.size+1) ar:=af.app (af.z) C.lt a9;have cv:af ((B+1)) ar:=af.app (af.z) d.lt a9;have c_:af a7 ar:=af.app (af.z) S.le a9;have dM:U 0 J.size ar:=U.L (U.refl 0 _) a9 n.size;have ek:U 0 bY.size ar:=U.L (U.refl 0 _) a9 N.size;have d:=d.N bL;have S:=S.N bL;have aa:=fun x K=>(aa x K).N bL;have O:=O.a8 bL;have N:=N.a8 bL;have gQ:=bL.size;have gy:=aP.le;refine T.bZ N (ah.cons (ao.r dI) (ah.I (ao.q ek))) ?_;have N:W (aB [a7,ar]) aK aK:=W.refl _ _;have e5:=U.refl a7 aK.size;have e6:=U.refl ar aK.size;refine T.t1 (v:=jS ⟨y.k,b2,y.d⟩) 7 rfl (fun A k=>?_) N ?_
    ·exact Y.build (v:=jS ⟨y.k,b2,y.d⟩) rfl rfl (by intro w;exact oA _ _ _)
    refine T.aX 8 ?_;refine ey rfl (cS _ ([(⟨y.k,b2,y.d⟩:bu)]) iz di hr (rfl)) (fun gN bc fW=>?_);obtain⟨ga,bp,gR,fP⟩:=fW;have e_:bc.size=aK.size+1:=by rw[fP];simp
    have e7:af ((B+1)) (aK.size+1):=af.new d.lt;have e8:U 0 aK.size (aK.size+1):=U.new N.size;have d:=d.N bp;have S:=S.N bp;have aa:=fun x K=>(aa x K).N bp;have aP:=aP.N bp;have O:=O.a8 bp;have N:=N.a8 bp;have gT:=bp.size;refine T.bZ N (ah.cons (ao.r e5) (ah.cons (ao.r e6) (ah.I (ao.q e8)))) ?_;have N:W (aB [a7,ar,(aK.size+1)]) bc bc:=W.refl _ _;have da:=U.refl a7 bc.size;have ce:=U.refl ar bc.size;have e9:=U.refl (aK.size+1) bc.size;refine T.aX 9 ?_;refine ey rfl (eg S ga.rd iz (by simp;omega) (by simp;omega)) (fun ds dc fX=>?_);obtain⟨bB,S,bq,ba⟩:=fX;have bq:U a7 bc.size bB:=bq;have ba:=ba.md;have cC:af ((B+1)) bB:=af.app (cd) d.lt bq;have fc:=ax.app (f4) (cl.mono (by omega)) bq;have dR:af ar bB:=af.app (c_.symm) aP.le bq;have ci:U 0 ai.size bB:=U.L (c9) bq O.size;have fe:U a7 bc.size bB:=U.L (da) bq N.size;have d:=d.ae ba (ag.I cd);have aa:=fun x K=>(aa x K).ae ba (ay.I f4);have aP:=aP.ae ba (ag.I c_.symm);have O:=O.aL ba (ah.I (ao.q c9));have N:=N.aL ba (ah.I (ao.r da));have gU:=ba.size;have b5:=S.le;obtain⟨df,rfl⟩:∃s:aO,ds=s.v:=⟨cm ds,S.bm.symm⟩;refine T.bZ N (ah.cons (ao.r fe) (ah.cons (ao.r ce) (ah.I (ao.r e9)))) ?_;have N:W (aB [bB,ar,(aK.size+1)]) dc dc:=W.refl _ _;refine T.t1 10 rfl (fun A k=>Y.fieldAddr (d.ae k (ag.cons cC (ag.cons cv (ag.I e7)))).O rfl cH rfl rfl dT (by decide) rfl) N ?_;refine T.aX 11 ?_;refine gW rfl (dL d 73 (b3 ⟨s.ak,R,s.aY,s1,ab,{s.q with cf:=bE},df,az++[⟨y.k,b2,y.d⟩]⟩) (rfl) dT (by rw[cO];omega) ((yG _ _))) (fun gz dN=>?_);obtain⟨d,bx⟩:=dN;have bx:=bx.bB;have S:=S.ae bx (ag.I cC.symm);have aa:=fun x K=>(aa x K).ae bx (ay.I f3);have aP:=aP.ae bx (ag.I cv.symm);have O:=O.aL bx (ah.I (ao.r dt));have gV:=bx.size;refine⟨.inl rfl,?_⟩;refine cI ?_;refine dd (dW (G.region ?_));refine o.v1 bD ?_;refine o.aa (o.nil ?_);refine aR.sub (ez (i+1,df,bB,az++[⟨y.k,b2,y.d⟩],fun b=>aI b∨b+1=ar) _ ?_ ?_) ⟨rfl,rfl,rfl,(aF (by omega)),(aF (by omega)),trivial⟩
    ·exact⟨(by omega),d,S,tw aa (fun b e=> .inl e) (aP.rd.imp (fun b _ e=> .inr e)),bk.dx (cl.mono (by omega)) aP.le,ax.dx (f3) (cv),ax.dx (fc) (dR.symm),ax.dx (f6) (dK),lK a2 (dM),by unfold cq at ca⊢;rw[List.map_append,ca,List.take_succ_eq_append_getElem b8,List.map_append,←bF];rfl,ci,cC,O⟩
    ·first|omega|(simp only;omega)|(simp;omega)
   ·
    obtain rfl:i=s.el.length:=by omega
    rw[List.take_length]at ca;refine G.exit (bj (eC (cB ?_)));refine eu (G.L (fun fQ=>?_));refine o.v1 (a_ d.O gY ev (cO _)) ?_;refine o.s1 (eh C (_) (b3 ⟨s.ak,R,s.aY,s1,ab,{s.q with cf:=bE},bz,az⟩) (ke _) ev (cO _) ((dJ (cO _).symm))) fun gD ff=>?_;obtain⟨C,aN⟩:=ff;have aN:=aN.bB;have or:=or.ae aN (ag.I eD.symm);have aC:=aC.ae aN (ag.I eF.symm);have M:=M.ae aN (ag.I eJ.symm);have Z:=fun x K=>(Z x K).ae aN (ay.I f5);have S:=S.ae aN (ag.I ea.symm);have aa:=fun x K=>(aa x K).ae aN (ay.I f6);have n:=n.bx aN (ah.I (ao.q fq));have gX:=aN.size;refine o.nil (fQ ?_);refine G.ret (fY .ret (.inr rfl) _ _ _ (kk rfl rfl C.O gY ev (cO _)) ?_);exact⟨⟨s.ak,R,s.aY,s1,ab,{s.q with cf:=bE},bz,az⟩,a7,(fun b=>b+1=P∨b+1=b6∨b+1=Q∨aH b∨aI b),rfl,⟨or.rd.imp (fun b _ e=> .inl e),M.rd.imp (fun b _ e=> .inr (.inr (.inl e))),(fun y hy=>(Z y hy).imp (fun b _ e=> .inr (.inr (.inr (.inl e))))),aC.rd.imp (fun b _ e=> .inr (.inl e)),(fun y hy=>(aa y hy).imp (fun b _ e=> .inr (.inr (.inr (.inr e)))))⟩,S,(ei),(fun b e=>by have dh:=or.le;have dj:=aC.le;have dm:=M.le;rcases e with e|e|e|e|e;omega;omega;omega;exact(b0.mono (by omega)) b e;exact(cl.mono (by omega)) b e),(fun c e=>by have dh:=(eE);have dj:=(eG);have dm:=(eK);unfold U at dh dj dm;rcases e with e|e|e|e|e;omega;omega;omega;exact cg c e;exact a2 c e),(fun b e V=>by rcases e with e|e|e|e|e;exact(ec) b e V;exact(ed) b e V;exact(ee) b e V;exact(ef) b e V;exact(f4) b e V),by unfold c1.m;simp only[b9,ca];rfl,n⟩
end gL

namespace gM
open E Go.RowKit eY fm fw fA ez eZ e0 fI fJ pF fQ gb eL gL
set_option maxRecDepth 100000 in
theorem jO:c3 Tryz.prog 44 71 33 48:=⟨Tryz.underlying44,_,_,rfl,rfl,rfl,rfl,rfl⟩
set_option maxRecDepth 100000 in
theorem oU:c3 Tryz.prog 45 62 2 40:=⟨Tryz.underlying45,_,_,rfl,rfl,rfl,rfl,rfl⟩
theorem xd{a:bu}{i:Nat}{x:UInt8}(h:a.k.1[i]?=some x):((bQ a).drop 0)[i]?=some (.int .u8 x.toNat):=by
 rw[List.drop_zero,bQ,List.getElem?_append_left (by rw[bC];have:=(List.getElem?_eq_some_iff.1 h).1;rw[a.k.2]at this;exact this),bX,List.getElem?_map,h];rfl
def n_(l:List bu):Prop:=l.Pairwise (fun a b=>blt a.k.1 b.k.1)
theorem n_.of{l:List bu}(h:dt (cq l)):n_ l:=by unfold dt cq at h;rw[List.pairwise_map]at h;exact h
theorem D8(a b:bu)(w0:World)(J:Heap)
 :
 aG Tryz.prog w0 61 #[jS a,jS b] J (fun r d=>r= .int .i64 (Lib.compareBytes a.k.1 b.k.1)∧aq J d):=by
 refine aG.aN [jS a,jS b] Tryz.func61 ?_;intro P N;have j:aq J J:=W.refl _ _;refine G.L (fun ac=>?_);refine o.aS cY ?_;rintro v2 d ⟨rfl,k,B,T,ad⟩;have R:d.size=J.size+1:=by rw[ad];simp
 have j:=j.L B;have U:=B.size;have k:Var 68 d J.size (bQ a):=k;refine o.aS cY ?_;rintro v3 A ⟨rfl,n,q,aw,H⟩;have S:A.size=d.size+1:=by rw[H];simp
 have k:=k.N q;have j:=j.L q;have am:=q.size;have n:Var 68 A d.size (bQ b):=n;refine o.al ?_;refine ac (G.t1 (fun K=>?_));refine G.jq 4 rfl (by kernel_rfl) (fun Q M=>?_);refine o.v1 (Y.an k.O rfl fr rfl bd) ?_;refine o.aN (g:=fun v=>v) (Y.ps (F:=fun c=>c=J.size) (f:=a6) (xs:=a.k.1) k.O rfl k.lt (a.k.2) (fun i x h=>⟨xd h,rfl⟩) (0) (32) rfl (fun w=> .inl (j2 w)) cK rfl (.inl ⟨rfl,rfl⟩) (.inl ⟨rfl,rfl⟩) (by omega) (by omega) (by decide)) fun v6 C=>?_;rw[List.drop_zero,List.take_of_length_le (by rw[a.k.2];omega)]at C;refine o.v1 (Y.an n.O rfl fr rfl bd) ?_;refine o.aN (g:=fun v=>v) (Y.ps (F:=fun c=>c=d.size) (f:=a6) (xs:=b.k.1) n.O rfl n.lt (b.k.2) (fun i x h=>⟨xd h,rfl⟩) (0) (32) rfl (fun w=> .inl (j2 w)) cK rfl (.inl ⟨rfl,rfl⟩) (.inl ⟨rfl,rfl⟩) (by omega) (by omega) (by decide)) fun X E=>?_;rw[List.drop_zero,List.take_of_length_le (by rw[b.k.2];omega)]at E;refine o.nil (M _ ?_);refine aV BI (B_ _ _ a.k.1 b.k.1 w0 _ C.any E.any) ?_;rintro v9 O ⟨rfl,L⟩;have j:=j.L L;refine o.al ?_;refine K ?_;refine G.ret (N ?_);exact⟨rfl,j⟩
theorem w4(w0:World)(H:Heap)(x y:bu):gx Tryz.prog w0 (.func (.func 61) #[] #[]) [jS x,jS y] H (fun r d=>r= .int .i64 (Lib.compareBytes x.k.1 y.k.1)∧aq H d):=
 gx.of (caps:=[]) BH (D8 x y w0 H)
theorem Ax(v1:Value)(l:List bu)(x:bu)(w0:World)(J:Heap)
 (B:bM J bQ 33 v1 l) (bd:l.length≤1000000) (aj:n_ l):
 aG Tryz.prog w0 60 #[v1,jS x,.func (.func 61) #[] #[]] J (fun r aa=>∃at_:Nat,∃fd:Bool,r= .tuple #[.int .i64 (at_:Int),.bool fd]∧(at_≤l.length∧(∀j (h:j<l.length),j<at_→blt l[j].k.1 x.k.1)∧(∀j (h:j<l.length),at_≤j→¬blt l[j].k.1 x.k.1))∧(fd=true↔∃h:at_<l.length,l[at_].k=x.k)∧aq J aa):=by
 refine aG.aN [v1,jS x,.func (.func 61) #[] #[]] Tryz.func60 ?_;intro aP Z;have E:aq J J:=W.refl _ _;have B:=B.b2;refine G.L (fun aD=>?_);refine o.aS cY ?_;rintro v4 M ⟨rfl,F,N,aV,aH⟩;have bb:M.size=J.size+1:=by rw[aH];simp
 have B:=B.N N;have E:=E.L N;have aX:=N.size;have F:Var 68 M J.size (bQ x):=F;refine o.aP 2 ?_;refine aD (G.L (fun aI=>?_));refine o.aa ?_;refine o.v1 (bf B cA) ?_;refine o.al ?_;refine aI (G.L (fun aJ=>?_));refine o.aP 3 ?_;refine aJ (G.t1 (fun aK=>G.aD (fun _ ab _=>?_)))
 refine G.bc (fun(aN:(Nat)×(Nat))=>match aN with|(i,j)=>[(0,v1),(2,.func (.func 61) #[] #[]),(4,.pointer (some ⟨J.size,0,none⟩)),(8,.int .i64 (l.length:Int)),(9,.int .i64 (i:Int)),(10,.int .i64 (j:Int))])
  (fun(i,j) (H:Heap)=>(i≤j∧j≤l.length)∧(∀q (h:q<l.length),q<i→blt l[q].k.1 x.k.1)∧(∀q (h:q<l.length),j≤q→¬blt l[q].k.1 x.k.1)∧aq M H)
  (fun(i,j)=>j-i) (0,l.length) ⟨rfl,rfl,rfl,rfl,rfl,rfl,trivial⟩ ?_ ?_
 ·
  exact⟨(by omega),fun q h V=>by omega,fun q h V=>by omega,W.refl _ _⟩
 rintro⟨i,j⟩ S ae aO ap af;obtain⟨bc,O,V,C⟩:=ae;have B:=B.N C;have F:=F.N C;have E:=E.L C;have aZ:=C.size;refine G.t2 (fun ag ah=>G.L (fun ai=>?_));refine o.az 2 ?_;refine o.v1 bH (o.nil (ai ?_));refine aW (fun al=>?_) (fun al=>?_)
 ·
  refine G.skip (ag (G.aD (fun U _ _=>G.L (fun az=>?_))));refine o.az 2 ?_;refine o.v1 (Y.cast (v2:= .int .i64 ((i+j:Nat):Int)) bD (fh (by omega))) ?_;refine o.v1 (Y.hq rfl gk tU rfl) ?_;refine o.v1 (Y.cast (v2:= .int .u64 (((i+j)/2:Nat):Int)) (Y.pq (1) rfl rfl rfl (by first|rfl|omega) (by omega)) (by rw[tu,UInt64.toNat_ofNat',Nat.mod_eq_of_lt (by omega)])) ?_;refine o.v1 (Y.vz rfl tU gk rfl (IntWalk.i64_in _ (by omega))) ?_;refine o.al ?_;refine az (G.t1 (fun aB=>?_));refine G.jq 6 rfl (by kernel_rfl) (fun aQ aL=>?_);refine o.az 3 ?_;refine o.b1 (Y.mD B ((i+j)/2) rfl cA cr rfl rfl (by first|rfl|omega) (by omega)) fun aS aw=>?_;refine o.v1 (a_ aw.O iu cr (di _)) ?_;refine o.v1 (a_ F.O iu cr (di _)) ?_;refine o.nil (aL _ ?_);refine o.mr rfl rfl rfl cM rfl rfl (w4 w0 _ _ x) (fun a1 a6 an=>?_);obtain⟨rfl,Q⟩:=an;have C:=C.L Q;have a7:=Q.size;refine o.v1 bH (o.nil (aB ?_));refine aW (fun L=>?_) (fun L=>?_)
  ·
   refine G.region ?_;refine o.aa ?_;refine o.v1 bD ?_;refine o.al ?_;refine U ?_;refine aR.sub (ap ((i+j)/2+1,j) _ ?_ ?_) ⟨rfl,rfl,rfl,(aF (by omega)),(aF (by omega)),(aF (by omega)),trivial⟩
   ·exact⟨(by omega),fun q h P=>by
     by_cases n:q=(i+j)/2
     ·subst n;exact oG.1 L
     ·exact nb (List.pairwise_iff_getElem.1 aj q ((i+j)/2) h (by omega) (by omega)) (oG.1 L),V,C⟩
   ·first|omega|(simp only;omega)|(simp;omega)
  ·
   refine G.region ?_;refine o.aP 2 ?_;refine U ?_;refine aR.sub (ap (i,(i+j)/2) _ ?_ ?_) ⟨rfl,rfl,rfl,(aF (by omega)),(aF (by omega)),(aF (by omega)),trivial⟩
   ·exact⟨(by omega),O,fun q h P X=>by
     by_cases n:q=(i+j)/2
     ·subst n;exact absurd (oG.2 X) L
     ·exact absurd (oG.2 (nb (List.pairwise_iff_getElem.1 aj ((i+j)/2) q (by omega) h (by omega)) X)) L,C⟩
   ·first|omega|(simp only;omega)|(simp;omega)
 ·
  refine G.exit (ah (af (ab ?_)));refine aK (G.t1 (fun R=>?_));refine dg (fun A=>aq S A) [] ?_;have k:=aq.refl S;refine T.aa 0 rfl k ?_;refine T.aa 1 rfl k ?_;refine T.aa 2 rfl k ?_;refine T.t1 3 rfl (fun A n=>bH) k ?_;refine T.aa 4 rfl k ?_;refine T.bp (d:=39) rfl (fun ar=>?_) (fun ar=>?_)
  ·
   refine T.b0 5 rfl (fun A n=>fl) bo k ?_;refine T.b0 6 rfl (fun A n=>fl) bo k ?_;refine T.b0 7 rfl (fun A n=>fl) bo k ?_;refine T.e (g:=fun ad=> .pointer (some ad)) 8 (by kernel_rfl) rfl (by kernel_rfl) (by kernel_rfl) (by kernel_rfl) (Y.mD B (_) rfl cA cr rfl rfl rfl (by first|omega|(simp;omega)|(simp;done))) bo rfl rfl k (fun aT am=>?_);refine T.b0 9 rfl (fun A n=>a_ (am.O.N n) iu cr (di _)) bo k ?_;refine T.b0 10 rfl (fun A n=>a_ (F.O.N n) iu cr (di _)) bo k ?_;refine T.aX 11 ?_;refine dM.mr rfl rfl rfl rfl bo rfl rfl (w4 w0 _ _ x) (fun a8 aC au=>?_);obtain⟨rfl,ac⟩:=au;have E:=E.L ac;have ba:=ac.size;have ay:=k.L ac;refine T.cD ay ?_;have K:=aq.refl aC;refine T.b0 12 rfl (fun A n=>cb) bo K ?_;refine T.t1 13 rfl (fun A n=>eS) K ?_;refine T.t1 14 rfl (fun A n=>e5) K ?_;refine T.t1 15 rfl (fun A n=>e5) K ?_;refine cI ?_;have aM:=K;refine R ?_;refine G.ret (Z ?_);exact⟨i,_,rfl,⟨by omega,O,fun q h P=>V q h (by omega)⟩,⟨fun h=>⟨by omega,Subtype.ext (r0.1 (of_decide_eq_true h))⟩,fun⟨_,h⟩=>decide_eq_true (r0.2 (by rw[h]))⟩,E⟩
  ·
   refine T.g1 5 rfl rfl rfl rfl k ?_;refine T.g1 6 rfl rfl rfl rfl k ?_;refine T.g1 7 rfl rfl rfl rfl k ?_;refine T.g1 8 rfl rfl rfl rfl k ?_;refine T.g1 9 rfl rfl rfl rfl k ?_;refine T.g1 10 rfl rfl rfl rfl k ?_;refine T.g1 11 rfl rfl rfl rfl k ?_;refine T.g1 12 rfl rfl rfl rfl k ?_;refine T.t1 13 rfl (fun A n=>er) k ?_;refine T.t1 14 rfl (fun A n=>e5) k ?_;refine T.t1 15 rfl (fun A n=>e5) k ?_;refine cI ?_;have aM:=k;refine R ?_;refine G.ret (Z ?_);exact⟨i,_,rfl,⟨by omega,O,fun q h P=>V q h (by omega)⟩,⟨fun h=>(by cases h),fun⟨h,_⟩=>(by omega)⟩,E⟩
abbrev rv(z:aO×List c4):Value:=z.1.v
abbrev lA:aO×List c4:=(dw,[])
theorem sQ{β:Type}{m:List (aJ×β)}{k:aJ}{b:β}{p:aJ×β}(h:p∈fD m k b):p.2=b∨p∈m:=by
 unfold fD at h;split at h
 ·obtain⟨q,d,e⟩:=List.mem_map.1 h
  split at e
  ·rw[←e];exact .inl rfl
  ·rw[←e];exact .inr d
 ·rcases List.mem_append.1 h with h|h
  ·exact .inr h
  ·rw[List.mem_singleton.1 h];exact .inl rfl
theorem DL{l:List ir}{m:List (aJ×(aO×List c4))}{j:Nat}(aC:((dv l).map (·.1)).Nodup)(h:∀q,(aM m q).map (·.2)=aM (dv (l.take j)) q)(i:j<l.length):∀q,(aM (fD m l[j].n (l[j].v,l[j].l)) q).map (·.2)=aM (dv (l.take (j+1))) q:=by
 intro q;have e:dv (l.take (j+1))=dv (l.take j)++[(l[j].n,l[j].l)]:=by unfold dv;rw[List.take_succ_eq_append_getElem i,List.map_append];rfl
 have o:aM (dv (l.take j)) l[j].n=none:=by
  cases n:aM (dv (l.take j)) l[j].n with
  |none=>rfl
  |some z=>
   have k:=gQ.1 (show(aM (dv (l.take j)) l[j].n).isSome=true by rw[n];rfl)
   have V:(dv l).map (·.1)=(dv (l.take j)).map (·.1)++l[j].n::(dv (l.drop (j+1))).map (·.1):=by
    conv=>lhs;rw[←List.take_append_drop j l,List.drop_eq_getElem_cons i]
    unfold dv;rw[List.map_append,List.map_append,List.map_cons,List.map_cons]
   rw[V,List.nodup_append]at aC;exact absurd rfl (aC.2.2 _ k _ List.mem_cons_self)
 rw[kJ,e,rz.sN];by_cases d:q=l[j].n
 ·rw[if_pos d,d,o,if_pos rfl];rfl
 ·rw[if_neg d,if_neg d,h];simp
theorem ya{aQ:Nat→Prop}{H:Heap}{m:List (aJ×(aO×List c4))}{k:aJ}{z:aO×List c4}(h:∀p∈m,Rd aQ H eB 65 p.2.1.v p.2.2)(d:z=(aM m k).getD lA):Rd aQ H eB 65 z.1.v z.2:=by
 cases i:aM m k with
 |none=>rw[i]at d;rw[d];exact Rd.nil _ _ _ _
 |some y=>rw[i]at d;rw[d];exact h _ (E.o6 i)
theorem DI{m:List (aJ×(aO×List c4))}{k:aJ}{z:aO×List c4}{n:Nat}(h:∀p∈m,p.2.2.length≤n)(d:z=(aM m k).getD lA):z.2.length≤n:=by
 cases i:aM m k with
 |none=>rw[i]at d;rw[d];exact Nat.zero_le _
 |some y=>rw[i]at d;rw[d];exact h _ (E.o6 i)
theorem DK{m:List (aJ×(aO×List c4))}{d:j4}{y:bn}{s:aO}{z:aO×List c4}(h:∀q,(aM m q).map (·.2)=aM d q)(d_:dt d)(hw:¬y.w=bq)(j:z=(aM m y.n).getD lA):∀q,(aM (fD m y.n (s,jP (z.2++[⟨y.I,y.w,y.y⟩]))) q).map (·.2)=aM (ig d y) q:=by
 intro q
 have e:(aM d y.n).getD []=z.2:=by
  rw[←h]
  cases k:aM m y.n with
  |none=>rw[k]at j;rw[j];rfl
  |some w=>rw[k]at j;rw[j];rfl
 unfold ig;rw[if_neg hw,kJ,sJ _ _ _ _ d_,e];by_cases i:q=y.n
 ·rw[if_pos i,if_pos i];rfl
 ·rw[if_neg i,if_neg i,h]
theorem DJ{m:List (aJ×(aO×List c4))}{i:j4}{y:bn}(h:∀q,(aM m q).map (·.2)=aM i q)(hw:y.w=bq):∀q,(aM (eu m y.n) q).map (·.2)=aM (ig i y) q:=by
 intro q;unfold ig;rw[if_pos hw,jm,jm];by_cases d:q=y.n
 ·rw[if_pos d,if_pos d];rfl
 ·rw[if_neg d,if_neg d,h]
def hO(m:List (aJ×cw))(x:aJ):cx:=⟨x,(aM m x).getD bq⟩
def hY(m:List (aJ×(aO×List c4)))(x:aJ):ir:=⟨x,((aM m x).getD lA).1,((aM m x).getD lA).2⟩
theorem sL{β:Type}(f:aJ→β):∀(out:List aJ) (q:aJ),aM (out.map (fun x=>(x,f x))) q=if q∈out then some (f q)else none
 |[],q=>by simp[aM]
 |x::out,q=>by
  rw[List.map_cons,aM,sL f out q];by_cases d:q=x
  ·subst d;simp
  ·simp[d]
theorem wA{β:Type}{f:aJ→β}{out:List aJ}(h:jB out):dt (out.map (fun x=>(x,f x))):=by
 unfold dt;rw[List.pairwise_map];exact h
theorem CV{m:List (aJ×cw)}{u:dh}{out:List aJ}(hu:dt u)(j:∀q,aM m q=aM u q)(i:jB out)(hm:∀k,k∈out↔k∈m.map (·.1)):bh (out.map (hO m))=u:=by
 have e:bh (out.map (hO m))=out.map (fun x=>(x,(aM m x).getD bq)):=by simp[bh,hO]
 rw[e];refine wz (wA i) hu (fun q=>?_);rw[sL,←j];by_cases h:q∈out
 ·rw[if_pos h]
  have V:=gQ.2 ((hm q).1 h);obtain⟨z,d⟩:=Option.isSome_iff_exists.1 V;rw[d];rfl
 ·rw[if_neg h]
  cases d:aM m q with
  |none=>rfl
  |some z=>exact absurd ((hm q).2 (gQ.1 (by rw[d];rfl))) h
theorem CU{m:List (aJ×cw)}{w:List (aJ×(aO×List c4))}{u:dh}{d:j4}{out:List aJ}(r:dt d)(A:d.map (·.1)=u.map (·.1))(C:∀q,aM m q=aM u q)(hw:∀q,(aM w q).map (·.2)=aM d q)(B:jB out)(hm:∀k,k∈out↔k∈m.map (·.1)):dv (out.map (hY w))=d:=by
 have e:dv (out.map (hY w))=out.map (fun x=>(x,((aM w x).getD lA).2)):=by simp[dv,hY]
 rw[e];refine wz (wA B) r (fun q=>?_)
 have o:q∈out↔(aM d q).isSome=true:=by
  rw[hm,←gQ,C,gQ,←A,gQ]
 rw[sL];by_cases h:q∈out
 ·rw[if_pos h]
  obtain⟨z,j⟩:=Option.isSome_iff_exists.1 (o.1 h);rw[j];have i:=hw q;rw[j]at i
  cases n:aM w q with
  |none=>rw[n]at i;cases i
  |some y=>rw[n]at i;rw[←i];rfl
 ·rw[if_neg h]
  cases j:aM d q with
  |none=>rfl
  |some z=>exact absurd (o.2 (by rw[j];rfl)) h
theorem Ek(y:bu)(s:aO):(bQ y).set 32 s.v=bQ ⟨y.k,s,y.d⟩:=by
 unfold bQ;rw[List.set_append,if_neg (by rw[bC];omega),bC];rfl
theorem vG{l:List bu}{x:bu}{p:Nat}(d:∀j (h:j<l.length),j<p→blt l[j].k.1 x.k.1)(n:p<l.length)(V:l[p].k=x.k):cq (l.set p x)=ea (cq l) x.k.1 x.d:=by
 rw[C6 (k:=p) (by simpa[cq]using n) (fun j h i=>by have:=d j (by simpa[cq]using h) i;simpa[cq]using this) (by simp[cq,V])];simp[cq,List.map_set]
theorem Cz{l:List bu}{x:bu}{p:Nat}(i:∀j (h:j<l.length),j<p→blt l[j].k.1 x.k.1)(n:∀j (h:j<l.length),p≤j→¬blt l[j].k.1 x.k.1)(B:p≤l.length)(V:¬ ∃h:p<l.length,l[p].k=x.k):cq (l.take p++x::l.drop p)=ea (cq l) x.k.1 x.d:=by
 rw[wC (k:=p) (by simpa[cq]using B) (fun j h A=>by have:=i j (by simpa[cq]using h) A;simpa[cq]using this) (fun h=>by
  have d:p<l.length:=by simpa[cq]using h
  have o:=n p d (Nat.le_refl _);have q:¬l[p].k=x.k:=fun e=>V ⟨d,e⟩;simp only[cq,List.getElem_map];refine Classical.byContradiction (fun r=>q (Subtype.ext (mo o r))))]
 simp[cq,List.map_take,List.map_drop]
theorem yu{F aQ:Nat→Prop}{H:Heap}{l:List bu}{x:bu}(p:Nat)(h:∀y∈l,Rd F H a6 1 y.v.v y.d)(d:∀b,F b→aQ b)(i:Rd aQ H a6 1 x.v.v x.d):∀y∈l.set p x,Rd aQ H a6 1 y.v.v y.d:=by
 intro y hy;rcases List.mem_or_eq_of_mem_set hy with hy|hy
 ·exact(h y hy).imp (fun b _ e=>d b e)
 ·rw[hy];exact i
theorem Ds{F aQ:Nat→Prop}{H:Heap}{l:List bu}{x:bu}(p:Nat)(h:∀y∈l,Rd F H a6 1 y.v.v y.d)(d:∀b,F b→aQ b)(i:Rd aQ H a6 1 x.v.v x.d):∀y∈l.take p++x::l.drop p,Rd aQ H a6 1 y.v.v y.d:=by
 intro y hy;rcases List.mem_append.1 hy with hy|hy
 ·exact(h y (List.mem_of_mem_take hy)).imp (fun b _ e=>d b e)
 ·rcases List.mem_cons.1 hy with hy|hy
  ·rw[hy];exact i
  ·exact(h y (List.mem_of_mem_drop hy)).imp (fun b _ e=>d b e)
theorem zF{el:List bu}{l:jz}{n:Nat}:(gA l (el.take n)).length≤l.length+n:=by
 have d:=rI (el.take n) l;have V:(el.take n).length≤n:=by rw[List.length_take];exact Nat.min_le_left _ _
 omega
set_option maxHeartbeats 16000000 in
theorem zY(s:c1)(t:bP)(F fP:Nat→Prop)(w0:World)(J:Heap)
 (aj:fo F J s) (fa:bk F J.size) (M:eU fP J t) (dU:bk fP J.size) (ok:s.m.Ok) (av:dD s.m t=0) (fI:lG t):
 aG Tryz.prog w0 24 #[eR s,ep t] J (fun r bc=>∃fJ:c1,r=eR fJ∧(fo (fun b=>J.size≤b) bc fJ)∧(fJ.m=s.m.ap t)∧aq J bc):=by
 refine aG.enter (args:=[eR s,ep t]) Tryz.func24 rfl rfl rfl ?_;intro kV kL;have B:aq J J:=W.refl _ _;have nc:=ok.ap av;have gG:=oH av;have nd:=fI.ba;have nf:=fI.ml;have ng:=fI.el;have z3:=ok.iW;refine G.L (fun f0=>?_);refine o.aS cY ?_;rintro v2 bc ⟨rfl,aT,eV,mx,f1⟩;have f2:bc.size=J.size+1:=by rw[f1];simp
 have aj:=aj.N eV;have M:=M.N eV;have B:=B.L eV;have mz:=eV.size;have aT:Var 47 bc J.size (b3 s):=aT;refine o.aS cY ?_;rintro v3 R ⟨rfl,E,ef,mB,f3⟩;have f4:R.size=bc.size+1:=by rw[f3];simp
 have aj:=aj.N ef;have M:=M.N ef;have aT:=aT.N ef;have B:=B.L ef;have mC:=ef.size;have E:Var 32 R bc.size (dB t):=E;refine o.aS (dk kW) ?_;rintro v4 hf ⟨rfl,C,dy,mD,f5⟩;have f6:hf.size=R.size+1:=by rw[f5];simp
 have ie:U 0 J.size (R.size+1):=U.new B.size;have aj:=aj.N dy;have M:=M.N dy;have aT:=aT.N dy;have E:=E.N dy;have B:=B.L dy;have mE:=dy.size;refine o.nil (f0 (G.L (fun f7=>?_)));refine o.v1 (a_ aT.O gY ev (cO _)) ?_;refine aV rY (tO s F w0 _ aj (fa.mono B.size) ok) (fun mF N f8=>?_);obtain⟨s2,a8,aQ,rfl,K,A,fE,ku,gX,fC,dC,de⟩:=f8;have ij:=ax.app (ax.z) (dU.mono B.size) fE;have gK:af (R.size+1) a8:=af.app (af.z) C.lt fE;have gL:U 0 J.size a8:=U.L (U.refl 0 _) fE B.size;have aj:=aj.N de;have M:=M.N de;have aT:=aT.N de;have E:=E.N de;have C:=C.N de;have B:=B.L de;have mG:=de.size;have fY:=A.le;have c3:=ku;have fi:ax _ (R.size+1):=ax.iv gX (by first|exact mU|exact mV|omega);have mZ:=K.g.len;have fB:∀c,aQ c→J.size≤c:=fun c e=>by have c2:=gX c e;omega
 refine o.aS (dk kW) ?_;rintro v5 hg ⟨rfl,d,cz,mH,f9⟩;have lp:hg.size=N.size+1:=by rw[f9];simp
 have fj:=(ax.new (fa.mono B.size):ax _ (N.size+1));have cJ:=(ax.new (dU.mono B.size):ax _ (N.size+1));have fk:af (J.size+1) (N.size+1):=af.new aT.lt;have cQ:af (bc.size+1) (N.size+1):=af.new E.lt;have cR:af (R.size+1) (N.size+1):=af.new C.lt;have cW:af a8 (N.size+1):=af.new A.le;have a5:=(ax.new (c3.mono (by omega)):ax _ (N.size+1));have bT:U 0 J.size (N.size+1):=U.new B.size;have aj:=aj.N cz;have M:=M.N cz;have aT:=aT.N cz;have E:=E.N cz;have C:=C.N cz;have A:=A.N cz;have K:=K.N cz;have B:=B.L cz;have mI:=cz.size;refine o.s1 (eh d (_) (b3 s2) (ke _) ev (cO _) ((dJ (cO _).symm))) fun eJ ik=>?_;obtain⟨d,bZ⟩:=ik;have bZ:=bZ.bB;have aj:=aj.ae bZ (ay.I fj);have M:=M.ae bZ (ay.I cJ);have aT:=aT.ae bZ (ag.I fk);have E:=E.ae bZ (ag.I cQ);have C:=C.ae bZ (ag.I cR);have A:=A.ae bZ (ag.I cW);have K:=K.ae bZ (ay.I a5);have B:=B.bx bZ (ah.I (ao.q bT));have mJ:=bZ.size;refine o.nil (f7 ?_)
 refine G.cut (fun(aP:(List UInt8))=>[(2,.pointer (some ⟨J.size,0,none⟩)),(3,.pointer (some ⟨bc.size,0,none⟩)),(4,.pointer (some ⟨R.size,0,none⟩)),(5,.pointer (some ⟨N.size,0,none⟩))])
  (fun(aP:(List UInt8)) (H:Heap)=>(Var 47 H N.size (b3 {s2 with ak:=aP}))∧(aP=if t.bz=true then t.ak else s2.ak)∧W (aB [(N.size+1)]) eJ H) (fun _ gT _=>?_) ?_
 ·
  have eK:W (aB [(N.size+1)]) eJ eJ:=W.refl _ _;have hs:=U.refl (N.size+1) eJ.size;refine G.L (fun kj=>?_);refine o.v1 (Y.an E.O rfl bt rfl dz) ?_;refine o.v1 (au E.O ec) (o.nil (kj ?_));refine cL (fun fq=>?_) (fun fq=>?_)
  ·
   refine G.region ?_;refine o.v1 (Y.an E.O rfl bt rfl bV) ?_;refine o.v1 (au (E.O.drop 1) bR) ?_;refine o.v1 (Y.an d.O rfl cH rfl bV) ?_;refine o.s1 (dL d 0 (b3 {s2 with ak:=t.ak}) (rfl) bV (by rw[cO];omega) ((GS _))) fun gc iq=>?_;obtain⟨d,eP⟩:=iq;have eP:=eP.bB;have eK:=eK.aL eP (ah.I (ao.r hs));have mK:=eP.size;refine o.nil ?_;refine aR.sub (gT (t.ak) _ ?_) ⟨rfl,rfl,rfl,rfl,trivial⟩;exact⟨d,by rw[if_pos fq],eK⟩
  ·
   refine G.skip ?_;refine aR.sub (gT (s2.ak) _ ?_) ⟨rfl,rfl,rfl,rfl,trivial⟩;exact⟨d,by rw[if_neg (by simp[fq])],eK⟩
 ·
  intro aP ey hn;obtain⟨d,kx,ct⟩:=hn;have aj:=aj.ae ct (ay.I fj);have M:=M.ae ct (ay.I cJ);have aT:=aT.ae ct (ag.I fk);have E:=E.ae ct (ag.I cQ);have C:=C.ae ct (ag.I cR);have A:=A.ae ct (ag.I cW);have K:=K.ae ct (ay.I a5);have B:=B.bx ct (ah.I (ao.q bT));have l6:=ct.size
  refine G.cut (fun(cD:(c5)×(Nat→Prop))=>match cD with|(ba,cG)=>[(2,.pointer (some ⟨J.size,0,none⟩)),(3,.pointer (some ⟨bc.size,0,none⟩)),(4,.pointer (some ⟨R.size,0,none⟩)),(5,.pointer (some ⟨N.size,0,none⟩))])
   (fun(ba,cG) (H:Heap)=>(Var 47 H N.size (b3 {s2 with ak:=aP,q:=ba}))∧(∀u:Unit,Rd cG H dF 33 ba.cf.v ba.ba)∧(bk cG H.size)∧(ax cG (N.size+1))∧(ax cG a8)∧(ax cG (R.size+1))∧(∀c,cG c→J.size≤c)∧(ba.p=if t.aj=true then(if t.q.k=0 then im else t.q.p)else s.m.q)∧W (aB [(N.size+1)]) ey H) (fun _ fu _=>?_) ?_
  ·
   have bO:W (aB [(N.size+1)]) ey ey:=W.refl _ _;have e6:=U.refl (N.size+1) ey.size;refine G.L (fun kl=>?_);refine o.v1 (Y.an E.O rfl bt rfl dz) ?_;refine o.v1 (au (E.O.drop 3) ec) (o.nil (kl ?_));refine cL (fun eW=>?_) (fun eW=>?_)
   ·
    refine G.L (fun ge=>?_);refine o.v1 (Y.an E.O rfl bt rfl dY) ?_;refine o.v1 (Y.cast (v2:=gu t.q) (a_ ((E.O.drop 4).take 70) j9 dY (by rw[jK];exact fz _)) (cn (jK t))) ?_;refine o.v1 (Y.an d.O rfl cH rfl dY) ?_;refine o.s1 (S.var d (_) (b3 {s2 with ak:=aP,q:=t.q}) rfl rfl rfl rfl ((my _)) dY (fz _) (by rw[cO];exact Nat.le_of_ble_eq_true rfl) ((yH _))) fun lV ir=>?_;obtain⟨d,cp⟩:=ir;have cp:=cp.bB;have M:=M.ae cp (ay.I cJ);have E:=E.ae cp (ag.I cQ);have C:=C.ae cp (ag.I cR);have A:=A.ae cp (ag.I cW);have B:=B.bx cp (ah.I (ao.q bT));have bO:=bO.aL cp (ah.I (ao.r e6));have ei:=cp.size;refine o.nil (ge (G.L (fun km=>?_)));refine o.v1 (Y.an E.O rfl bt rfl dY) ?_;refine o.v1 (Y.an (E.O.drop 4) rfl bN rfl e4) ?_;refine o.v1 (au E.O.Hf fU) ?_;refine aV vi (yU t.q.cf.v t.q.ba w0 _ M.q.any (by omega)) (fun V l7 kn=>?_);obtain⟨gU,ee,rfl,eo,eL,eM⟩:=kn;have iv:af (R.size+1) ee:=af.app (af.z) C.lt eL;have iw:af a8 ee:=af.app (af.z) A.le eL;have gb:af (N.size+1) ee:=af.app (af.z) d.lt eL;have ix:U 0 J.size ee:=U.L (U.refl 0 _) eL B.size;have E:=E.N eM;have d:=d.N eM;have bO:=bO.a8 eM;have lW:=eM.size;have kY:=eo.le;refine o.v1 (Y.an d.O rfl cH rfl dY) ?_;refine o.v1 (Y.an (d.O.drop 3) rfl bN rfl e4) ?_;refine o.s1 (dL d 69 (b3 {s2 with ak:=aP,q:={t.q with cf:=gU}}) (rfl) e4 (by rw[cO];omega) ((yL _ _))) fun lX iy=>?_;obtain⟨d,dj⟩:=iy;have dj:=dj.bB;have E:=E.ae dj (ag.I cQ);have eo:=eo.ae dj (ag.I gb.symm);have bO:=bO.aL dj (ah.I (ao.r e6));have lY:=dj.size;refine o.nil (km (G.L (fun ko=>?_)));refine o.v1 (Y.an E.O rfl bt rfl dY) ?_;refine o.v1 (Y.an (E.O.drop 4) rfl bN rfl b6) ?_;refine o.v1 (au E.O.pw cE) ?_;refine o.v1 cb (o.nil (ko ?_));refine aW (fun kp=>?_) (fun kp=>?_)
    ·
     refine G.region ?_;refine o.v1 (Y.build (v:=gu im) rfl rfl (by intro w;kernel_rfl)) ?_;refine o.v1 (Y.an d.O rfl cH rfl dY) ?_;refine o.s1 (S.var d (_) (b3 {s2 with ak:=aP,q:=im}) rfl rfl rfl rfl ((my _)) dY (fz _) (by rw[cO];exact Nat.le_of_ble_eq_true rfl) ((yH _))) fun lZ iA=>?_;obtain⟨d,eT⟩:=iA;have eT:=eT.bB;have bO:=bO.aL eT (ah.I (ao.r e6));have l0:=eT.size;refine o.nil ?_;refine aR.sub (fu (im,fun _=>False) _ ?_) ⟨rfl,rfl,rfl,rfl,trivial⟩;exact⟨d,(fun _=>Rd.nil _ _ _ _),(fun b e=>e.elim),(fun b e=>e.elim),(fun b e=>e.elim),(fun b e=>e.elim),(fun c e=>e.elim),by rw[if_pos eW,if_pos (by omega)];rfl,bO⟩
    ·
     refine G.skip ?_;refine aR.sub (fu ({t.q with cf:=gU},fun b=>b+1=ee) _ ?_) ⟨rfl,rfl,rfl,rfl,trivial⟩;exact⟨d,(fun _=>eo.rd),bk.of eo.le,(ax.of (gb.symm)),(ax.of (iw.symm)),(ax.of (iv.symm)),(fun c e=>by have c2:=(ix);unfold U at c2;omega),by rw[if_pos eW,if_neg (by omega)];rfl,bO⟩
   ·
    refine G.skip ?_;refine aR.sub (fu (s2.q,aQ) _ ?_) ⟨rfl,rfl,rfl,rfl,trivial⟩;exact⟨d,(fun _=>K.q),(c3.mono (by omega)),(a5),(fC),(fi),fB,by rw[if_neg (by simp[eW])];exact congrArg dZ.q dC,bO⟩
  ·
   rintro⟨ba,cG⟩ kX ho;obtain⟨d,az,fZ,e3,kS,kU,a9,kI,cu⟩:=ho;have aj:=aj.ae cu (ay.I fj);have M:=M.ae cu (ay.I cJ);have aT:=aT.ae cu (ag.I fk);have E:=E.ae cu (ag.I cQ);have C:=C.ae cu (ag.I cR);have A:=A.ae cu (ag.I cW);have K:=K.ae cu (ay.I a5);have B:=B.bx cu (ah.I (ao.q bT));have l1:=cu.size;refine G.L (fun d0=>?_);refine o.v1 (a_ aT.O gY ev (cO _)) ?_;refine aV vj (yS s F w0 _ aj (fa.mono B.size)) (fun l8 al kq=>?_);obtain⟨bF,rfl,O,be,cl⟩:=kq;have d1:=ax.app (ax.z) (dU.mono B.size) be;have d2:af (bc.size+1) (bF+1):=af.app (af.z) E.lt be;have gd:af (R.size+1) (bF+1):=af.app (af.z) C.lt be;have gf:af a8 (bF+1):=af.app (af.z) A.le be;have fl:=ax.app (ax.z) (c3.mono (by omega)) be;have dQ:af (N.size+1) (bF+1):=af.app (af.z) d.lt be;have d3:=ax.app (ax.z) (fZ.mono (by omega)) be;have gg:U 0 J.size (bF+1):=U.L (U.refl 0 _) be B.size;have M:=M.N cl;have E:=E.N cl;have C:=C.N cl;have A:=A.N cl;have K:=K.N cl;have d:=d.N cl;have az:=fun u=>(az u).N cl;have B:=B.L cl;have gs:=cl.size;have d4:=O.le;have kM:=w9 s.aY ok.fY.nodup;refine o.al ?_;refine d0 (G.L (fun d5=>?_));refine o.aS (Z.nJ aK rv rfl) fun l_ eX gt=>?_;obtain⟨rfl,L,ca,l2,d6⟩:=gt;have k2:eX.size=al.size+1:=by rw[d6];simp
   have gi:=(ax.new (dU.mono B.size):ax _ (al.size+1));have gj:af (bc.size+1) (al.size+1):=af.new E.lt;have gk:af (R.size+1) (al.size+1):=af.new C.lt;have gl:af a8 (al.size+1):=af.new A.le;have fm:=(ax.new (c3.mono (by omega)):ax _ (al.size+1));have dt:af (N.size+1) (al.size+1):=af.new d.lt;have gm:=(ax.new (fZ.mono (by omega)):ax _ (al.size+1));have eN:af (bF+1) (al.size+1):=af.new O.le;have gn:U 0 J.size (al.size+1):=U.new B.size;have M:=M.N ca;have E:=E.N ca;have C:=C.N ca;have A:=A.N ca;have K:=K.N ca;have d:=d.N ca;have az:=fun u=>(az u).N ca;have O:=O.N ca;have B:=B.L ca;have l3:=ca.size;have d7:=L.lt;refine o.al ?_;refine d5 (G.t1 (fun d8=>G.L (fun d9=>?_)));refine o.v1 (Y.an d.O rfl cH rfl gS) ?_;refine o.v1 (au (d.O.drop 2) hT) ?_;refine o.v1 (bf K.g h6) ?_;refine o.aa (o.nil (d9 ?_));refine G.aD (fun _ iB _=>?_)
   refine G.bc (fun(cD:(Nat)×(List (aJ×(aO×List c4))))=>match cD with|(j,aa)=>[(3,.pointer (some ⟨bc.size,0,none⟩)),(4,.pointer (some ⟨R.size,0,none⟩)),(5,.pointer (some ⟨N.size,0,none⟩)),(6,.map (some bF)),(7,.map (some al.size)),(46,s2.cP.v),(47,.int .i64 (s2.b4.length:Int)),(48,.int .i64 (j:Int))])
    (fun(j,aa) (H:Heap)=>(j≤s2.b4.length)∧(c0 H aK rv al.size aa)∧(∀p∈aa,∃y∈s2.b4,p.2=(y.v,y.l))∧(∀q,(aM aa q).map (·.2)=aM (dv (s2.b4.take j)) q)∧W (aB [(al.size+1)]) eX H)
    (fun(j,aa)=>s2.b4.length-j) (0,[]) ⟨rfl,rfl,rfl,rfl,rfl,rfl,rfl,rfl,trivial⟩ ?_ ?_
   ·
    exact⟨(by omega),L,(fun p h=>by cases h),(fun q=>rfl),W.refl _ _⟩
   rintro⟨j,aa⟩ co kr ma jz jA;obtain⟨mS,L,fH,fx,aX⟩:=kr;have M:=M.ae aX (ay.I gi);have E:=E.ae aX (ag.I gj);have C:=C.ae aX (ag.I gk);have A:=A.ae aX (ag.I gl);have K:=K.ae aX (ay.I fm);have d:=d.ae aX (ag.I dt);have az:=fun u=>(az u).ae aX (ay.I gm);have O:=O.ae aX (ag.I eN);have B:=B.bx aX (ah.I (ao.q gn));have l4:=aX.size;have ht:=U.refl (al.size+1) eX.size;refine G.L (fun jB=>?_);refine o.v1 bH (o.nil (jB ?_));refine G.t2 (fun jC jD=>?_);refine aW (fun kt=>?_) (fun kt=>?_)
   ·
    refine G.skip (jC (G.t1 (fun jE=>G.aD (fun jF _ _=>G.L (fun jG=>?_)))));have bl:j<s2.b4.length:=by omega
    obtain⟨y,bg⟩:∃q,q=s2.b4[j]:=⟨_,rfl⟩;have ek:y∈s2.b4:=by rw[bg];exact List.getElem_mem bl
    refine o.b1 (Y.bU K.g (j) rfl h6 iH rfl rfl) fun l5 jH=>?_;refine o.v1 (Y.cast (v2:= .agg (ia y).toArray) (a_ jH.O um iH (kB _)) (by rw[bg])) ?_;refine o.aS (dk zv) ?_;rintro v9 hh ⟨rfl,dK,fA,mb,j8⟩;have lB:hh.size=co.size+1:=by rw[j8];simp
    have em:af (al.size+1) (co.size+1):=af.new L.lt;have gC:U 0 eX.size (co.size+1):=U.new aX.size;have L:=L.N fA;have aX:=aX.a8 fA;have lC:=fA.size;refine o.s1 (eh dK (_) (ia y) (nn y) iH (kB _) ((dJ (kB _).symm))) fun k3 hJ=>?_;obtain⟨dK,dP⟩:=hJ;have dP:=dP.bB;have L:=L.ae dP (ag.I em);have aX:=aX.aL dP (ah.I (ao.q gC));have lD:=dP.size;refine o.nil (jG (G.region ?_));refine o.aa ?_;refine o.v1 (Y.an dK.O rfl jv rfl bV) ?_;refine o.v1 (au dK.O bR) ?_;refine o.v1 (Y.an dK.O rfl jv rfl lq) ?_;refine o.v1 (au (dK.O.drop 1) k6) ?_;refine o.s1 (S.l0 ((y.v,y.l)) L gp rfl px Tryz.underlying9 rfl rfl rfl) fun k4 hK=>?_;obtain⟨L,et⟩:=hK;have et:=et.bB;have aX:=aX.aL et (ah.I (ao.r ht));have lE:=et.size;refine o.nil (jF (jE (G.region ?_)));refine o.v1 bD ?_;refine o.aa (o.nil ?_);refine aR.sub (jz (j+1,fD aa y.n (y.v,y.l)) _ ?_ ?_) ⟨rfl,rfl,rfl,rfl,rfl,rfl,(aF (by omega)),(aF (by omega)),trivial⟩
    ·exact⟨(by omega),L,(fun p bB=>by rcases sQ bB with h|h;exact⟨y,ek,h⟩;exact fH p h),(by rw[bg];exact DL (by rw[show dv s2.b4=s.m.dG from congrArg dZ.dG dC];exact ok.d_.nodup) fx bl),aX⟩
    ·first|omega|(simp only;omega)|(simp;omega)
   ·
    obtain rfl:j=s2.b4.length:=by omega
    rw[List.take_length,show dv s2.b4=s.m.dG from congrArg dZ.dG dC]at fx;have kA:∀p∈aa,p.2.2.length≤100:=fun p bB=>by obtain⟨y,hy,e⟩:=fH p bB;rw[e];exact ok.b4 (y.n,y.l) (by rw[←show dv s2.b4=s.m.dG from congrArg dZ.dG dC];exact List.mem_map.2 ⟨y,hy,rfl⟩)
    refine G.exit (jD (jA (iB ?_)));refine d8 (G.t1 (fun jI=>G.L (fun b1=>?_)));refine o.v1 (Y.an E.O rfl bt rfl dO) ?_;refine o.v1 (au (E.O.drop 2) dV) ?_;refine o.v1 (bf M.m c9) ?_;refine o.aa (o.nil (b1 ?_));refine G.aD (fun _ jJ _=>?_)
    refine G.bc (fun(cD:(Nat)×(List (aJ×cw))×(List (aJ×(aO×List c4)))×(Nat→Prop))=>match cD with|(i,ar,an,bo)=>[(3,.pointer (some ⟨bc.size,0,none⟩)),(4,.pointer (some ⟨R.size,0,none⟩)),(5,.pointer (some ⟨N.size,0,none⟩)),(6,.map (some bF)),(7,.map (some al.size)),(59,t.cN.v),(60,.int .i64 (t.ml.length:Int)),(61,.int .i64 (i:Int))])
     (fun(i,ar,an,bo) (H:Heap)=>(i≤t.ml.length)∧(c0 H aK bs bF ar)∧(∀q,aM ar q=aM ((t.ml.take i).foldl dH s.m.bI) q)∧(c0 H aK rv al.size an)∧(∀p∈an,Rd bo H eB 65 p.2.1.v p.2.2)∧(bk bo H.size)∧(ax bo (bF+1))∧(ax bo (al.size+1))∧(ax bo (N.size+1))∧(ax bo a8)∧(ax bo (R.size+1))∧(∀c,bo c→J.size≤c)∧(∀q,(aM an q).map (·.2)=aM ((t.ml.take i).foldl ig s.m.dG) q)∧(∀p∈an,p.2.2.length≤100)∧W (aB [(bF+1),(al.size+1)]) co H)
     (fun(i,ar,an,bo)=>t.ml.length-i) (0,lx s.aY,aa,aQ) ⟨rfl,rfl,rfl,rfl,rfl,rfl,rfl,rfl,trivial⟩ ?_ ?_
    ·
     exact⟨(by omega),O,kM,L,(fun p bB=>by obtain⟨y,hy,e⟩:=fH p bB;rw[e];exact K.n y hy),(c3.mono (by omega)),(fl),(fm),(a5),(fC),(fi),fB,fx,kA,W.refl _ _⟩
    rintro⟨i,ar,an,bo⟩ cg j_ mc gr es;obtain⟨mQ,O,dI,L,P,fg,fL,e5,dM,fM,fO,a3,eY,fG,ae⟩:=j_;have M:=M.ae ae (ay.cons d1 (ay.I gi));have E:=E.ae ae (ag.cons d2 (ag.I gj));have C:=C.ae ae (ag.cons gd (ag.I gk));have A:=A.ae ae (ag.cons gf (ag.I gl));have K:=K.ae ae (ay.cons fl (ay.I fm));have d:=d.ae ae (ag.cons dQ (ag.I dt));have az:=fun u=>(az u).ae ae (ay.cons d3 (ay.I gm));have B:=B.bx ae (ah.cons (ao.q gg) (ah.I (ao.q gn)));have lF:=ae.size;have hv:=U.refl (bF+1) co.size;have fQ:=U.refl (al.size+1) co.size;refine G.L (fun jL=>?_);refine o.v1 bH (o.nil (jL ?_));refine G.t2 (fun jM jN=>?_);refine aW (fun ka=>?_) (fun ka=>?_)
    ·
     refine G.skip (jM (G.t1 (fun gv=>G.aD (fun gw _ _=>G.L (fun ex=>?_)))));have bl:i<t.ml.length:=by omega
     obtain⟨y,bg⟩:∃q,q=t.ml[i]:=⟨_,rfl⟩;have ek:y∈t.ml:=by rw[bg];exact List.getElem_mem bl
     refine o.b1 (Y.bU M.m (i) rfl c9 dp rfl rfl) fun lH jQ=>?_;refine o.v1 (Y.cast (v2:= .agg (db y).toArray) (a_ jQ.O ji dp (fc _)) (by rw[bg])) ?_;refine o.aS (dk l9) fun mL kb kc=>?_;obtain⟨rfl,bb,cc,lI,jR⟩:=kc;have nm:kb.size=cg.size+1:=by rw[jR];simp
     have iY:af (R.size+1) (cg.size+1):=af.new C.lt;have iZ:af a8 (cg.size+1):=af.new A.le;have i_:=(ax.new (c3.mono (by omega)):ax _ (cg.size+1));have ja:af (N.size+1) (cg.size+1):=af.new d.lt;have gx:af (bF+1) (cg.size+1):=af.new O.le;have jb:af (al.size+1) (cg.size+1):=af.new L.lt;have jc:=(ax.new (fg.mono (by omega)):ax _ (cg.size+1));have jd:U 0 J.size (cg.size+1):=U.new B.size;have je:U 0 co.size (cg.size+1):=U.new ae.size;have C:=C.N cc;have A:=A.N cc;have K:=K.N cc;have d:=d.N cc;have O:=O.N cc;have L:=L.N cc;have P:=fun p X=>(P p X).N cc;have B:=B.L cc;have ae:=ae.a8 cc;have lJ:=cc.size;refine o.s1 (eh bb (_) (db y) (kC y) dp (fc _) ((dJ (fc _).symm))) fun k5 hL=>?_;obtain⟨bb,bJ⟩:=hL;have bJ:=bJ.bB;have C:=C.ae bJ (ag.I iY);have A:=A.ae bJ (ag.I iZ);have K:=K.ae bJ (ay.I i_);have d:=d.ae bJ (ag.I ja);have O:=O.ae bJ (ag.I gx);have L:=L.ae bJ (ag.I jb);have P:=fun p X=>(P p X).ae bJ (ay.I jc);have B:=B.bx bJ (ah.I (ao.q jd));have ae:=ae.aL bJ (ah.I (ao.q je));have lL:=bJ.size;refine o.nil (ex (G.L (fun jf=>?_)));refine o.aa ?_;refine o.v1 (a_ bb.O ji dp (fc _)) ?_;refine aV vk (xh bF ar y w0 _ O) (fun m6 m7 kd=>?_);obtain⟨rfl,O,cd⟩:=kd;have C:=C.ae cd (ag.I gd);have A:=A.ae cd (ag.I gf);have K:=K.ae cd (ay.I fl);have d:=d.ae cd (ag.I dQ);have L:=L.ae cd (ag.I eN.symm);have P:=fun p X=>(P p X).ae cd (ay.I fL);have bb:=bb.ae cd (ag.I gx.symm);have B:=B.bx cd (ah.I (ao.q gg));have ae:=ae.aL cd (ah.I (ao.r hv));have lM:=cd.size;refine o.nil (jf (G.L (fun jg=>?_)));refine o.v1 (Y.an bb.O rfl cv rfl bd) ?_;refine o.v1 (Y.cast (v2:=bs y.w) (a_ ((bb.O.drop 33).take 32) cj bd (by rw[fe];exact bC _)) (cn (fe _))) ?_;refine aV ky (kN y.w w0 _) (fun m8 eZ kf=>?_);obtain⟨rfl,bU⟩:=kf;have C:=C.N bU;have A:=A.N bU;have K:=K.N bU;have d:=d.N bU;have O:=O.N bU;have L:=L.N bU;have P:=fun p X=>(P p X).N bU;have bb:=bb.N bU;have B:=B.L bU;have ae:=ae.a8 bU;have lN:=bU.size;refine o.nil (jg ?_);refine aW (fun fw=>?_) (fun fw=>?_)
     ·
      refine G.region ?_;refine o.aa ?_;refine o.v1 (Y.an bb.O rfl cv rfl bV) ?_;refine o.v1 (au bb.O bR) ?_;refine o.rq (Z.qb L gp rfl px Tryz.underlying9 rfl rfl) cM rfl (fun k7 k8 hM=>?_);obtain⟨rfl,L,dh⟩:=hM;have dh:=dh.bB;have O:=O.ae dh (ag.I eN);have P:=fun p X=>(P p X).ae dh (ay.I e5);have ae:=ae.aL dh (ah.I (ao.r fQ));have lO:=dh.size;refine o.nil (gw (gv (G.region ?_)));refine o.v1 bD ?_;refine o.aa (o.nil ?_);refine aR.sub (gr (i+1,jT ar y,eu an y.n,bo) _ ?_ ?_) ⟨rfl,rfl,rfl,rfl,rfl,rfl,(aF (by omega)),(aF (by omega)),trivial⟩
      ·exact⟨(by omega),O,(fun q=>by rw[lQ bl,←bg,sM,o7 (kE ok.fY),dI]),L,(fun p bB=>P p (qC bB).1),(fg.mono (by omega)),fL,e5,dM,fM,fO,(by omega),by rw[lQ bl,←bg];exact DJ eY (by simpa using fw),(fun p bB=>fG p (qC bB).1),ae⟩
      ·first|omega|(simp only;omega)|(simp;omega)
     ·
      refine dg (fun b8=>aq eZ b8) [9] ?_;have bp:aq eZ eZ:=W.refl _ _;obtain⟨z,ei⟩:∃z,z=(aM an y.n).getD lA:=⟨_,rfl⟩;have m5:=DI fG ei;refine T.aa 0 rfl bp ?_;refine T.t1 1 rfl (fun b8 K=>Y.an (bb.O.N K) rfl cv rfl bV) bp ?_;refine T.t1 2 rfl (fun b8 K=>au (bb.O.N K) bR) bp ?_;refine T.aa 3 rfl bp ?_;refine T.t1 4 rfl (fun b8 K=>Y.an (bb.O.N K) rfl cv rfl bV) bp ?_;refine T.t1 5 rfl (fun b8 K=>au (bb.O.N K) bR) bp ?_;refine T.t1 6 rfl (fun b8 K=>Y.cast (v2:=z.1.v) (Y.lookup (z0:=lA) (L.N K).fi gp rfl px Tryz.underlying9 zu rfl rfl) (by rw[ei])) bp ?_;refine T.t1 7 rfl (fun b8 K=>a_ (bb.O.N K) ji dp (fc _)) bp ?_;refine T.aX 8 ?_;refine b7 BE (DZ z.1.v z.2 y w0 _ (ya P ei).any (by omega)) (fun id kg kh=>?_);obtain⟨gV,cC,rfl,er,br,df⟩:=kh;have jj:af (R.size+1) cC:=af.app (af.z) C.lt br;have jk:af a8 cC:=af.app (af.z) A.le br;have jl:af (N.size+1) cC:=af.app (af.z) d.lt br;have jm:af (bF+1) cC:=af.app (af.z) O.le br;have gy:af (al.size+1) cC:=af.app (af.z) L.lt br;have jn:U 0 J.size cC:=U.L (U.refl 0 _) br B.size;have hN:U 0 eZ.size cC:=U.L (U.refl 0 _) br bp.size;have K:=K.N df;have O:=O.N df;have L:=L.N df;have P:=fun p X=>(P p X).N df;have ae:=ae.a8 df;have bp:=bp.L df;have lP:=df.size;have kZ:=er.le;refine⟨.inr bp,T.narrow (SH2:=fun b8=>W (aB [cC]) kg b8) (fun b8 K=>(W.aL (ks:=[]) (bp.kI []) K (ah.I (ao.q hN))).nil) ?_⟩;refine T.aX 9 ?_;refine gW rfl (S.l0 ((gV,jP (z.2++[⟨y.I,y.w,y.y⟩]))) L gp rfl px Tryz.underlying9 rfl rfl rfl) (fun la hP=>?_);obtain⟨L,c_⟩:=hP;have c_:=c_.bB;have O:=O.ae c_ (ag.I eN);have P:=fun p X=>(P p X).ae c_ (ay.I e5);have er:=er.ae c_ (ag.I gy.symm);have ae:=ae.aL c_ (ah.I (ao.r fQ));have lR:=c_.size;refine⟨.inl rfl,?_⟩;refine cI ?_;refine gw (gv (G.region ?_));refine o.v1 bD ?_;refine o.aa (o.nil ?_);refine aR.sub (gr (i+1,jT ar y,fD an y.n (gV,jP (z.2++[⟨y.I,y.w,y.y⟩])),fun b=>bo b∨b+1=cC) _ ?_ ?_) ⟨rfl,rfl,rfl,rfl,rfl,rfl,(aF (by omega)),(aF (by omega)),trivial⟩
      ·exact⟨(by omega),O,(fun q=>by rw[lQ bl,←bg,sM,o7 (kE ok.fY),dI]),L,(fun p bB=>by rcases sQ bB with h|h;rw[h];exact er.rd.imp (fun b _ e=> .inr e);exact(P p h).imp (fun b _ e=> .inl e)),bk.dx (fg.mono (by omega)) er.le,ax.dx (fL) (jm),ax.dx (e5) (gy),ax.dx (dM) (jl),ax.dx (fM) (jk),ax.dx (fO) (jj),lK a3 (jn),by rw[lQ bl,←bg];exact DK eY (sn ok.d_) (by simpa using fw) ei,(fun p bB=>by rcases sQ bB with h|h;rw[h];exact qx _;exact fG p h),ae⟩
      ·first|omega|(simp only;omega)|(simp;omega)
    ·
     obtain rfl:i=t.ml.length:=by omega
     rw[List.take_length]at dI eY;have mW:=sK O.fi.nodup (kE ok.fY).nodup dI;have m1:=gG.hi;refine G.exit (jN (es (jJ ?_)));refine jI (G.L (fun jo=>?_));refine o.v1 (Y.an d.O rfl cH rfl h2) ?_;refine o.s1 (dL d 1 (b3 {s2 with ak:=aP,q:=ba,fN:=dw,aY:=[]}) (rfl) h2 (by rw[cO];omega) ((yI dw []))) fun ld hQ=>?_;obtain⟨d,bz⟩:=hQ;have bz:=bz.bB;have M:=M.ae bz (ay.I cJ);have E:=E.ae bz (ag.I cQ);have C:=C.ae bz (ag.I cR);have A:=A.ae bz (ag.I cW);have K:=K.ae bz (ay.I a5);have az:=fun u=>(az u).ae bz (ay.I e3);have O:=O.ae bz (ag.I dQ.symm);have L:=L.ae bz (ag.I dt.symm);have P:=fun p X=>(P p X).ae bz (ay.I dM);have B:=B.bx bz (ah.I (ao.q bT));have lS:=bz.size;refine o.v1 (Y.an d.O rfl cH rfl gS) ?_;refine o.s1 (dL d 2 (b3 {s2 with ak:=aP,q:=ba,fN:=dw,aY:=[],cP:=dw,b4:=[]}) (rfl) gS (by rw[cO];omega) ((tE dw []))) fun hU hR=>?_;obtain⟨d,bA⟩:=hR;have bA:=bA.bB;have M:=M.ae bA (ay.I cJ);have E:=E.ae bA (ag.I cQ);have C:=C.ae bA (ag.I cR);have A:=A.ae bA (ag.I cW);have K:=K.ae bA (ay.I a5);have az:=fun u=>(az u).ae bA (ay.I e3);have O:=O.ae bA (ag.I dQ.symm);have L:=L.ae bA (ag.I dt.symm);have P:=fun p X=>(P p X).ae bA (ay.I dM);have B:=B.bx bA (ah.I (ao.q bT));have lT:=bA.size;refine o.nil (jo (G.t1 (fun jq=>G.L (fun jr=>?_))));refine o.aa ?_;refine aV vl (wN bF w0 _) (fun m9 m_ ki=>?_);obtain⟨eS,rfl,b2,fF,bE⟩:=ki;have hV:af (R.size+1) (eS+1):=af.app (af.z) C.lt fF;have hW:af a8 (eS+1):=af.app (af.z) A.le fF;have fS:af (N.size+1) (eS+1):=af.app (af.z) d.lt fF;have M:=M.N bE;have E:=E.N bE;have C:=C.N bE;have A:=A.N bE;have K:=K.N bE;have d:=d.N bE;have az:=fun u=>(az u).N bE;have O:=O.N bE;have L:=L.N bE;have P:=fun p X=>(P p X).N bE;have B:=B.L bE;have g0:=bE.size;have k0:=b2.le;refine aV BF (GA eS bF bs ar w0 _ b2 O (by omega)) (fun ih bw g1=>?_);obtain⟨g2,g3,ab,rfl,on,js,dG,bx⟩:=g1;have hz:af (N.size+1) g3:=af.app (af.z) d.lt js;have M:=M.N bx;have E:=E.N bx;have C:=C.N bx;have A:=A.N bx;have K:=K.N bx;have d:=d.N bx;have az:=fun u=>(az u).N bx;have O:=O.N bx;have L:=L.N bx;have P:=fun p X=>(P p X).N bx;have b2:=b2.N bx;have B:=B.L bx;have g4:=bx.size;have k1:=on.le;have kF:=nO (ti dG.1) (fun k kz=>(dG.2 k).1 kz);rw[List.length_map]at kF;refine o.v1 (bf on.rd jw) ?_;refine o.aa (o.nil (jr ?_));refine G.aD (fun _ jt _=>?_)
     refine G.bc (fun(cD:(Nat)×(aO)×(Nat)×(aO)×(Nat))=>match cD with|(ai,kR,bL,h4,bK)=>[(3,.pointer (some ⟨bc.size,0,none⟩)),(4,.pointer (some ⟨R.size,0,none⟩)),(5,.pointer (some ⟨N.size,0,none⟩)),(6,.map (some bF)),(7,.map (some al.size)),(88,g2.v),(89,.int .i64 (ab.length:Int)),(90,.int .i64 (ai:Int))])
      (fun(ai,kR,bL,h4,bK) (H:Heap)=>(ai≤ab.length)∧(Var 47 H N.size (b3 {s2 with ak:=aP,q:=ba,fN:=kR,aY:=(ab.take ai).map (hO ar),cP:=h4,b4:=(ab.take ai).map (hY an)}))∧(aU bL 71 H dE 33 kR.v ((ab.take ai).map (hO ar)))∧(aU bK 62 H ia 2 h4.v ((ab.take ai).map (hY an)))∧(U 0 bw.size bL)∧(U 0 bw.size bK)∧(af (N.size+1) bL)∧(af (N.size+1) bK)∧(af bL bK)∧W (aB [(N.size+1)]) bw H)
      (fun(ai,kR,bL,h4,bK)=>ab.length-ai) (0,dw,0,dw,0) ⟨rfl,rfl,rfl,rfl,rfl,rfl,rfl,rfl,trivial⟩ ?_ ?_
     ·
      exact⟨(by omega),d,aU.nil ib k9,aU.nil kB nn,U.refl _ _,U.refl _ _,af.z,af.z,af.z,W.refl _ _⟩
     rintro⟨ai,kR,bL,h4,bK⟩ cZ g5 ii ju jx;obtain⟨mX,d,aL,aI,dN,ez,hk,hl,hx,Q⟩:=g5;have hA:af (R.size+1) bL:=af.app (af.z) C.lt dN;have hC:af a8 bL:=af.app (af.z) A.le dN;have du:af (al.size+1) bL:=af.app (af.z) L.lt dN;have hF:U 0 J.size bL:=U.L (U.refl 0 _) dN B.size;have hG:af (R.size+1) bK:=af.app (af.z) C.lt ez;have hH:af a8 bK:=af.app (af.z) A.le ez;have cB:U 0 J.size bK:=U.L (U.refl 0 _) ez B.size;have M:=M.ae Q (ay.I cJ);have E:=E.ae Q (ag.I cQ);have C:=C.ae Q (ag.I cR);have A:=A.ae Q (ag.I cW);have K:=K.ae Q (ay.I a5);have az:=fun u=>(az u).ae Q (ay.I e3);have O:=O.ae Q (ag.I dQ.symm);have L:=L.ae Q (ag.I dt.symm);have P:=fun p X=>(P p X).ae Q (ay.I dM);have b2:=b2.ae Q (ag.I fS.symm);have on:=on.ae Q (ag.I hz.symm);have B:=B.bx Q (ah.I (ao.q bT));have g6:=Q.size;have hi:=aL.le;have hj:=aI.le;have e7:=hk;have eE:=hl;have fT:=hx;have fR:=U.refl (N.size+1) bw.size;have fV:=dN;have fW:=ez;refine G.L (fun iO=>?_);refine o.v1 bH (o.nil (iO ?_));refine G.t2 (fun iS iT=>?_);refine aW (fun g7=>?_) (fun g7=>?_)
     ·
      refine G.skip (iS (G.t1 (fun iU=>G.aD (fun iV _ _=>G.L (fun iW=>?_)))));have bl:ai<ab.length:=by omega
      obtain⟨x,hex⟩:∃x,x=ab[ai]:=⟨_,rfl⟩;have hc:(ab.take (ai+1)).map (hO ar)=(ab.take ai).map (hO ar)++[hO ar x]:=by rw[List.take_succ_eq_append_getElem bl,List.map_append,←hex];rfl
      have hd:(ab.take (ai+1)).map (hY an)=(ab.take ai).map (hY an)++[hY an x]:=by rw[List.take_succ_eq_append_getElem bl,List.map_append,←hex];rfl
      have m2:(ab.take ai).length=ai:=by rw[List.length_take];omega
      refine o.v1 (il on (ai) jw bV (by first|omega|(simp;omega)|(simp;done))) ?_;refine o.v1 (Y.cast (v2:=aK x) (au (on.O (j:=ai) (by first|omega|(simp;omega)|(simp;done))) bR) (by rw[hex])) ?_;refine o.al ?_;refine iW (G.L (fun iX=>?_));refine o.v1 (Y.an d.O rfl cH rfl h2) ?_;refine o.v1 (au (d.O.drop 1) jh) ?_;refine o.az 3 ?_;refine o.v1 (Y.lookup (z0:=bq) O.fi gp rfl kT Tryz.underlying9 m0 rfl rfl) ?_;refine o.v1 (Y.build (v:= .agg (dE (hO ar x)).toArray) rfl rfl (by intro w;exact rT _ _)) ?_;refine o.aS (cS _ ([hO ar x]) jO ib k9 (rfl)) fun g8 ga jy=>?_;obtain⟨kO,dm,lf,hI⟩:=jy;have lr:ga.size=cZ.size+1:=by rw[hI];simp
      have L:=L.N dm;have d:=d.N dm;have aL:=aL.N dm;have aI:=aI.N dm;have Q:=Q.a8 dm;have g9:=dm.size;refine o.aS (eg aL kO.rd jO (by simp;omega) (by simp;omega)) fun gz lU fb=>?_;obtain⟨dx,aL,b5,c6⟩:=fb;have b5:U bL ga.size dx:=b5;have c6:=c6.md;have e8:af (N.size+1) dx:=af.app (e7) d.lt b5;have fX:af bK dx:=af.app (fT.symm) aI.le b5;have iC:U 0 bw.size dx:=U.L (fV) b5 Q.size;have L:=L.ae c6 (ag.I du);have d:=d.ae c6 (ag.I e7);have aI:=aI.ae c6 (ag.I fT.symm);have Q:=Q.aL c6 (ah.I (ao.q fV));have mM:=c6.size;have hi:=aL.le;obtain⟨fp,rfl⟩:∃s:aO,gz=s.v:=⟨cm gz,aL.bm.symm⟩;refine o.v1 (Y.an d.O rfl cH rfl h2) ?_;refine o.s1 (dL d 1 (b3 {s2 with ak:=aP,q:=ba,fN:=fp,aY:=(ab.take ai).map (hO ar)++[hO ar x],cP:=h4,b4:=(ab.take ai).map (hY an)}) (rfl) h2 (by rw[cO];omega) ((yI _ _))) fun hX hZ=>?_;obtain⟨d,am⟩:=hZ;have am:=am.bB;have L:=L.ae am (ag.I dt.symm);have aL:=aL.ae am (ag.I e8.symm);have aI:=aI.ae am (ag.I eE.symm);have Q:=Q.aL am (ah.I (ao.r fR));have aA:=am.size;refine o.nil (iX (G.region ?_));refine o.v1 (Y.an d.O rfl cH rfl gS) ?_;refine o.v1 (au (d.O.drop 2) hT) ?_;refine o.az 3 ?_;refine o.v1 (Y.lookup (z0:=lA) L.fi gp rfl px Tryz.underlying9 zu rfl rfl) ?_;refine o.v1 (Y.build (v:= .agg (ia (hY an x)).toArray) rfl rfl (by intro w;kernel_rfl)) ?_;refine o.aS (cS _ ([hY an x]) oU kB nn (rfl)) fun he bj jS=>?_;obtain⟨kP,dX,lg,dW⟩:=jS;have lu:bj.size=hX.size+1:=by rw[dW];simp
      have d:=d.N dX;have aL:=aL.N dX;have aI:=aI.N dX;have Q:=Q.a8 dX;have mO:=dX.size;refine o.aS (eg aI kP.rd oU (by simp;omega) (by simp;omega)) fun dd mP jU=>?_;obtain⟨dS,aI,ea,dq⟩:=jU;have ea:U bK bj.size dS:=ea;have dq:=dq.md;have f_:af (N.size+1) dS:=af.app (eE) d.lt ea;have iD:af dx dS:=af.app (fX.symm) aL.le ea;have gB:U 0 bw.size dS:=U.L (fW) ea Q.size;have d:=d.ae dq (ag.I eE);have aL:=aL.ae dq (ag.I fX.symm);have Q:=Q.aL dq (ah.I (ao.q fW));have mT:=dq.size;have hj:=aI.le;obtain⟨gN,rfl⟩:∃s:aO,dd=s.v:=⟨cm dd,aI.bm.symm⟩;refine o.v1 (Y.an d.O rfl cH rfl gS) ?_;refine o.s1 (dL d 2 (b3 {s2 with ak:=aP,q:=ba,fN:=fp,aY:=(ab.take ai).map (hO ar)++[hO ar x],cP:=gN,b4:=(ab.take ai).map (hY an)++[hY an x]}) (rfl) gS (by rw[cO];omega) ((tE _ _))) fun lv cs=>?_;obtain⟨d,dr⟩:=cs;have dr:=dr.bB;have aL:=aL.ae dr (ag.I e8.symm);have aI:=aI.ae dr (ag.I f_.symm);have Q:=Q.aL dr (ah.I (ao.r fR));have hm:=dr.size;refine o.nil (iV (iU (G.region ?_)));refine o.v1 bD ?_;refine o.aa (o.nil ?_);refine aR.sub (ju (ai+1,fp,dx,gN,dS) _ ?_ ?_) ⟨rfl,rfl,rfl,rfl,rfl,rfl,(aF (by omega)),(aF (by omega)),trivial⟩
      ·exact⟨(by omega),(by rw[hc,hd];exact d),(by rw[hc];exact aL),(by rw[hd];exact aI),iC,gB,e8,f_,iD,Q⟩
      ·first|omega|(simp only;omega)|(simp;omega)
     ·
      obtain rfl:ai=ab.length:=by omega
      rw[List.take_length]at d aL aI;refine G.exit (iT (jx (jt ?_)));refine jq (G.t1 (fun jV=>G.L (fun jW=>?_)));refine o.v1 (Y.an E.O rfl bt rfl dT) ?_;refine o.v1 (au E.O.gU eA) ?_;refine o.v1 (bf M.e cA) ?_;refine o.aa (o.nil (jW ?_));refine G.aD (fun _ jY _=>?_)
      refine G.bc (fun(cD:(Nat)×(aO)×(Nat)×(List bu)×(Nat→Prop))=>match cD with|(i4,ck,bn,aZ,bM)=>[(4,.pointer (some ⟨R.size,0,none⟩)),(5,.pointer (some ⟨N.size,0,none⟩)),(116,t.b9.v),(117,.int .i64 (t.el.length:Int)),(118,.int .i64 (i4:Int))])
       (fun(i4,ck,bn,aZ,bM) (H:Heap)=>(i4≤t.el.length)∧(Var 47 H N.size (b3 {s2 with ak:=aP,q:=ba,fN:=kR,aY:=(ab.map (hO ar)),cP:=h4,b4:=(ab.map (hY an)),b9:=ck,el:=aZ}))∧(aU bn 68 H bQ 33 ck.v aZ)∧(∀y∈aZ,Rd bM H a6 1 y.v.v y.d)∧(bk bM H.size)∧(ax bM (N.size+1))∧(ax bM bn)∧(ax bM (R.size+1))∧(∀c,bM c→J.size≤c)∧(cq aZ=gA s.m.g_ (t.el.take i4))∧(U a8 cZ.size bn)∧(af (N.size+1) bn)∧W (aB [(N.size+1),a8]) cZ H)
       (fun(i4,ck,bn,aZ,bM)=>t.el.length-i4) (0,s2.b9,a8,s2.el,aQ) ⟨rfl,rfl,rfl,rfl,rfl,trivial⟩ ?_ ?_
      ·
       exact⟨(by omega),d,A,K.d,(c3.mono (by omega)),(a5),(fC),(fi),fB,congrArg dZ.g_ dC,U.refl _ _,cW.symm,W.refl _ _⟩
      rintro⟨i4,ck,bn,aZ,bM⟩ cx aC na gO a1;obtain⟨mR,d,A,aH,ew,b0,e2,fK,a4,dA,fh,hp,ac⟩:=aC;have iE:af (R.size+1) bn:=af.app (gK) C.lt fh;have iF:U 0 J.size bn:=U.L (gL) fh B.size;have M:=M.ae ac (ay.cons cJ (ay.I ij));have C:=C.ae ac (ag.cons cR (ag.I gK));have az:=fun u=>(az u).ae ac (ay.cons e3 (ay.I kS));have P:=fun p X=>(P p X).ae ac (ay.cons dM (ay.I fM));have b2:=b2.ae ac (ag.cons fS.symm (ag.I hW.symm));have aL:=aL.ae ac (ag.cons e7.symm (ag.I hC.symm));have aI:=aI.ae ac (ag.cons eE.symm (ag.I hH.symm));have B:=B.bx ac (ah.cons (ao.q bT) (ah.I (ao.q gL)));have mY:=ac.size;have fY:=A.le;have eF:=hp;have bv:=U.refl (N.size+1) cZ.size;have eG:=fh;have kD:=congrArg List.length dA;have mN:=zF (el:=t.el) (l:=s.m.g_) (n:=i4);simp only[cq,List.length_map]at kD;have kv:n_ aZ:=n_.of (by rw[dA];exact qp ok.sE);refine G.L (fun ff=>?_);refine o.v1 bH (o.nil (ff ?_));refine G.t2 (fun jZ fn=>?_);refine aW (fun j0=>?_) (fun j0=>?_)
      ·
       refine G.skip (jZ (G.t1 (fun gP=>G.aD (fun dl _ _=>G.L (fun j2=>?_)))));have bl:i4<t.el.length:=by omega
       obtain⟨y,bg⟩:∃q,q=t.el[i4]:=⟨_,rfl⟩;have ek:y∈t.el:=by rw[bg];exact List.getElem_mem bl
       have m4:y.d.length≤65536:=by
        have ej:=o5 gG.g_ y ek;unfold gE at ej;split at ej
        ·cases ej
        ·split at ej
         ·cases ej
         ·omega
       refine o.b1 (Y.bU M.e (i4) rfl cA cr rfl rfl) fun fy cy=>?_;refine o.v1 (Y.cast (v2:= .agg (bQ y).toArray) (a_ cy.O iu cr (di _)) (by rw[bg])) ?_;refine o.aS (dk lz) fun nb kK hu=>?_;obtain⟨rfl,bm,bi,m3,j3⟩:=hu;have lh:kK.size=cx.size+1:=by rw[j3];simp
       have dn:=(ax.new (dU.mono B.size):ax _ (cx.size+1));have iG:af (R.size+1) (cx.size+1):=af.new C.lt;have gD:af bn (cx.size+1):=af.new A.le;have gF:af (N.size+1) (cx.size+1):=af.new d.lt;have gH:=(ax.new (ew.mono (by omega)):ax _ (cx.size+1));have iI:U 0 J.size (cx.size+1):=U.new B.size;have ce:U 0 cZ.size (cx.size+1):=U.new ac.size;have M:=M.N bi;have C:=C.N bi;have A:=A.N bi;have d:=d.N bi;have aH:=fun y aS=>(aH y aS).N bi;have B:=B.L bi;have ac:=ac.a8 bi;have hw:=bi.size;refine o.s1 (eh bm (_) (bQ y) (hr y) cr (di _) ((dJ (di _).symm))) fun lj e_=>?_;obtain⟨bm,aw⟩:=e_;have aw:=aw.bB;have M:=M.ae aw (ay.I dn);have C:=C.ae aw (ag.I iG);have A:=A.ae aw (ag.I gD);have d:=d.ae aw (ag.I gF);have aH:=fun y aS=>(aH y aS).ae aw (ay.I gH);have B:=B.bx aw (ah.I (ao.q iI));have ac:=ac.aL aw (ah.I (ao.q ce));have me:=aw.size;refine o.nil (j2 (G.L (fun oQ=>?_)));refine o.v1 (Y.an bm.O rfl fr rfl c8) ?_;refine o.v1 (au bm.O.jR eI) ?_;refine aV ni (mm y.v.v y.d w0 _ (M.d y ek).any (by omega)) (fun mf mg fs=>?_);obtain⟨bW,cX,rfl,a7,aD,a0⟩:=fs;have gI:af (R.size+1) cX:=af.app (af.z) C.lt aD;have eH:af bn cX:=af.app (af.z) A.le aD;have e9:af (N.size+1) cX:=af.app (af.z) d.lt aD;have ds:af (cx.size+1) cX:=af.app (af.z) bm.lt aD;have gJ:U 0 J.size cX:=U.L (U.refl 0 _) aD B.size;have A:=A.N a0;have d:=d.N a0;have aH:=fun y aS=>(aH y aS).N a0;have bm:=bm.N a0;have ac:=ac.a8 a0;have mh:=a0.size;have sl:=a7.le;refine o.v1 (Y.an bm.O rfl fr rfl c8) ?_;refine o.s1 (dL bm 32 (bQ ⟨y.k,bW,y.d⟩) (rfl) c8 (by rw[di];omega) ((Ek _ _))) fun lk iJ=>?_;obtain⟨bm,cK⟩:=iJ;have cK:=cK.bB;have A:=A.ae cK (ag.I gD);have d:=d.ae cK (ag.I gF);have aH:=fun y aS=>(aH y aS).ae cK (ay.I gH);have a7:=a7.ae cK (ag.I ds.symm);have ac:=ac.aL cK (ah.I (ao.q ce));have mi:=cK.size;refine o.nil (oQ (G.L (fun j4=>?_)));refine o.v1 (Y.an d.O rfl cH rfl dT) ?_;refine o.v1 (au d.O.i_ eA) ?_;refine o.v1 (a_ bm.O iu cr (di _)) ?_;refine aV BG (Ax ck.v aZ ⟨y.k,bW,y.d⟩ w0 _ A.rd.any (by omega) kv) (fun mj gQ fv=>?_);obtain⟨p,fd,rfl,kJ,g_,c7⟩:=fv;have A:=A.N c7;have d:=d.N c7;have aH:=fun y aS=>(aH y aS).N c7;have bm:=bm.N c7;have a7:=a7.N c7;have ac:=ac.a8 c7;have mn:=c7.size;obtain⟨ha,hb,kG⟩:=kJ;refine o.aa ?_;refine o.v1 cF ?_;refine o.v1 cF ?_;refine o.aP 2 ?_;refine j4 (G.L (fun j5=>?_));refine o.aa (o.nil (j5 ?_));refine cL (fun eC=>?_) (fun eC=>?_)
       ·
        obtain⟨e1,kH⟩:=g_.1 eC;refine G.region ?_;refine o.v1 (Y.an d.O rfl cH rfl dT) ?_;refine o.v1 (au d.O.i_ eA) ?_;refine o.aa ?_;refine o.v1 (a_ bm.O iu cr (di _)) ?_;refine o.v1 (il A (p) cA cr (by omega)) ?_;refine o.s1 (S.qU A p 0 (⟨y.k,bW,y.d⟩:bu) (bQ ⟨y.k,bW,y.d⟩) rfl rfl rfl rfl (hr _) cr (di _) e1 (by decide) (dJ (by rw[di,di])).symm) fun k_ iK=>?_;obtain⟨A,da⟩:=iK;have da:=da.md;have d:=d.ae da (ag.I eF);have aH:=fun y aS=>(aH y aS).ae da (ay.I e2);have a7:=a7.ae da (ag.I eH.symm);have ac:=ac.aL da (ah.I (ao.r eG));have mo:=da.size;refine o.nil (dl (gP (G.region ?_)));refine o.v1 bD ?_;refine o.aa (o.nil ?_);refine aR.sub (gO (i4+1,ck,bn,aZ.set p ⟨y.k,bW,y.d⟩,fun b=>bM b∨b+1=cX) _ ?_ ?_) ⟨rfl,rfl,rfl,(aF (by omega)),(aF (by omega)),trivial⟩
        ·exact⟨(by omega),d,A,yu p aH (fun b e=> .inl e) (a7.rd.imp (fun b _ e=> .inr e)),bk.dx (ew.mono (by omega)) a7.le,ax.dx (b0) (e9),ax.dx (e2) (eH),ax.dx (fK) (gI),lK a4 (gJ),by rw[pQ bl,←bg,←dA];exact vG (x:=⟨y.k,bW,y.d⟩) hb e1 kH,eG,eF,ac⟩
        ·first|omega|(simp only;omega)|(simp;omega)
       ·
        have e1:¬_:=fun h=>by rw[g_.2 h]at eC;cases eC
        refine G.region ?_;refine o.v1 (Y.an d.O rfl cH rfl dT) ?_;refine o.v1 (au d.O.i_ eA) ?_;refine o.aa ?_;refine o.v1 (a_ bm.O iu cr (di _)) ?_;refine o.aS (Z.DN _ [(⟨y.k,bW,y.d⟩:bu)] rfl iz rfl rfl rfl (by decide) (by decide) di hr rfl) fun mq j6 j7=>?_;obtain⟨kQ,a2,iL,dR⟩:=j7;have ly:j6.size=gQ.size+1:=by rw[dR];simp
        have iM:af bn (gQ.size+1):=af.new A.le;have A:=A.N a2;have d:=d.N a2;have aH:=fun y aS=>(aH y aS).N a2;have a7:=a7.N a2;have ac:=ac.a8 a2;have mr:=a2.size;refine aV BJ (Dx bn _ ck.v _ aZ ⟨y.k,bW,y.d⟩ p w0 _ A kQ (iM) ha ⟨iL,by rw[dR];simp⟩ (by omega)) (fun gR cV bX=>?_);have iN:=d.lt;have h3:=a7.le;obtain⟨ll,eD,rfl,A,e0,ed⟩:=bX;have ci:af (N.size+1) eD:=af.app (eF) iN e0;have h5:=ax.app (e2) (ew.mono (by omega)) e0;have h7:af cX eD:=af.app (eH.symm) h3 e0;have h8:U a8 cZ.size eD:=U.L (eG) e0 ac.size;have d:=d.ae ed (ag.I eF);have aH:=fun y aS=>(aH y aS).ae ed (ay.I e2);have a7:=a7.ae ed (ag.I eH.symm);have ac:=ac.aL ed (ah.I (ao.r eG));have mu:=ed.size;have fY:=A.le;obtain⟨gM,rfl⟩:∃s:aO,gR=s.v:=⟨cm gR,A.bm.symm⟩;refine o.v1 (Y.an d.O rfl cH rfl dT) ?_;refine o.s1 (dL d 73 (b3 {s2 with ak:=aP,q:=ba,fN:=kR,aY:=(ab.map (hO ar)),cP:=h4,b4:=(ab.map (hY an)),b9:=gM,el:=aZ.take p++⟨y.k,bW,y.d⟩::aZ.drop p}) (rfl) dT (by rw[cO];omega) ((yG _ _))) fun ln h9=>?_;obtain⟨d,dc⟩:=h9;have dc:=dc.bB;have A:=A.ae dc (ag.I ci.symm);have aH:=fun y aS=>(aH y aS).ae dc (ay.I b0);have a7:=a7.ae dc (ag.I e9.symm);have ac:=ac.aL dc (ah.I (ao.r bv));have mv:=dc.size;refine o.nil (dl (gP (G.region ?_)));refine o.v1 bD ?_;refine o.aa (o.nil ?_);refine aR.sub (gO (i4+1,gM,eD,aZ.take p++⟨y.k,bW,y.d⟩::aZ.drop p,fun b=>bM b∨b+1=cX) _ ?_ ?_) ⟨rfl,rfl,rfl,(aF (by omega)),(aF (by omega)),trivial⟩
        ·exact⟨(by omega),d,A,Ds p aH (fun b e=> .inl e) (a7.rd.imp (fun b _ e=> .inr e)),bk.dx (ew.mono (by omega)) a7.le,ax.dx (b0) (e9),ax.dx (h5) (h7.symm),ax.dx (fK) (gI),lK a4 (gJ),by rw[pQ bl,←bg,←dA];exact Cz (x:=⟨y.k,bW,y.d⟩) hb kG ha e1,h8,ci,ac⟩
        ·first|omega|(simp only;omega)|(simp;omega)
      ·
       obtain rfl:i4=t.el.length:=by omega
       rw[List.take_length]at dA;refine G.exit (fn (a1 (jY ?_)));refine jV (G.L (fun hB=>?_));refine o.v1 (a_ d.O gY ev (cO _)) ?_;refine o.s1 (eh C (_) (b3 {s2 with ak:=aP,q:=ba,fN:=kR,aY:=(ab.map (hO ar)),cP:=h4,b4:=(ab.map (hY an)),b9:=ck,el:=aZ}) (ke _) ev (cO _) ((dJ (cO _).symm))) fun lo h_=>?_;obtain⟨C,bY⟩:=h_;have bY:=bY.bB;have A:=A.ae bY (ag.I iE.symm);have az:=fun u=>(az u).ae bY (ay.I kU);have P:=fun p X=>(P p X).ae bY (ay.I fO);have b2:=b2.ae bY (ag.I hV.symm);have aL:=aL.ae bY (ag.I hA.symm);have aI:=aI.ae bY (ag.I hG.symm);have aH:=fun y aS=>(aH y aS).ae bY (ay.I fK);have B:=B.bx bY (ah.I (ao.q ie));have mw:=bY.size;refine o.nil (hB ?_);refine G.ret (kL .ret (.inr rfl) _ _ _ (kk rfl rfl C.O gY ev (cO _)) ?_)
       exact⟨{s2 with ak:=aP,q:=ba,fN:=kR,aY:=(ab.map (hO ar)),cP:=h4,b4:=(ab.map (hY an)),b9:=ck,el:=aZ},rfl,⟨aL.rd.imp (fun b _ e=>by have c2:=(hF);unfold U at c2;omega),aI.rd.imp (fun b _ e=>by have c2:=(cB);unfold U at c2;omega),(fun y hy=>by obtain⟨x,b2,e⟩:=List.mem_map.1 hy;rw[←e];exact(ya P rfl).imp (fun b _ e=>a3 b e)),(az ()).imp (fun b _ e=>a9 b e),A.rd.imp (fun b _ e=>by have c2:=(iF);unfold U at c2;omega),(fun y hy=>(aH y hy).imp (fun b _ e=>a4 b e))⟩,by
        have aN:aP=if t.bz=true then t.ak else s.m.ak:=by rw[kx];congr 1;exact congrArg dZ.ak dC
        have iP:=CV (kE ok.fY) dI dG.1 dG.2;have iR:=CU (sn ok.d_) (sw ok.cG) dI eY dG.1 dG.2;show dZ.mk aP (bh _) (dv _) ba.p (cq aZ)=_;rw[aN,iP,iR,kI,dA];rfl,B⟩
end gM

namespace h8
open E Go.RowKit eY fm fw fA ez eZ e0 fI fJ fQ gb eL gL gM dm
theorem uG:∀{l:List cx} {n:List UInt8} {i:Nat} (d:i<l.length),(∀j (h:j<l.length),j<i→¬l[j].n=n)→l[i].n=n→gd (bh l) n=l[i].i
 |x::l,n,0,_,_,e=>by
  have e:x.n=n:=e
  simp[gd,bh,aM,e]
 |x::l,n,i+1,d,h,e=>by
  have k:¬x.n=n:=h 0 (Nat.zero_lt_succ _) (Nat.zero_lt_succ _);have:=uG (l:=l) (n:=n) (i:=i) (Nat.lt_of_succ_lt_succ d) (fun j o V=>h (j+1) (Nat.succ_lt_succ o) (Nat.succ_lt_succ V)) e;simp only[gd,bh,List.map_cons,aM]at this⊢;rw[if_neg (fun q=>k q.symm)];exact this
theorem Ae{l:List cx}{n:List UInt8}(h:∀j (h:j<l.length),¬l[j].n=n):gd (bh l) n=bq:=by
 induction l with
 |nil=>rfl
 |cons x l ih=>
  have d:¬x.n=n:=h 0 (Nat.zero_lt_succ _);have:=ih (fun j i=>h (j+1) (Nat.succ_lt_succ i));simp only[gd,bh,List.map_cons,aM]at this⊢;rw[if_neg (fun q=>d q.symm)];exact this
theorem pU(s:c1)(n:List UInt8)(w0:World)(J:Heap)
 (j:bM J dE 33 s.fN.v s.aY):
 aG Tryz.prog w0 19 #[eR s,aK n] J (fun r A=>r=bs (gd (bh s.aY) n)∧aq J A):=by
 refine aG.enter (args:=[eR s,aK n]) Tryz.func19 rfl rfl rfl ?_;intro aQ R;have d:aq J J:=W.refl _ _;have j:=j.b2;have bl:=j.len;refine G.L (fun aD=>?_);refine o.aS cY ?_;rintro v2 A ⟨rfl,k,L,aZ,aH⟩;have bc:A.size=J.size+1:=by rw[aH];simp
 have j:=j.N L;have d:=d.L L;have a1:=L.size;have k:Var 47 A J.size (b3 s):=k;refine o.aS (dk m0) ?_;rintro v4 K ⟨rfl,x,F,a6,aI⟩;have bg:K.size=A.size+1:=by rw[aI];simp
 have ap:U 0 J.size (A.size+1):=U.new d.size;have j:=j.N F;have k:=k.N F;have d:=d.L F;have a7:=F.size;have x:Var 26 K A.size (bX bq):=x;refine o.nil (aD (G.t2 (fun aJ aL=>G.L (fun T=>?_))));refine o.al ?_;refine T (G.aD (fun _ X Z=>?_))
 refine G.bc (fun(i:(Nat))=>[(1,aK n),(2,.pointer (some ⟨J.size,0,none⟩)),(4,.pointer (some ⟨A.size,0,none⟩)),(5,.int .i64 i)])
  (fun(i:(Nat)) (H:Heap)=>(i≤s.aY.length)∧(∀q (h:q<s.aY.length),q<i→¬s.aY[q].n=n)∧aq K H)
  (fun(i:(Nat))=>s.aY.length-i) 0 ⟨rfl,rfl,rfl,rfl,trivial⟩ ?_ ?_
 ·
  exact⟨(by omega),(fun q h V=>absurd V (Nat.not_lt_zero _)),W.refl _ _⟩
 intro i a8 aa aP ab Q;obtain⟨bk,N,B⟩:=aa;have j:=j.N B;have k:=k.N B;have x:=x.N B;have d:=d.L B;have ba:=B.size;refine G.t2 (fun ae af=>G.L (fun ag=>?_));refine o.aa ?_;refine o.v1 (Y.an k.O rfl cH rfl h2) ?_;refine o.v1 (au (k.O.drop 1) jh) ?_;refine o.v1 (bf j hF) ?_;refine o.v1 bH (o.nil (ag ?_));refine aW (fun ai=>?_) (fun ai=>?_)
 ·
  refine G.skip (ae (G.t2 (fun al an=>G.aD (fun ar _ ay=>G.L (fun az=>?_)))));refine o.v1 (Y.an k.O rfl cH rfl h2) ?_;refine o.v1 (au (k.O.drop 1) jh) ?_;refine o.aa ?_;have aN:i<s.aY.length:=by omega
  obtain⟨y,C⟩:∃q,q=s.aY[i]:=⟨_,rfl⟩;refine o.b1 (Y.bU j (i) rfl hF iI rfl rfl) fun aS O=>?_;refine o.v1 (Y.an O.O rfl l6 rfl bV) ?_;refine o.v1 (Y.cast (v2:=aK y.n) (au (O.O.drop 0) bR) (by rw[C])) ?_;refine o.aa ?_;refine o.v1 (Y.lr rfl rfl rfl) (o.nil (az ?_));refine aW (fun M=>?_) (fun M=>?_)
  ·
   refine G.L (fun aB=>?_);refine o.v1 (Y.an k.O rfl cH rfl h2) ?_;refine o.v1 (au (k.O.drop 1) jh) ?_;refine o.aa ?_;refine o.b1 (Y.bU j (i) rfl hF iI rfl rfl) fun aT P=>?_;refine o.v1 (Y.an P.O rfl l6 rfl bd) ?_;refine o.v1 (Y.cast (v2:=bs y.i) (a_ ((P.O.drop 1).take 32) cj bd (by rw[qg];exact bC _)) ((by rw[C];exact cn (qg _)))) ?_;refine o.s1 (S.var x (_) (bX y.i) rfl rfl rfl rfl (jk y.i) bd (bC _) (by first|decide|simp[bC]) ((dJ ((bC _).trans (bC _).symm)))) fun aV aw=>?_;obtain⟨x,ac⟩:=aw;have ac:=ac.bB;have d:=d.bx ac (ah.I (ao.q ap));refine o.nil (aB ?_);refine G.ret (ay (an (Q (Z (aL (R .ret (.inr rfl) _ _ _ (kk rfl rfl x.O cj bd (bC _)) ?_))))));exact⟨by rw[uG aN N (by rw[←C];exact M),←C];first|done|rfl,d⟩
  ·
   refine G.skip (ar (al (G.region ?_)));refine o.aa ?_;refine o.v1 bD ?_;refine o.al ?_;refine aR.sub (ab (i+1) _ ?_ ?_) ⟨rfl,rfl,rfl,(aF (by omega)),trivial⟩
   ·exact⟨(by omega),(fun q h V=>by rcases Nat.lt_succ_iff_lt_or_eq.1 V with aM|rfl;exact N q h aM;rw[←C];exact M),B⟩
   ·first|omega|(simp only;omega)|(simp;omega)
 ·
  refine G.exit (af (Q (X ?_)));refine aJ (G.L (fun am=>?_));refine o.v1 (Y.build (v:=bs bq) rfl rfl (by intro w;kernel_rfl)) ?_;refine o.s1 (S.var x (_) (bX bq) rfl rfl rfl rfl (jk bq) bd (bC _) (by first|decide|simp[bC]) ((dJ ((bC _).trans (bC _).symm)))) fun aX aC=>?_;obtain⟨x,E⟩:=aC;have E:=E.bB;have d:=d.bx E (ah.I (ao.q ap));have bb:=E.size;refine o.nil (am ?_);refine G.ret (R .ret (.inr rfl) _ _ _ (kk rfl rfl x.O cj bd (bC _)) ?_);exact⟨by rw[Ae (fun q aO=>N q aO (by omega))];first|done|rfl,d⟩
end h8

namespace ob
open E Go.RowKit eY fm fw fA ez eZ e0 fI fJ fQ gb eL gL gM h8 dm
set_option maxRecDepth 100000 in
theorem jO:c3 Tryz.prog 44 71 33 48:=⟨Tryz.underlying44,_,_,rfl,rfl,rfl,rfl,rfl⟩
theorem GW{P:Program}{w0:World}{n:Nat}{l:bO}{H:Heap}{I:Oper}{x y:Operand}{t u:TypeId}{a b:List UInt8}(j:I.op= .binOp .geq t x y u)(k:aH l x=some (aK a))(hy:aH l y=some (aK b)):Y P w0 n l H I (.bool (!(Op.bytesLess a b))):=by
 intro ac w i o;have aN:=ByteArray.toList_eq (ByteArray.mk a.toArray);have d:=ByteArray.toList_eq (ByteArray.mk b.toArray);have h:(a==b)=decide (a=b):=by by_cases h:a=b<;>simp[h]
 simp only at aN d;simp[execOp,j,i.eval k,i.eval hy,binOp,Op.stringOp,eqGuard,aK,aN,d,h]
def hN(m:bn)(a:List cx×Bool)(x:cx):List cx×Bool:=
 let b:= !a.2&& !(Op.bytesLess x.n m.n)
 let I:=if b=true then a.1++[⟨m.n,m.w⟩]else a.1
 (if x.n≠m.n then I++[x]else I,a.2||b)
def mG(m:bn)(l:List cx):List cx:=
 let a:=l.foldl (hN m) ([],decide (m.w=bq))
 if a.2=true then a.1 else a.1++[⟨m.n,m.w⟩]
theorem Ex{m:bn}{l:List cx}{i:Nat}(d:i<l.length)(a:List cx×Bool):(l.take (i+1)).foldl (hN m) a=hN m ((l.take i).foldl (hN m) a) l[i]:=by
 rw[List.take_succ_eq_append_getElem d,List.foldl_append];rfl
theorem o8(m:bn):∀(l:List cx) (I:List cx),l.foldl (hN m) (I,true)=(I++l.filter (fun x=>decide (x.n≠m.n)),true)
 |[],I=>by simp
 |x::l,I=>by
  rw[List.foldl_cons];by_cases h:x.n=m.n
  ·rw[show hN m (I,true) x=(I,true)by simp[hN,h],o8 m l];simp[h]
  ·rw[show hN m (I,true) x=(I++[x],true)by simp[hN,h],o8 m l];simp[h]
theorem wm(m:bn):∀(l:List cx),bh (l.filter (fun x=>decide (x.n≠m.n)))=eu (bh l) m.n
 |[]=>rfl
 |x::l=>by
  have ih:=wm m l;by_cases h:x.n=m.n
  ·simp only[bh,eu,List.map_cons]at ih⊢
   simp[h]at ih⊢;exact ih
  ·simp only[bh,eu,List.map_cons]at ih⊢
   simp[h]at ih⊢;exact ih
theorem EA{m:bn}{x:cx}(I:List cx)(h:Op.bytesLess x.n m.n=true)(aC:¬x.n=m.n):hN m (I,false) x=(I++[x],false):=by simp[hN,h,aC]
theorem Ey{m:bn}{x:cx}(I:List cx)(h:Op.bytesLess x.n m.n=false)(aC:x.n=m.n):hN m (I,false) x=(I++[⟨m.n,m.w⟩],true):=by
 rw[aC]at h;simp[hN,h,aC]
theorem Ez{m:bn}{x:cx}(I:List cx)(h:Op.bytesLess x.n m.n=false)(aC:¬x.n=m.n):hN m (I,false) x=(I++[⟨m.n,m.w⟩]++[x],true):=by simp[hN,h,aC]
def qJ(m:bn)(a:List cx×Bool):List cx:=if a.2=true then a.1 else a.1++[⟨m.n,m.w⟩]
theorem nW(a b:List cx):bh (a++b)=bh a++bh b:=List.map_append
theorem xj(m:bn):∀(l:List cx) (I:List cx),dt (bh l)→bh (qJ m (l.foldl (hN m) (I,false)))=bh I++ea (bh l) m.n m.w
 |[],I,_=>by simp[qJ,bh,ea]
 |x::l,I,k=>by
  have av:=List.pairwise_cons.1 k;have j:∀y∈l,blt x.n y.n:=fun y hy=>av.1 (y.n,y.i) (List.mem_map.2 ⟨y,hy,rfl⟩);have n:bh (x::l)=(x.n,x.i)::bh l:=rfl;rw[List.foldl_cons,n]
  cases h:Op.bytesLess x.n m.n with
  |true=>
   have aC:¬x.n=m.n:=fun e=>by rw[e]at h;exact mn _ h
   rw[EA I h aC,xj m l _ av.2,nW,ea,if_neg aC,if_neg (oy h),List.append_assoc]
   rfl
  |false=>
   have i:(x.n=m.n∨blt m.n x.n)→l.filter (fun y=>decide (y.n≠m.n))=l:=fun q=>List.filter_eq_self.2 (fun y hy=>by
    refine decide_eq_true (fun e=>?_);have d:=j y hy;rcases q with q|q
    ·rw[q,e]at d;exact mn _ d
    ·rw[e]at d;exact oy d q)
   by_cases aC:x.n=m.n
   ·rw[Ey I h aC,o8,qJ,if_pos rfl,i (.inl aC),ea,if_pos aC,nW,nW,List.append_assoc]
    rfl
   ·have aA:blt m.n x.n:=Classical.byContradiction (fun q=>aC (mo (by unfold blt;rw[h];exact Bool.false_ne_true) q))
    rw[Ez I h aC,o8,qJ,if_pos rfl,i (.inr aA),ea,if_neg aC,if_pos aA,nW,nW,nW,List.append_assoc,List.append_assoc];rfl
theorem Er(m:bn)(l:List cx)(d:dt (bh l)):bh (mG m l)=dH (bh l) m:=by
 unfold mG dH;by_cases h:m.w=bq
 ·rw[if_pos h,show decide (m.w=bq)=true from decide_eq_true h,o8]
  simp only[if_true,List.nil_append];exact wm m l
 ·rw[if_neg h,show decide (m.w=bq)=false from decide_eq_false h]
  exact xj m l [] d
theorem El(v:Value)(l:List cx)(m:bn)(w0:World)(J:Heap)
 (A:bM J dE 33 v l) (dc:l.length≤1000000):
 aG Tryz.prog w0 64 #[v,kK m] J (fun r aQ=>∃s2:aO,∃a7:Nat,r=s2.v∧(aU a7 71 aQ dE 33 s2.v (mG m l))∧(U 0 J.size a7)∧aq J aQ):=by
 refine aG.aN [v,kK m] Tryz.func64 ?_;intro cy bp;have B:aq J J:=W.refl _ _;have A:=A.b2;have bt:=A.b5;have cQ:=m.w.2;have cR:=bq.2;refine G.L (fun b1=>?_);refine o.aS cY ?_;rintro v3 O ⟨rfl,n,ab,cV,b2⟩;have bi:O.size=J.size+1:=by rw[b2];simp
 have A:=A.N ab;have B:=B.L ab;have cW:=ab.size;have n:Var 52 O J.size (db m):=n;refine o.al ?_;refine b1 (G.L (fun b3=>?_));refine o.al ?_;refine b3 (G.L (fun aD=>?_));refine o.v1 (Y.an n.O rfl cv rfl bd) ?_;refine o.v1 (Y.cast (v2:=bs m.w) (a_ ((n.O.drop 33).take 32) cj bd (by rw[fe];exact bC _)) (cn (fe _))) ?_;refine o.v1 (Y.build (v:=bs bq) rfl rfl (by intro w;kernel_rfl)) ?_;refine o.v1 (Y.cast (v2:= .bool (decide (m.w=bq))) (Y.ka rfl Tryz.eqGuardType26 (fun w=>gR 9998 Tryz.underlying26 Tryz.underlying5 cK ed (by assumption) (by assumption) w) rfl rfl) ((congrArg Value.bool (decide_eq_decide.2 ⟨fun e=>Subtype.ext e,fun e=>congrArg Subtype.val e⟩)))) ?_;refine o.al ?_;refine aD (G.t1 (fun b5=>G.L (fun b6=>?_)));refine o.al ?_;refine b6 (G.aD (fun _ b7 _=>?_))
 refine G.bc (fun(T:(Nat)×(aO)×(Nat)×(List cx×Bool))=>match T with|(i,s1,k,a)=>[(0,v),(3,.pointer (some ⟨J.size,0,none⟩)),(5,s1.v),(6,.bool a.2),(7,.int .i64 (i:Int))])
  (fun(i,s1,k,a) (H:Heap)=>(i≤l.length)∧(aU k 71 H dE 33 s1.v (a.1))∧(a=(l.take i).foldl (hN m) ([],decide (m.w=bq)))∧(a.1.length≤2*i)∧(U 0 O.size k)∧aq O H)
  (fun(i,s1,k,a)=>l.length-i) (0,dw,0,([],decide (m.w=bq))) ⟨rfl,rfl,rfl,rfl,rfl,trivial⟩ ?_ ?_
 ·
  exact⟨(by omega),aU.nil ib k9,rfl,(by simp),U.refl _ _,W.refl _ _⟩
 rintro⟨i,s1,k,a⟩ x b8 cu b9 ca;obtain⟨da,j,Z,c_,E,F⟩:=b8;have br:=ax.app (ax.z) (bt.mono B.size) E;have cb:af (J.size+1) k:=af.app (af.z) n.lt E;have ae:U 0 J.size k:=U.L (U.refl 0 _) E B.size;have A:=A.N F;have n:=n.N F;have B:=B.L F;have cX:=F.size;have X:=j.le;have a5:=E;refine G.t2 (fun cc cd=>G.L (fun bv=>?_));refine o.az 2 ?_;refine o.v1 (bf A hF) ?_;refine o.v1 bH (o.nil (bv ?_));refine aW (fun cf=>?_) (fun cf=>?_)
 ·
  have cl:i<l.length:=by omega
  obtain⟨y,R⟩:∃q,q=l[i]:=⟨_,rfl⟩;refine G.skip (cc ?_)
  refine G.cut (fun(T:(aO)×(Nat)×(List cx)×(Bool))=>match T with|(sp,N,M,S)=>[(0,v),(3,.pointer (some ⟨J.size,0,none⟩)),(5,sp.v),(6,.bool S),(7,.int .i64 (i:Int))])
   (fun(sp,N,M,S) (H:Heap)=>(aU N 71 H dE 33 sp.v (M))∧((M,S)=hN m a l[i])∧(M.length≤2*i+2)∧(U k x.size N)∧W (aB [k]) x H) (fun _ aX _=>?_) ?_
  ·
   have C:W (aB [k]) x x:=W.refl _ _;have bb:=U.refl k x.size;refine G.aD (fun aZ _ _=>?_)
   refine G.cut (fun(T:(aO)×(Nat)×(List cx)×(Bool))=>match T with|(so,L,I,p)=>[(0,v),(3,.pointer (some ⟨J.size,0,none⟩)),(5,so.v),(6,.bool p),(7,.int .i64 (i:Int))])
    (fun(so,L,I,p) (H:Heap)=>(aU L 71 H dE 33 so.v (I))∧(I=if(!a.2&& !(Op.bytesLess y.n m.n))=true then a.1++[(⟨m.n,m.w⟩:cx)]else a.1)∧(p=(a.2||(!a.2&& !(Op.bytesLess y.n m.n))))∧(I.length≤2*i+1)∧(U k x.size L)∧W (aB [k]) x H) (fun _ a1 _=>?_) ?_
   ·
    have K:W (aB [k]) x x:=W.refl _ _;have aC:=U.refl k x.size;refine G.t1 (fun bu=>?_);refine ik ?_;refine o.aa ?_;refine o.v1 eG ?_;refine o.aa ?_;refine o.join (d:=29) (v:= .bool (!a.2&& !(Op.bytesLess y.n m.n))) 9 (fun aS=>?_) ?_
    ·
     refine o.split (d:=20) rfl (fun P=>?_) (fun P=>?_)
     ·
      refine o.az 2 ?_;refine o.e (g:=fun ad=> .pointer (some ad)) (Y.bU A (i) rfl hF iI rfl rfl) bo rfl rfl (fun c9 a6=>?_);refine o.ar (Y.an a6.O rfl l6 rfl bV) ?_;refine o.ar (Y.cast (v2:=aK y.n) (au (a6.O.drop 0) bR) (by rw[R])) ?_;refine o.ar (Y.an n.O rfl cv rfl bV) ?_;refine o.ar (au n.O bR) ?_;refine o.ar (GW rfl rfl rfl) ?_;refine o.O ?_;exact aS _ (congrArg (fun b=>some (Value.bool b)) (by simp[P])) (ai (ai (ai (ai (ai (ai (ai (ai (ai (bL (congrArg Value.bool P.symm)))))))))))
     ·
      refine o.az 9 ?_;exact aS _ (congrArg (fun b=>some (Value.bool b)) (by simp[P])) (ai (ai (ai (ai (ai (ai (ai (ai (ai (bL (congrArg Value.bool P.symm)))))))))))
    refine o.nil (bu ?_);refine cL (fun Q=>?_) (fun Q=>?_)
    ·
     refine G.L (fun bw=>?_);refine o.aa ?_;refine o.v1 (Y.an n.O rfl cv rfl bV) ?_;refine o.v1 (au n.O bR) ?_;refine o.v1 (Y.an n.O rfl cv rfl bd) ?_;refine o.v1 (Y.cast (v2:=bs m.w) (a_ ((n.O.drop 33).take 32) cj bd (by rw[fe];exact bC _)) (cn (fe _))) ?_;refine o.v1 (Y.build (v:= .agg (dE (⟨m.n,m.w⟩:cx)).toArray) rfl rfl (by intro w;exact rT _ _)) ?_;refine o.aS (cS _ ([(⟨m.n,m.w⟩:cx)]) jO ib k9 (rfl)) fun cZ aT ck=>?_;obtain⟨cq,aH,cH,bx⟩:=ck;have cz:aT.size=x.size+1:=by rw[bx];simp
     have j:=j.N aH;have K:=K.a8 aH;have c0:=aH.size;refine o.aS (eg j cq.rd jO (by simp;omega) (by simp;omega)) fun aV c1 bP=>?_;obtain⟨al,j,aI,am⟩:=bP;have aI:U k aT.size al:=aI;have am:=am.md;have bz:U k x.size al:=U.L (aC) aI K.size;have K:=K.aL am (ah.I (ao.r aC));have c2:=am.size;have X:=j.le;obtain⟨bQ,rfl⟩:∃s:aO,aV=s.v:=⟨cm aV,j.bm.symm⟩;refine o.al ?_;refine bw (G.region ?_);refine o.al ?_;refine aR.sub (a1 (bQ,al,a.1++[(⟨m.n,m.w⟩:cx)],true) _ ?_) ⟨rfl,rfl,rfl,rfl,(aF (by omega)),trivial⟩;exact⟨j,by rw[if_pos Q],by rw[Q,Bool.or_true],by simp;omega,bz,K⟩
    ·
     refine G.skip ?_;refine aR.sub (a1 (s1,k,a.1,a.2) _ ?_) ⟨rfl,rfl,rfl,rfl,(aF (by omega)),trivial⟩;exact⟨j,by rw[if_neg (by rw[Q];exact Bool.false_ne_true)],by rw[Q,Bool.or_false],by omega,aC,K⟩
   ·
    rintro⟨so,L,I,p⟩ bN aw;obtain⟨j,bl,bm,de,E,ac⟩:=aw;have aJ:U k x.size L:=U.L (bb) E C.size;have A:=A.ae ac (ay.I br);have n:=n.ae ac (ag.I cb);have C:=C.aL ac (ah.I (ao.r bb));have c3:=ac.size;have X:=j.le;refine G.t1 (fun bA=>?_);refine ik ?_;refine o.az 2 ?_;refine o.b1 (Y.bU A (i) rfl hF iI rfl rfl) fun cI a8=>?_;refine o.v1 (Y.an a8.O rfl l6 rfl bV) ?_;refine o.v1 (Y.cast (v2:=aK y.n) (au (a8.O.drop 0) bR) (by rw[R])) ?_;refine o.v1 (Y.an n.O rfl cv rfl bV) ?_;refine o.v1 (au n.O bR) ?_;refine o.v1 (Y.iZ rfl rfl rfl) (o.nil (bA ?_));refine aW (fun an=>?_) (fun an=>?_)
    ·
     refine G.region ?_;refine o.az 3 ?_;refine o.b1 (Y.bU A (i) rfl hF iI rfl rfl) fun cJ bB=>?_;refine o.v1 (Y.cast (v2:= .agg (dE y).toArray) (a_ bB.O pO iI (ib _)) (by rw[R])) ?_;refine o.aS (cS _ ([y]) jO ib k9 (rfl)) fun c5 a9 bU=>?_;obtain⟨cr,aL,cO,bE⟩:=bU;have cA:a9.size=bN.size+1:=by rw[bE];simp
     have j:=j.N aL;have C:=C.a8 aL;have c6:=aL.size;refine o.aS (eg j cr.rd jO (by simp;omega) (by simp;omega)) fun bg c7 bW=>?_;obtain⟨ar,j,aM,ap⟩:=bW;have aM:U L a9.size ar:=aM;have ap:=ap.md;have bF:U k x.size ar:=U.L (aJ) aM C.size;have C:=C.aL ap (ah.I (ao.r aJ));have cB:=ap.size;have X:=j.le;obtain⟨bX,rfl⟩:∃s:aO,bg=s.v:=⟨cm bg,j.bm.symm⟩;refine o.al ?_;refine aZ ?_;refine aR.sub (aX (bX,ar,I++[y],p) _ ?_) ⟨rfl,rfl,rfl,rfl,(aF (by omega)),trivial⟩;exact⟨j,by rw[←R];show _=(if y.n≠m.n then(if(!a.2&& !(Op.bytesLess y.n m.n))=true then a.1++[(⟨m.n,m.w⟩:cx)]else a.1)++[y]else(if(!a.2&& !(Op.bytesLess y.n m.n))=true then a.1++[(⟨m.n,m.w⟩:cx)]else a.1),a.2||(!a.2&& !(Op.bytesLess y.n m.n)));rw[if_pos an,←bl,←bm],by simp;omega,bF,C⟩
    ·
     refine G.skip (aZ ?_);refine aR.sub (aX (so,L,I,p) _ ?_) ⟨rfl,rfl,rfl,rfl,(aF (by omega)),trivial⟩;exact⟨j,by rw[←R];show _=(if y.n≠m.n then(if(!a.2&& !(Op.bytesLess y.n m.n))=true then a.1++[(⟨m.n,m.w⟩:cx)]else a.1)++[y]else(if(!a.2&& !(Op.bytesLess y.n m.n))=true then a.1++[(⟨m.n,m.w⟩:cx)]else a.1),a.2||(!a.2&& !(Op.bytesLess y.n m.n)));rw[if_neg an,←bl,←bm],by omega,aJ,C⟩
  ·
   rintro⟨sp,N,M,S⟩ c8 bO;obtain⟨j,cp,df,E,bc⟩:=bO;have bJ:U 0 O.size N:=U.L (a5) E F.size;have F:=F.bx bc (ah.I (ao.q a5));have cC:=bc.size;have X:=j.le;refine G.region ?_;refine o.aa ?_;refine o.v1 bD ?_;refine o.al ?_;refine aR.sub (b9 (i+1,sp,N,(M,S)) _ ?_ ?_) ⟨rfl,rfl,rfl,rfl,(aF (by omega)),trivial⟩
   ·exact⟨(by omega),j,by rw[Ex cl,←Z];exact cp,by show M.length≤_;omega,bJ,F⟩
   ·first|omega|(simp only;omega)|(simp;omega)
 ·
  obtain rfl:i=l.length:=by omega
  rw[List.take_length]at Z;refine G.exit (cd (ca (b7 ?_)));refine b5 (G.t1 (fun ba=>G.L (fun bK=>?_)));refine o.aa ?_;refine o.v1 eG (o.nil (bK ?_));refine cL (fun az=>?_) (fun az=>?_)
  ·
   refine G.region ?_;refine o.aa ?_;refine o.v1 (Y.an n.O rfl cv rfl bV) ?_;refine o.v1 (au n.O bR) ?_;refine o.v1 (Y.an n.O rfl cv rfl bd) ?_;refine o.v1 (Y.cast (v2:=bs m.w) (a_ ((n.O.drop 33).take 32) cj bd (by rw[fe];exact bC _)) (cn (fe _))) ?_;refine o.v1 (Y.build (v:= .agg (dE (⟨m.n,m.w⟩:cx)).toArray) rfl rfl (by intro w;exact rT _ _)) ?_;refine o.aS (cS _ ([(⟨m.n,m.w⟩:cx)]) jO ib k9 (rfl)) fun cD bk bY=>?_;obtain⟨ct,aN,cP,a0⟩:=bY;have bT:bk.size=x.size+1:=by rw[a0];simp
   have j:=j.N aN;have B:=B.L aN;have cE:=aN.size;refine o.aS (eg j ct.rd jO (by simp;omega) (by simp;omega)) fun be cG bZ=>?_;obtain⟨cg,j,aP,aa⟩:=bZ;have aP:U k bk.size cg:=aP;have aa:=aa.md;have a2:U 0 J.size cg:=U.L (ae) aP B.size;have B:=B.bx aa (ah.I (ao.q ae));obtain⟨b0,rfl⟩:∃s:aO,be=s.v:=⟨cm be,j.bm.symm⟩;refine o.al ?_;refine ba (G.L (fun a3=>?_));refine o.aP 2 ?_;refine a3 ?_;refine G.ret (bp ?_);exact⟨b0,cg,rfl,by unfold mG;simp only[←Z];rw[if_neg (by simpa using az)];exact j,(a2),B⟩
  ·
   refine G.skip (ba (G.L (fun a4=>?_)));refine o.aP 2 ?_;refine a4 ?_;refine G.ret (bp ?_);exact⟨s1,k,rfl,by unfold mG;simp only[←Z];rw[if_pos (by simpa using az)];exact j,(ae),B⟩
end ob

namespace pG
open E Go.RowKit eY fm fw fA ez eZ e0 fI fJ fQ gb eL gL gM h8 dm
theorem y0:∀{l:List fL} {i:Nat} (j:i<l.length),gT (l.take i)=0→hj l[i]≠0→gT l=hj l[i]
 |t::l,0,_,_,h=>by
  have h:hj t≠0:=h
  rw[gT,if_pos h];rfl
 |t::l,i+1,j,k,h=>by
  have d:gT (t::l.take i)=0:=k;rw[gT]at d;by_cases V:hj t≠0
  ·rw[if_pos V]at d;exact absurd d V
  ·rw[if_neg V]at d
   rw[gT,if_neg V];exact y0 (Nat.lt_of_succ_lt_succ j) d h
theorem z7{x:c5}(h:(((((x.cc=bq∨x.bw=bq)∨x.dn<0)∨x.dn>(x.ba.length:Int))∨x.md<0)∨x.md>x.dn)∨(x.st=true∧x.dn=(x.ba.length:Int))):hK x=false:=
 decide_eq_false (fun⟨a,b,c,d,e,f,g⟩=>by
  rcases h with(((((h|h)|h)|h)|h)|h)|h
  ·exact a h
  ·exact b h
  ·omega
  ·omega
  ·omega
  ·omega
  ·exact g h)
theorem pT{x:c5}(h:¬((((((x.cc=bq∨x.bw=bq)∨x.dn<0)∨x.dn>(x.ba.length:Int))∨x.md<0)∨x.md>x.dn)∨(x.st=true∧x.dn=(x.ba.length:Int)))):¬hK x=false:=fun e=>by
 simp only[not_or]at h;obtain⟨⟨⟨⟨⟨⟨a,b⟩,c⟩,d⟩,i⟩,f⟩,g⟩:=h;have V:hK x=true:=decide_eq_true ⟨a,b,by omega,by omega,by omega,by omega,g⟩;rw[e]at V;cases V
set_option maxHeartbeats 1600000 in
theorem Cu(x:c5)(w0:World)(J:Heap)
 (k:bM J dF 33 x.cf.v x.ba) (aA:x.br.length≤9223372036854775807):
 aG Tryz.prog w0 42 #[gu x] J (fun r aK=>r= .int .i64 (gI x)∧aq J aK):=by
 refine aG.aN [gu x] Tryz.func42 ?_;intro bE B;have n:aq J J:=W.refl _ _;have k:=k.b2;have b2:=k.len;have bi:=x.cc.2;have bO:=x.bw.2;have aD:=bq.2;refine G.L (fun bu=>?_);refine o.aS cY ?_;rintro v1 H1 ⟨rfl,j,T,bP,bw⟩;have bF:H1.size=J.size+1:=by rw[bw];simp
 have k:=k.N T;have n:=n.L T;have bQ:=T.size;have j:Var 29 H1 J.size (eC x):=j;refine o.al ?_;refine bu (G.t2 (fun a0 cg=>G.L (fun a2=>?_)));refine o.v1 (Y.an j.O rfl bN rfl b6) ?_;refine o.v1 (au j.O cE) ?_;refine o.v1 da ?_;refine o.aa ?_;refine o.join (d:=11) (v:= .bool (decide (¬(x.k=1∨x.k=2)))) 4 (fun al=>?_) ?_
 ·
  refine o.bp (d:=7) rfl (fun g7=>?_) (fun g7=>?_)
  ·
   refine o.ar (Y.an j.O rfl bN rfl b6) ?_;refine o.ar (au j.O cE) ?_;refine o.ar da ?_;refine o.O ?_;exact al _ (congrArg (fun b=>some (Value.bool b)) (by simp[g7])) (ai (ai (ai (ai (bL (congrArg Value.bool (decide_eq_true g7).symm))))))
  ·
   refine o.az 4 ?_;exact al _ (congrArg (fun b=>some (Value.bool b)) (by simp[g7])) (ai (ai (ai (ai (bL (congrArg Value.bool (decide_eq_false g7).symm))))))
 refine o.nil (a2 ?_);refine aW (fun ac=>?_) (fun ac=>?_)
 ·
  refine G.L (fun a3=>?_);refine o.al ?_;refine a3 ?_;refine G.ret (cg (B ?_));exact⟨by rw[gI,if_pos ac],n⟩
 ·
  refine G.skip (a0 (G.t2 (fun a4 a5=>G.L (fun aL=>?_))));refine o.v1 (Y.an j.O rfl bN rfl bV) ?_;refine o.v1 (au (j.O.drop 1) bR) ?_;refine aV p2 (qY x.br w0 _ aA) (fun bU aM aN=>?_);obtain⟨rfl,R⟩:=aN;have k:=k.N R;have j:=j.N R;have n:=n.L R;have bW:=R.size;refine o.v1 da (o.nil (aL ?_));refine aW (fun A=>?_) (fun A=>?_)
  ·
   refine G.L (fun a9=>?_);refine o.al ?_;refine a9 ?_;refine G.ret (a5 (B ?_));exact⟨by rw[gI,if_neg ac,if_pos A],n⟩
  ·
   refine G.skip (a4 (G.t2 (fun bx bz=>G.L (fun bA=>?_))));refine o.v1 (Y.an j.O rfl bN rfl bd) ?_;refine o.v1 (Y.cast (v2:=bs x.cc) (a_ ((j.O.drop 2).take 32) cj bd (by rw[jJ];exact bC _)) (cn (jJ _))) ?_;refine o.v1 (Y.build (v:=bs bq) rfl rfl (by intro w;kernel_rfl)) ?_;refine o.v1 (Y.cast (v2:= .bool (decide (x.cc=bq))) (Y.ka rfl Tryz.eqGuardType26 (fun w=>gR 9998 Tryz.underlying26 Tryz.underlying5 cK ed (by assumption) (by assumption) w) rfl rfl) ((congrArg Value.bool (decide_eq_decide.2 ⟨fun e=>Subtype.ext e,fun e=>congrArg Subtype.val e⟩)))) ?_;refine o.aa ?_;refine o.join (d:=25) (v:= .bool (decide (x.cc=bq∨x.bw=bq))) 5 (fun Z=>?_) ?_
   ·
    refine o.bp (d:=20) rfl (fun K=>?_) (fun K=>?_)
    ·
     refine o.az 5 ?_;exact Z _ (congrArg (fun b=>some (Value.bool b)) (by simp[K])) (ai (ai (ai (ai (ai (bL (congrArg Value.bool (decide_eq_true K).symm)))))))
    ·
     refine o.ar (Y.an j.O rfl bN rfl bd) ?_;refine o.ar (Y.cast (v2:=bs x.bw) (a_ ((j.O.drop 34).take 32) cj bd (by rw[jI];exact bC _)) (cn (jI _))) ?_;refine o.ar (Y.build (v:=bs bq) rfl rfl (by intro w;kernel_rfl)) ?_;refine o.ar (Y.cast (v2:= .bool (decide (x.bw=bq))) (Y.ka rfl Tryz.eqGuardType26 (fun w=>gR 9998 Tryz.underlying26 Tryz.underlying5 cK ed (by assumption) (by assumption) w) rfl rfl) ((congrArg Value.bool (decide_eq_decide.2 ⟨fun e=>Subtype.ext e,fun e=>congrArg Subtype.val e⟩)))) ?_;refine o.dy ?_;exact Z _ (congrArg (fun b=>some (Value.bool b)) (by simp[K])) (ai (ai (ai (ai (ai (bL (congrArg Value.bool (decide_eq_false K).symm)))))))
   refine o.aa ?_;refine o.join (d:=30) (v:= .bool (decide ((x.cc=bq∨x.bw=bq)∨x.dn<0))) 4 (fun aa=>?_) ?_
   ·
    refine o.bp (d:=26) rfl (fun L=>?_) (fun L=>?_)
    ·
     refine o.az 4 ?_;exact aa _ (congrArg (fun b=>some (Value.bool b)) (by simp[L])) (ai (ai (ai (ai (bL (congrArg Value.bool (decide_eq_true L).symm))))))
    ·
     refine o.ar (Y.an j.O rfl bN rfl b6) ?_;refine o.ar (au j.O.js cE) ?_;refine o.ar bH ?_;refine o.dy ?_;exact aa _ (congrArg (fun b=>some (Value.bool b)) (by simp[L])) (ai (ai (ai (ai (bL (congrArg Value.bool (decide_eq_false L).symm))))))
   refine o.aa ?_;refine o.join (d:=38) (v:= .bool (decide (((x.cc=bq∨x.bw=bq)∨x.dn<0)∨x.dn>(x.ba.length:Int)))) 7 (fun ab=>?_) ?_
   ·
    refine o.bp (d:=31) rfl (fun M=>?_) (fun M=>?_)
    ·
     refine o.az 7 ?_;exact ab _ (congrArg (fun b=>some (Value.bool b)) (by simp[M])) (ai (ai (ai (ai (ai (ai (ai (bL (congrArg Value.bool (decide_eq_true M).symm)))))))))
    ·
     refine o.ar (Y.an j.O rfl bN rfl b6) ?_;refine o.ar (au j.O.js cE) ?_;refine o.ar (Y.an j.O rfl bN rfl e4) ?_;refine o.ar (au j.O.gr fU) ?_;refine o.ar (bf k fZ) ?_;refine o.ar eX ?_;refine o.dy ?_;exact ab _ (congrArg (fun b=>some (Value.bool b)) (by simp[M])) (ai (ai (ai (ai (ai (ai (ai (bL (congrArg Value.bool (decide_eq_false M).symm)))))))))
   refine o.aa ?_;refine o.join (d:=43) (v:= .bool (decide ((((x.cc=bq∨x.bw=bq)∨x.dn<0)∨x.dn>(x.ba.length:Int))∨x.md<0))) 4 (fun ae=>?_) ?_
   ·
    refine o.bp (d:=39) rfl (fun aw=>?_) (fun aw=>?_)
    ·
     refine o.az 4 ?_;exact ae _ (congrArg (fun b=>some (Value.bool b)) (by simp[aw])) (ai (ai (ai (ai (bL (congrArg Value.bool (decide_eq_true aw).symm))))))
    ·
     refine o.ar (Y.an j.O rfl bN rfl b6) ?_;refine o.ar (au j.O.lu cE) ?_;refine o.ar bH ?_;refine o.dy ?_;exact ae _ (congrArg (fun b=>some (Value.bool b)) (by simp[aw])) (ai (ai (ai (ai (bL (congrArg Value.bool (decide_eq_false aw).symm))))))
   refine o.aa ?_;refine o.join (d:=50) (v:= .bool (decide (((((x.cc=bq∨x.bw=bq)∨x.dn<0)∨x.dn>(x.ba.length:Int))∨x.md<0)∨x.md>x.dn))) 6 (fun af=>?_) ?_
   ·
    refine o.bp (d:=44) rfl (fun am=>?_) (fun am=>?_)
    ·
     refine o.az 6 ?_;exact af _ (congrArg (fun b=>some (Value.bool b)) (by simp[am])) (ai (ai (ai (ai (ai (ai (bL (congrArg Value.bool (decide_eq_true am).symm))))))))
    ·
     refine o.ar (Y.an j.O rfl bN rfl b6) ?_;refine o.ar (au j.O.lu cE) ?_;refine o.ar (Y.an j.O rfl bN rfl b6) ?_;refine o.ar (au j.O.js cE) ?_;refine o.ar eX ?_;refine o.dy ?_;exact af _ (congrArg (fun b=>some (Value.bool b)) (by simp[am])) (ai (ai (ai (ai (ai (ai (bL (congrArg Value.bool (decide_eq_false am).symm))))))))
   refine o.aa ?_;refine o.join (d:=62) (v:= .bool (decide ((((((x.cc=bq∨x.bw=bq)∨x.dn<0)∨x.dn>(x.ba.length:Int))∨x.md<0)∨x.md>x.dn)∨(x.st=true∧x.dn=(x.ba.length:Int))))) 11 (fun ag=>?_) ?_
   ·
    refine o.bp (d:=51) rfl (fun N=>?_) (fun N=>?_)
    ·
     refine o.az 3 ?_;refine gv ?_;refine gv ?_;refine gv ?_;refine gv ?_;refine gv ?_;refine gv ?_;refine o.az 2 ?_;exact ag _ (congrArg (fun b=>some (Value.bool b)) (by simp[N])) (ai (ai (ai (ai (ai (ai (ai (ai (ai (ai (ai (bL (congrArg Value.bool (decide_eq_true N).symm)))))))))))))
    ·
     refine o.ar (Y.an j.O rfl bN rfl dz) ?_;refine o.ar (au j.O.nX ec) ?_;refine o.bJ ?_;refine o.join (d:=61) (v:= .bool (decide (x.st=true∧x.dn=(x.ba.length:Int)))) 7 (fun ah=>?_) ?_
     ·
      refine o.split (d:=54) rfl (fun ap=>?_) (fun ap=>?_)
      ·
       refine o.ar (Y.an j.O rfl bN rfl b6) ?_;refine o.ar (au j.O.js cE) ?_;refine o.ar (Y.an j.O rfl bN rfl e4) ?_;refine o.ar (au j.O.gr fU) ?_;refine o.ar (bf k fZ) ?_;refine o.ar cb ?_;refine o.ar eS ?_;exact ah _ (congrArg (fun b=>some (Value.bool b)) (by simp[ap])) (ai (ai (ai (ai (ai (ai (ai (bL (congrArg Value.bool ap.symm)))))))))
      ·
       refine o.az 6 ?_;refine o.ar er ?_;exact ah _ (congrArg (fun b=>some (Value.bool b)) (by simp[ap])) (ai (ai (ai (ai (ai (ai (ai (bL (congrArg Value.bool ap.symm)))))))))
     refine o.dy ?_;exact ag _ (congrArg (fun b=>some (Value.bool b)) (by simp[N])) (ai (ai (ai (ai (ai (bL (congrArg Value.bool (decide_eq_false N).symm)))))))
   refine o.nil (bA ?_);refine aW (fun C=>?_) (fun C=>?_)
   ·
    refine G.L (fun aO=>?_);refine o.al ?_;refine aO ?_;refine G.ret (bz (B ?_));exact⟨by rw[gI,if_neg ac,if_neg A,if_pos (z7 C)],n⟩
   ·
    refine G.skip (bx (G.t2 (fun aP aQ=>G.L (fun aS=>?_))));refine o.v1 (Y.an j.O rfl bN rfl e4) ?_;refine o.v1 (au j.O.gr fU) ?_;refine o.v1 (bf k fZ) ?_;refine o.v1 eX (o.nil (aS ?_));refine aW (fun bB=>?_) (fun bB=>?_)
    ·
     refine G.L (fun aT=>?_);refine o.al ?_;refine aT ?_;refine G.ret (aQ (B ?_));exact⟨by rw[gI,if_neg ac,if_neg A,if_neg (pT C),if_pos (by omega)],n⟩
    ·
     refine G.skip (aP (G.t2 (fun aX ar=>G.L (fun aZ=>?_))));refine o.al ?_;refine aZ (G.aD (fun _ a1 ay=>?_))
     refine G.bc (fun(i:(Nat))=>[(1,.pointer (some ⟨J.size,0,none⟩)),(3,.int .i64 (i:Int))])
      (fun(i:(Nat)) (H:Heap)=>(i≤x.ba.length)∧(gT (x.ba.take i)=0)∧aq aM H)
      (fun(i:(Nat))=>x.ba.length-i) 0 ⟨rfl,rfl,trivial⟩ ?_ ?_
     ·
      exact⟨(by omega),rfl,W.refl _ _⟩
     intro i bX bT bY a6 U;obtain⟨b1,S,F⟩:=bT;have k:=k.N F;have j:=j.N F;have n:=n.L F;have bZ:=F.size;refine G.t2 (fun a7 a8=>G.L (fun ba=>?_));refine o.aa ?_;refine o.v1 (Y.an j.O rfl bN rfl e4) ?_;refine o.v1 (au j.O.gr fU) ?_;refine o.v1 (bf k fZ) ?_;refine o.v1 bH (o.nil (ba ?_));refine aW (fun be=>?_) (fun be=>?_)
     ·
      have aJ:i<x.ba.length:=by omega
      obtain⟨y,P⟩:∃q,q=x.ba[i]:=⟨_,rfl⟩;have b0:=y.i.2;have X:=y0 aJ S;rw[←P]at X;refine G.skip (a7 (G.t2 (fun bb az=>G.aD (fun bc _ aB=>G.t2 (fun bg bk=>G.L (fun bl=>?_))))));refine o.v1 (Y.an j.O rfl bN rfl e4) ?_;refine o.v1 (au j.O.gr fU) ?_;refine o.aa ?_;refine o.b1 (Y.bU k (i) rfl fZ hQ rfl rfl) fun b5 aC=>?_;refine o.v1 (Y.an aC.O rfl jt rfl b6) ?_;refine o.v1 (Y.cast (v2:= .int .i64 y.d) (au (aC.O.drop 0) cE) (by rw[P])) ?_;refine o.v1 bH ?_;refine o.aa ?_;refine o.join (d:=89) (v:= .bool (decide (¬(1≤y.d∧y.d≤3)))) 8 (fun an=>?_) ?_
      ·
       refine o.bp (d:=81) rfl (fun O=>?_) (fun O=>?_)
       ·
        refine o.az 8 ?_;exact an _ (congrArg (fun b=>some (Value.bool b)) (by simp[O])) (ai (ai (ai (ai (ai (ai (ai (ai (bL (congrArg Value.bool (decide_eq_true O).symm))))))))))
       ·
        refine o.ar (Y.an j.O rfl bN rfl e4) ?_;refine o.ar (au j.O.gr fU) ?_;refine o.bJ ?_;refine o.e (g:=fun ad=> .pointer (some ad)) (Y.bU k (i) rfl fZ hQ rfl rfl) bo rfl rfl (fun bJ aH=>?_);refine o.ar (Y.an aH.O rfl jt rfl b6) ?_;refine o.ar (Y.cast (v2:= .int .i64 y.d) (au (aH.O.drop 0) cE) (by rw[P])) ?_;refine o.ar eX ?_;refine o.dy ?_;exact an _ (congrArg (fun b=>some (Value.bool b)) (by simp[O])) (ai (ai (ai (ai (ai (ai (ai (ai (bL (congrArg Value.bool (decide_eq_false O).symm))))))))))
      refine o.nil (bl ?_);refine aW (fun E=>?_) (fun E=>?_)
      ·
       refine G.L (fun bm=>?_);refine o.al ?_;refine bm ?_;refine G.ret (bk (aB (az (U (ay (ar (B ?_)))))));exact⟨by rw[gI,if_neg ac,if_neg A,if_neg (pT C),if_neg (by omega),X (by unfold hj;rw[if_pos E];decide)];unfold hj;rw[if_pos E],n⟩
      ·
       refine G.skip (bg (G.L (fun bn=>?_)));refine o.v1 (Y.an j.O rfl bN rfl e4) ?_;refine o.v1 (au j.O.gr fU) ?_;refine o.aa ?_;refine o.b1 (Y.bU k (i) rfl fZ hQ rfl rfl) fun bK aI=>?_;refine o.v1 (Y.an aI.O rfl jt rfl bd) ?_;refine o.v1 (Y.cast (v2:=bs y.i) (a_ ((aI.O.drop 1).take 32) cj bd (by rw[kD];exact bC _)) ((by rw[P];exact cn (kD _)))) ?_;refine o.v1 (Y.build (v:=bs bq) rfl rfl (by intro w;kernel_rfl)) ?_;refine o.v1 (Y.cast (v2:= .bool (decide (y.i=bq))) (Y.ka rfl Tryz.eqGuardType26 (fun w=>gR 9998 Tryz.underlying26 Tryz.underlying5 cK ed (by assumption) (by assumption) w) rfl rfl) ((congrArg Value.bool (decide_eq_decide.2 ⟨fun e=>Subtype.ext e,fun e=>congrArg Subtype.val e⟩)))) (o.nil (bn ?_));refine aW (fun Q=>?_) (fun Q=>?_)
       ·
        refine G.L (fun bp=>?_);refine o.al ?_;refine bp ?_;refine G.ret (aB (az (U (ay (ar (B ?_))))));exact⟨by rw[gI,if_neg ac,if_neg A,if_neg (pT C),if_neg (by omega),X (by unfold hj;rw[if_neg E,if_pos Q];decide)];unfold hj;rw[if_neg E,if_pos Q],n⟩
       ·
        refine G.skip (bc (bb (G.region ?_)));refine o.aa ?_;refine o.v1 bD ?_;refine o.al ?_;refine aR.sub (a6 (i+1) _ ?_ ?_) ⟨rfl,(aF (by omega)),trivial⟩
        ·exact⟨(by omega),(by rw[tK aJ,if_neg (by rw[S];simp),←P];unfold hj;rw[if_neg E,if_neg Q]),F⟩
        ·first|omega|(simp only;omega)|(simp;omega)
     ·
      refine G.exit (a8 (U (a1 ?_)));refine aX (G.L (fun bt=>?_));refine o.al ?_;refine bt ?_;refine G.ret (B ?_);exact⟨by rw[gI,if_neg ac,if_neg A,if_neg (pT C),if_neg (by omega)];rw[List.take_of_length_le (by omega)]at S;rw[S],n⟩
end pG

namespace oc
open E Go.RowKit eY fm fw fA ez eZ e0 fI fJ fQ gb eL gL gM h8 dm
theorem G6(a:fL)(w:World):(part 3 (dF a).toArray 0).run Tryz.prog w= .ok (.int .i64 a.d) w:=by simp[part,cE,dF]
theorem yV(a:fL)(w:World):(part 26 (dF a).toArray 1).run Tryz.prog w= .ok (bs a.i) w:=by
 have e:List.take 32 (dF a).tail=bX a.i:=by rw[show(dF a).tail=bX a.i from rfl,List.take_of_length_le (by rw[bC];exact Nat.le_refl _)]
 simp[part,cj,bd,e,bs]
theorem G7:(Tryz.prog.fieldsOf 129).toList.map (fun f=>(f.name,f.type,f.offset))=[("Do",3,0),("Id",26,1)]:=by kernel_rfl
theorem CI(d0:Nat){fs:List Field}(i:fs.map (fun f=>(f.name,f.type,f.offset))=[("Do",3,0),("Id",26,1)])(a b:fL)(w:World):(Op.eqFields (d0+2) (dF a).toArray (dF b).toArray fs).run Tryz.prog w= .ok (decide (a.d=b.d∧a.i=b.i)) w:=by
 have k:=run_equalIn_int (P:=Tryz.prog) w (d0+1) 3 .i64 .i64 a.d b.d Tryz.underlying3;have aN:=gR (P:=Tryz.prog) d0 Tryz.underlying26 Tryz.underlying5 cK ed a.i.2 b.i.2 w
 cases fs with
 |nil=>simp at i
 |cons f0 fs=>
 cases fs with
 |nil=>simp at i
 |cons f1 fs=>
 cases fs with
 |cons _ _=>simp at i
 |nil=>
  simp only[List.map_cons,List.map_nil,List.cons.injEq,Prod.mk.injEq,and_true]at i;obtain⟨⟨dw,t0,o⟩,bG,t1,aX⟩:=i;have q:f0.name≠ "_" :=by rw[dw];decide
  have b0:f1.name≠ "_" :=by rw[bG];decide
  unfold Op.eqFields;rw[if_pos q,t0,o];unfold Op.eqFields;rw[if_pos b0,t1,aX];unfold Op.eqFields;simp only[Sem.run_bind,G6,yV,Result.andThen_ok,k];by_cases d:a.d=b.d
  ·have V:(a.d==b.d)=true:=by simpa using d
   rw[V];simp only[Bool.not_true,Bool.false_eq_true,if_false,Sem.run_bind,yV,Result.andThen_ok,rk,aN];by_cases j:a.i=b.i
   ·simp[d,j]
   ·have n:¬a.i.1=b.i.1:=fun e=>j (Subtype.ext e)
    simp[d,j,n]
  ·have V:(a.d==b.d)=false:=by simpa using d
   rw[V];simp[d]
theorem G_:Tryz.prog.underlying 129=some (.struct (Tryz.prog.fieldsOf 129)):=by kernel_rfl
theorem G9:Tryz.prog.stoodInHeld 129=false:=by kernel_rfl
theorem yW(a b:fL):(a.d=b.d∧a.i=b.i)↔a=b:=by cases a;cases b;simp
instance instTTd:DecidableEq fL:=fun a b=>decidable_of_iff _ (yW a b)
theorem CN(a b:fL)(w:World):(Op.equalIn 10000 129 (.agg (dF a).toArray) (.agg (dF b).toArray)).run Tryz.prog w= .ok (decide (a=b)) w:=by
 have h:=run_equalIn_struct w 9999 129 (dF a).toArray (dF b).toArray G_ G9;have V:=CI 9997 G7 a b w;rw[decide_eq_decide.2 (yW a b)]at V;exact h.trans V
end oc

namespace pH
open E Go.RowKit eY fm fw fA ez eZ e0 fI fJ fQ gb eL gL gM h8 oc dm
theorem _root_.Go.Proofs.YtfjmpninmdjcaaaGreatDoor.E.Y.Aq{P:Program}{w0:World}{n:Nat}{l:bO}{H:Heap}{I:Oper}{x y:Operand}{t u:TypeId}{a b:Bool}(i:I.op= .binOp .neq t x y u)(j:P.underlying t=some .bool)(k:aH l x=some (.bool a))(hy:aH l y=some (.bool b)):Y P w0 n l H I (.bool (decide (a≠b))):=by
 intro ac w d o;have h:=run_equalIn_bool' w 9999 t a b j;have V:(a==b)=decide (a=b):=by cases a<;>cases b<;>rfl
 rw[V]at h;simp[execOp,i,d.eval k,d.eval hy,binOp,eqGuard,Op.equal,Op.maxDepth,h]
def m5(a b:c5):Prop:=a.k=b.k∧a.br=b.br∧a.cc=b.cc∧a.bw=b.bw∧a.dn=b.dn∧a.md=b.md∧a.st=b.st∧a.ba=b.ba
instance instSqS (a b:c5):Decidable (m5 a b):=by unfold m5;infer_instance
theorem o4{α:Type}{a b:List α}{i:Nat}(h:a.take i=b.take i)(d:i<a.length)(aA:i<b.length)(he:a[i]=b[i]):a.take (i+1)=b.take (i+1):=by
 rw[List.take_succ_eq_append_getElem d,List.take_succ_eq_append_getElem aA,h,he]
theorem GJ{a b:c5}(h:((((((a.k≠b.k∨a.br≠b.br)∨a.cc≠b.cc)∨a.bw≠b.bw)∨a.dn≠b.dn)∨a.md≠b.md)∨a.st≠b.st)∨(a.ba.length:Int)≠b.ba.length):¬m5 a b:=fun⟨d,V,i,j,k,n,o,q⟩=>by
 rcases h with((((((h|h)|h)|h)|h)|h)|h)|h
 ·exact h d
 ·exact h V
 ·exact h i
 ·exact h j
 ·exact h k
 ·exact h n
 ·exact h o
 ·exact h (by rw[q])
theorem GK{a b:c5}(h:¬(((((((a.k≠b.k∨a.br≠b.br)∨a.cc≠b.cc)∨a.bw≠b.bw)∨a.dn≠b.dn)∨a.md≠b.md)∨a.st≠b.st)∨(a.ba.length:Int)≠b.ba.length))(q:a.ba=b.ba):m5 a b:=by
 simp only[not_or,Decidable.not_not]at h;obtain⟨⟨⟨⟨⟨⟨⟨d,V⟩,i⟩,j⟩,k⟩,n⟩,o⟩,r⟩:=h;exact⟨d,V,i,j,k,n,o,q⟩
theorem yC{a b:c5}(h:¬(((((((a.k≠b.k∨a.br≠b.br)∨a.cc≠b.cc)∨a.bw≠b.bw)∨a.dn≠b.dn)∨a.md≠b.md)∨a.st≠b.st)∨(a.ba.length:Int)≠b.ba.length)):a.ba.length=b.ba.length:=by
 simp only[not_or,Decidable.not_not]at h;omega
set_option maxHeartbeats 1600000 in
theorem Ct(a b:c5)(w0:World)(J:Heap)
 (k:bM J dF 33 a.cf.v a.ba) (aA:bM J dF 33 b.cf.v b.ba):
 aG Tryz.prog w0 45 #[gu a,gu b] J (fun r x=>r= .bool (decide (m5 a b))∧aq J x):=by
 refine aG.aN [gu a,gu b] Tryz.func45 ?_;intro bc S;have n:aq J J:=W.refl _ _;have k:=k.b2;have aA:=aA.b2;have bu:=k.len;have bw:=aA.len;have ar:=a.cc.2;have bx:=b.cc.2;have bz:=a.bw.2;have bA:=b.bw.2;refine G.L (fun ah=>?_);refine o.aS cY ?_;rintro v2 x ⟨rfl,j,aw,bn,al⟩;have bg:x.size=J.size+1:=by rw[al];simp
 have k:=k.N aw;have aA:=aA.N aw;have n:=n.L aw;have bo:=aw.size;have j:Var 29 x J.size (eC a):=j;refine o.aS cY ?_;rintro v3 O ⟨rfl,bE,B,bp,an⟩;have bk:O.size=x.size+1:=by rw[an];simp
 have k:=k.N B;have aA:=aA.N B;have j:=j.N B;have n:=n.L B;have bq:=B.size;have bE:Var 29 O x.size (eC b):=bE;refine o.al ?_;refine ah (G.t2 (fun ay az=>G.L (fun aB=>?_)));refine o.v1 (Y.an j.O rfl bN rfl b6) ?_;refine o.v1 (au j.O cE) ?_;refine o.v1 (Y.an bE.O rfl bN rfl b6) ?_;refine o.v1 (au bE.O cE) ?_;refine o.v1 da ?_;refine o.aa ?_;refine o.join (d:=17) (v:= .bool (decide (a.k≠b.k∨a.br≠b.br))) 6 (fun T=>?_) ?_
 ·
  refine o.bp (d:=11) rfl (fun ac=>?_) (fun ac=>?_)
  ·
   refine o.az 6 ?_;exact T _ (congrArg (fun b=>some (Value.bool b)) (by simp[ac])) (ai (ai (ai (ai (ai (ai (bL (congrArg Value.bool (decide_eq_true ac).symm))))))))
  ·
   refine o.ar (Y.an j.O rfl bN rfl bV) ?_;refine o.ar (au (j.O.drop 1) bR) ?_;refine o.ar (Y.an bE.O rfl bN rfl bV) ?_;refine o.ar (au (bE.O.drop 1) bR) ?_;refine o.ar (Y.iZ rfl rfl rfl) ?_;refine o.dy ?_;exact T _ (congrArg (fun b=>some (Value.bool b)) (by simp[ac])) (ai (ai (ai (ai (ai (ai (bL (congrArg Value.bool (decide_eq_false ac).symm))))))))
 refine o.aa ?_;refine o.join (d:=24) (v:= .bool (decide ((a.k≠b.k∨a.br≠b.br)∨a.cc≠b.cc))) 6 (fun U=>?_) ?_
 ·
  refine o.bp (d:=18) rfl (fun C=>?_) (fun C=>?_)
  ·
   refine o.az 6 ?_;exact U _ (congrArg (fun b=>some (Value.bool b)) (by simp[C])) (ai (ai (ai (ai (ai (ai (bL (congrArg Value.bool (decide_eq_true C).symm))))))))
  ·
   refine o.ar (Y.an j.O rfl bN rfl bd) ?_;refine o.ar (Y.cast (v2:=bs a.cc) (a_ ((j.O.drop 2).take 32) cj bd (by rw[jJ];exact bC _)) (cn (jJ _))) ?_;refine o.ar (Y.an bE.O rfl bN rfl bd) ?_;refine o.ar (Y.cast (v2:=bs b.cc) (a_ ((bE.O.drop 2).take 32) cj bd (by rw[jJ];exact bC _)) (cn (jJ _))) ?_;refine o.ar (Y.cast (v2:= .bool (decide (a.cc≠b.cc))) (Y.kt rfl Tryz.eqGuardType26 (fun w=>gR 9998 Tryz.underlying26 Tryz.underlying5 cK ed (by assumption) (by assumption) w) rfl rfl) ((congrArg Value.bool (decide_eq_decide.2 ⟨fun h e=>h (congrArg Subtype.val e),fun h e=>h (Subtype.ext e)⟩)))) ?_;refine o.dy ?_;exact U _ (congrArg (fun b=>some (Value.bool b)) (by simp[C])) (ai (ai (ai (ai (ai (ai (bL (congrArg Value.bool (decide_eq_false C).symm))))))))
 refine o.aa ?_;refine o.join (d:=31) (v:= .bool (decide (((a.k≠b.k∨a.br≠b.br)∨a.cc≠b.cc)∨a.bw≠b.bw))) 6 (fun X=>?_) ?_
 ·
  refine o.bp (d:=25) rfl (fun E=>?_) (fun E=>?_)
  ·
   refine o.az 6 ?_;exact X _ (congrArg (fun b=>some (Value.bool b)) (by simp[E])) (ai (ai (ai (ai (ai (ai (bL (congrArg Value.bool (decide_eq_true E).symm))))))))
  ·
   refine o.ar (Y.an j.O rfl bN rfl bd) ?_;refine o.ar (Y.cast (v2:=bs a.bw) (a_ ((j.O.drop 34).take 32) cj bd (by rw[jI];exact bC _)) (cn (jI _))) ?_;refine o.ar (Y.an bE.O rfl bN rfl bd) ?_;refine o.ar (Y.cast (v2:=bs b.bw) (a_ ((bE.O.drop 34).take 32) cj bd (by rw[jI];exact bC _)) (cn (jI _))) ?_;refine o.ar (Y.cast (v2:= .bool (decide (a.bw≠b.bw))) (Y.kt rfl Tryz.eqGuardType26 (fun w=>gR 9998 Tryz.underlying26 Tryz.underlying5 cK ed (by assumption) (by assumption) w) rfl rfl) ((congrArg Value.bool (decide_eq_decide.2 ⟨fun h e=>h (congrArg Subtype.val e),fun h e=>h (Subtype.ext e)⟩)))) ?_;refine o.dy ?_;exact X _ (congrArg (fun b=>some (Value.bool b)) (by simp[E])) (ai (ai (ai (ai (ai (ai (bL (congrArg Value.bool (decide_eq_false E).symm))))))))
 refine o.aa ?_;refine o.join (d:=38) (v:= .bool (decide ((((a.k≠b.k∨a.br≠b.br)∨a.cc≠b.cc)∨a.bw≠b.bw)∨a.dn≠b.dn))) 6 (fun Z=>?_) ?_
 ·
  refine o.bp (d:=32) rfl (fun F=>?_) (fun F=>?_)
  ·
   refine o.az 6 ?_;exact Z _ (congrArg (fun b=>some (Value.bool b)) (by simp[F])) (ai (ai (ai (ai (ai (ai (bL (congrArg Value.bool (decide_eq_true F).symm))))))))
  ·
   refine o.ar (Y.an j.O rfl bN rfl b6) ?_;refine o.ar (au j.O.js cE) ?_;refine o.ar (Y.an bE.O rfl bN rfl b6) ?_;refine o.ar (au bE.O.js cE) ?_;refine o.ar da ?_;refine o.dy ?_;exact Z _ (congrArg (fun b=>some (Value.bool b)) (by simp[F])) (ai (ai (ai (ai (ai (ai (bL (congrArg Value.bool (decide_eq_false F).symm))))))))
 refine o.aa ?_;refine o.join (d:=45) (v:= .bool (decide (((((a.k≠b.k∨a.br≠b.br)∨a.cc≠b.cc)∨a.bw≠b.bw)∨a.dn≠b.dn)∨a.md≠b.md))) 6 (fun aa=>?_) ?_
 ·
  refine o.bp (d:=39) rfl (fun K=>?_) (fun K=>?_)
  ·
   refine o.az 6 ?_;exact aa _ (congrArg (fun b=>some (Value.bool b)) (by simp[K])) (ai (ai (ai (ai (ai (ai (bL (congrArg Value.bool (decide_eq_true K).symm))))))))
  ·
   refine o.ar (Y.an j.O rfl bN rfl b6) ?_;refine o.ar (au j.O.lu cE) ?_;refine o.ar (Y.an bE.O rfl bN rfl b6) ?_;refine o.ar (au bE.O.lu cE) ?_;refine o.ar da ?_;refine o.dy ?_;exact aa _ (congrArg (fun b=>some (Value.bool b)) (by simp[K])) (ai (ai (ai (ai (ai (ai (bL (congrArg Value.bool (decide_eq_false K).symm))))))))
 refine o.aa ?_;refine o.join (d:=52) (v:= .bool (decide ((((((a.k≠b.k∨a.br≠b.br)∨a.cc≠b.cc)∨a.bw≠b.bw)∨a.dn≠b.dn)∨a.md≠b.md)∨a.st≠b.st))) 6 (fun ab=>?_) ?_
 ·
  refine o.bp (d:=46) rfl (fun L=>?_) (fun L=>?_)
  ·
   refine o.az 6 ?_;exact ab _ (congrArg (fun b=>some (Value.bool b)) (by simp[L])) (ai (ai (ai (ai (ai (ai (bL (congrArg Value.bool (decide_eq_true L).symm))))))))
  ·
   refine o.ar (Y.an j.O rfl bN rfl dz) ?_;refine o.ar (au j.O.nX ec) ?_;refine o.ar (Y.an bE.O rfl bN rfl dz) ?_;refine o.ar (au bE.O.nX ec) ?_;refine o.ar (Y.Aq rfl Tryz.underlying4 rfl rfl) ?_;refine o.dy ?_;exact ab _ (congrArg (fun b=>some (Value.bool b)) (by simp[L])) (ai (ai (ai (ai (ai (ai (bL (congrArg Value.bool (decide_eq_false L).symm))))))))
 refine o.aa ?_;refine o.join (d:=61) (v:= .bool (decide (((((((a.k≠b.k∨a.br≠b.br)∨a.cc≠b.cc)∨a.bw≠b.bw)∨a.dn≠b.dn)∨a.md≠b.md)∨a.st≠b.st)∨(a.ba.length:Int)≠b.ba.length))) 8 (fun ae=>?_) ?_
 ·
  refine o.bp (d:=53) rfl (fun M=>?_) (fun M=>?_)
  ·
   refine o.az 8 ?_;exact ae _ (congrArg (fun b=>some (Value.bool b)) (by simp[M])) (ai (ai (ai (ai (ai (ai (ai (ai (bL (congrArg Value.bool (decide_eq_true M).symm))))))))))
  ·
   refine o.ar (Y.an j.O rfl bN rfl e4) ?_;refine o.ar (au j.O.gr fU) ?_;refine o.ar (bf k fZ) ?_;refine o.ar (Y.an bE.O rfl bN rfl e4) ?_;refine o.ar (au bE.O.gr fU) ?_;refine o.ar (bf aA fZ) ?_;refine o.ar da ?_;refine o.dy ?_;exact ae _ (congrArg (fun b=>some (Value.bool b)) (by simp[M])) (ai (ai (ai (ai (ai (ai (ai (ai (bL (congrArg Value.bool (decide_eq_false M).symm))))))))))
 refine o.nil (aB ?_);refine aW (fun N=>?_) (fun N=>?_)
 ·
  refine G.L (fun aC=>?_);refine o.al ?_;refine aC ?_;refine G.ret (az (S ?_));exact⟨by rw[decide_eq_false (GJ N)],n⟩
 ·
  refine G.skip (ay (G.t2 (fun aD aH=>G.L (fun aI=>?_))));refine o.al ?_;refine aI (G.aD (fun _ aJ aK=>?_))
  refine G.bc (fun(i:(Nat))=>[(2,.pointer (some ⟨J.size,0,none⟩)),(3,.pointer (some ⟨x.size,0,none⟩)),(5,.int .i64 (i:Int))])
   (fun(i:(Nat)) (H:Heap)=>(i≤a.ba.length)∧(a.ba.take i=b.ba.take i)∧aq O H)
   (fun(i:(Nat))=>a.ba.length-i) 0 ⟨rfl,rfl,rfl,trivial⟩ ?_ ?_
  ·
   exact⟨(by omega),rfl,W.refl _ _⟩
  intro i a0 aL bb aM af;obtain⟨bt,ag,A⟩:=aL;have k:=k.N A;have aA:=aA.N A;have j:=j.N A;have bE:=bE.N A;have n:=n.L A;have cg:=A.size;refine G.t2 (fun aN aO=>G.L (fun am=>?_));refine o.aa ?_;refine o.v1 (Y.an j.O rfl bN rfl e4) ?_;refine o.v1 (au j.O.gr fU) ?_;refine o.v1 (bf k fZ) ?_;refine o.v1 bH (o.nil (am ?_));refine aW (fun aP=>?_) (fun aP=>?_)
  ·
   have hlen:=yC N;have a8:i<a.ba.length:=by omega
   have ba:i<b.ba.length:=by omega
   obtain⟨y,Q⟩:∃q,q=a.ba[i]:=⟨_,rfl⟩;obtain⟨z,R⟩:∃q,q=b.ba[i]:=⟨_,rfl⟩;refine G.skip (aN (G.t2 (fun aQ ap=>G.aD (fun aS _ aT=>G.t1 (fun aV=>?_)))));refine ik ?_;refine o.v1 (Y.an j.O rfl bN rfl e4) ?_;refine o.v1 (au j.O.gr fU) ?_;refine o.aa ?_;refine o.b1 (Y.bU k (i) rfl fZ hQ rfl rfl) fun bl aX=>?_;refine o.v1 (Y.cast (v2:= .agg (dF y).toArray) (a_ aX.O oo hQ (ix _)) (by rw[Q])) ?_;refine o.v1 (Y.an bE.O rfl bN rfl e4) ?_;refine o.v1 (au bE.O.gr fU) ?_;refine o.aa ?_;refine o.b1 (Y.bU aA (i) rfl fZ hQ rfl rfl) fun bm aZ=>?_;refine o.v1 (Y.cast (v2:= .agg (dF z).toArray) (a_ aZ.O oo hQ (ix _)) (by rw[R])) ?_;refine o.v1 (Y.kt rfl Tryz.eqGuardType129 (fun w=>CN y z w) rfl rfl) (o.nil (aV ?_));refine aW (fun P=>?_) (fun P=>?_)
   ·
    refine G.L (fun a1=>?_);refine o.al ?_;refine a1 ?_;refine G.ret (aT (ap (af (aK (aH (S ?_))))));exact⟨by rw[decide_eq_false (fun h=>P (by rw[Q,R];have a7:=h.2.2.2.2.2.2.2;simp only[a7]))],n⟩
   ·
    refine G.skip (aS (aQ (G.region ?_)));refine o.aa ?_;refine o.v1 bD ?_;refine o.al ?_;refine aR.sub (aM (i+1) _ ?_ ?_) ⟨rfl,rfl,(aF (by omega)),trivial⟩
    ·exact⟨(by omega),o4 ag a8 ba (by rw[←Q,←R];exact Decidable.not_not.1 P),A⟩
    ·first|omega|(simp only;omega)|(simp;omega)
  ·
   refine G.exit (aO (af (aJ ?_)));refine aD (G.L (fun a6=>?_));refine o.al ?_;refine a6 ?_;refine G.ret (S ?_);exact⟨by rw[decide_eq_true (GK N (by have hlen:=yC N;rwa[List.take_of_length_le (by omega),List.take_of_length_le (by omega)]at ag))],n⟩
end pH

namespace rA
open E Go.RowKit eY fm fw fA ez eZ e0 fI fJ fQ gb eL gL gM h8 oc dm
theorem vQ(d:Nat)(a b:List UInt8)(w:World):(Op.equalIn (d+1) 9 (aK a) (aK b)).run Tryz.prog w= .ok (decide (a=b)) w:=by
 have h:=run_equalIn_string (P:=Tryz.prog) w d 9 (ByteArray.mk a.toArray) (ByteArray.mk b.toArray) Tryz.underlying9;have V:(a==b)=decide (a=b):=by by_cases h:a=b<;>simp[h]
 exact h.trans (by simp[ByteArray.toList_eq,V])
theorem FU(a:cx)(w:World):(part 9 (dE a).toArray 0).run Tryz.prog w= .ok (aK a.n) w:=by simp[part,bR,dE]
theorem x8(a:cx)(w:World):(part 26 (dE a).toArray 1).run Tryz.prog w= .ok (bs a.i) w:=by
 have e:List.take 32 (dE a).tail=bX a.i:=by rw[show(dE a).tail=bX a.i from rfl,List.take_of_length_le (by rw[bC];exact Nat.le_refl _)]
 simp[part,cj,bd,e,bs]
theorem FV:(Tryz.prog.fieldsOf 71).toList.map (fun f=>(f.name,f.type,f.offset))=[("Name",9,0),("Id",26,1)]:=by kernel_rfl
theorem CL(d0:Nat){fs:List Field}(i:fs.map (fun f=>(f.name,f.type,f.offset))=[("Name",9,0),("Id",26,1)])(a b:cx)(w:World):(Op.eqFields (d0+2) (dE a).toArray (dE b).toArray fs).run Tryz.prog w= .ok (decide (a.n=b.n∧a.i=b.i)) w:=by
 have k:=vQ (d0+1) a.n b.n w;have aN:=gR (P:=Tryz.prog) d0 Tryz.underlying26 Tryz.underlying5 cK ed a.i.2 b.i.2 w
 cases fs with
 |nil=>simp at i
 |cons f0 fs=>
 cases fs with
 |nil=>simp at i
 |cons f1 fs=>
 cases fs with
 |cons _ _=>simp at i
 |nil=>
  simp only[List.map_cons,List.map_nil,List.cons.injEq,Prod.mk.injEq,and_true]at i;obtain⟨⟨dw,t0,o⟩,bG,t1,aX⟩:=i;have q:f0.name≠ "_" :=by rw[dw];decide
  have b0:f1.name≠ "_" :=by rw[bG];decide
  unfold Op.eqFields;rw[if_pos q,t0,o];unfold Op.eqFields;rw[if_pos b0,t1,aX];unfold Op.eqFields;simp only[Sem.run_bind,FU,x8,Result.andThen_ok,k];by_cases d:a.n=b.n
  ·rw[decide_eq_true d]
   simp only[Bool.not_true,Bool.false_eq_true,if_false,Sem.run_bind,x8,Result.andThen_ok,rk,aN];by_cases j:a.i=b.i
   ·simp[d,j]
   ·have n:¬a.i.1=b.i.1:=fun e=>j (Subtype.ext e)
    simp[d,j,n]
  ·rw[decide_eq_false d]
   simp[d]
theorem FX:Tryz.prog.underlying 71=some (.struct (Tryz.prog.fieldsOf 71)):=by kernel_rfl
theorem FW:Tryz.prog.stoodInHeld 71=false:=by kernel_rfl
theorem x9(a b:cx):(a.n=b.n∧a.i=b.i)↔a=b:=by cases a;cases b;simp
instance instTRf:DecidableEq cx:=fun a b=>decidable_of_iff _ (x9 a b)
theorem CM(a b:cx)(w:World):(Op.equalIn 10000 71 (.agg (dE a).toArray) (.agg (dE b).toArray)).run Tryz.prog w= .ok (decide (a=b)) w:=by
 have h:=run_equalIn_struct w 9999 71 (dE a).toArray (dE b).toArray FX FW;have V:=CL 9997 FV a b w;rw[decide_eq_decide.2 (x9 a b)]at V;exact h.trans V
end rA

namespace uc
open E Go.RowKit eY fm fw fA ez eZ e0 fI fJ fQ gb eL gL gM h8 oc rA dm
theorem DS(a:c4)(w:World):(part 26 (eB a).toArray 0).run Tryz.prog w= .ok (bs a.I) w:=by
 have e:=CO a;rw[List.drop_zero]at e;simp[part,cj,bd,e,bs]
theorem wX(a:c4)(w:World):(part 26 (eB a).toArray 32).run Tryz.prog w= .ok (bs a.w) w:=by
 have e:=CP a;simp[part,cj,bd,e,bs]
theorem sC(a:c4)(w:World):(part 9 (eB a).toArray 64).run Tryz.prog w= .ok (aK a.y) w:=by
 have e:=vW a
 have d:(eB a)[64]?=some (aK a.y):=by
  have:=congrArg List.head? e;rw[List.head?_drop]at this;exact this
 simp[part,bR,d]
theorem DV:(Tryz.prog.fieldsOf 64).toList.map (fun f=>(f.name,f.type,f.offset))=[("Old",26,0),("New",26,32),("Why",9,64)]:=by kernel_rfl
theorem CJ(d0:Nat){fs:List Field}(i:fs.map (fun f=>(f.name,f.type,f.offset))=[("Old",26,0),("New",26,32),("Why",9,64)])(a b:c4)(w:World):(Op.eqFields (d0+2) (eB a).toArray (eB b).toArray fs).run Tryz.prog w= .ok (decide (a.I=b.I∧a.w=b.w∧a.y=b.y)) w:=by
 have n:=gR (P:=Tryz.prog) d0 Tryz.underlying26 Tryz.underlying5 cK ed a.I.2 b.I.2 w;have aN:=gR (P:=Tryz.prog) d0 Tryz.underlying26 Tryz.underlying5 cK ed a.w.2 b.w.2 w;have o:=vQ (d0+1) a.y b.y w
 cases fs with
 |nil=>simp at i
 |cons f0 fs=>
 cases fs with
 |nil=>simp at i
 |cons f1 fs=>
 cases fs with
 |nil=>simp at i
 |cons f2 fs=>
 cases fs with
 |cons _ _=>simp at i
 |nil=>
  simp only[List.map_cons,List.map_nil,List.cons.injEq,Prod.mk.injEq,and_true]at i;obtain⟨⟨dw,t0,A⟩,⟨bG,t1,aX⟩,x,t2,B⟩:=i;have C:f0.name≠ "_" :=by rw[dw];decide
  have b0:f1.name≠ "_" :=by rw[bG];decide
  have E:f2.name≠ "_" :=by rw[x];decide
  unfold Op.eqFields;rw[if_pos C,t0,A];unfold Op.eqFields;rw[if_pos b0,t1,aX];unfold Op.eqFields;rw[if_pos E,t2,B];unfold Op.eqFields;simp only[Sem.run_bind,DS,wX,sC,Result.andThen_ok,rk,n];by_cases d:a.I=b.I
  ·have q:a.I.1=b.I.1:=congrArg Subtype.val d
   rw[decide_eq_true q];simp only[Bool.not_true,Bool.false_eq_true,if_false,Sem.run_bind,wX,sC,Result.andThen_ok,rk,aN];by_cases j:a.w=b.w
   ·have r:a.w.1=b.w.1:=congrArg Subtype.val j
    rw[decide_eq_true r];simp only[Bool.not_true,Bool.false_eq_true,if_false,Sem.run_bind,sC,Result.andThen_ok,o];by_cases V:a.y=b.y
    ·simp[d,j,V]
    ·simp[d,j,V]
   ·have k:¬a.w.1=b.w.1:=fun e=>j (Subtype.ext e)
    rw[decide_eq_false k];simp[d,j]
  ·have k:¬a.I.1=b.I.1:=fun e=>d (Subtype.ext e)
   rw[decide_eq_false k];simp[d]
theorem DY:Tryz.prog.underlying 64=some (.struct (Tryz.prog.fieldsOf 64)):=by kernel_rfl
theorem DX:Tryz.prog.stoodInHeld 64=false:=by kernel_rfl
theorem wY(a b:c4):(a.I=b.I∧a.w=b.w∧a.y=b.y)↔a=b:=by cases a;cases b;simp
instance instTLn:DecidableEq c4:=fun a b=>decidable_of_iff _ (wY a b)
theorem CK(a b:c4)(w:World):(Op.equalIn 10000 64 (.agg (eB a).toArray) (.agg (eB b).toArray)).run Tryz.prog w= .ok (decide (a=b)) w:=by
 have h:=run_equalIn_struct w 9999 64 (eB a).toArray (eB b).toArray DY DX;have V:=CJ 9997 DV a b w;rw[decide_eq_decide.2 (wY a b)]at V;exact h.trans V
end uc

namespace rB
open E Go.RowKit eY fm fw fA ez eZ e0 fI fJ fQ gb eL gL gM h8 oc pH rA uc dm
def oi(a b:c1):Prop:=a.ak=b.ak∧m5 a.q b.q∧a.aY=b.aY∧dv a.b4=dv b.b4∧cq a.el=cq b.el
noncomputable instance instStS (a b:c1):Decidable (oi a b):=Classical.propDecidable _
theorem GP{a b:c1}(h:(((a.ak≠b.ak∨(a.aY.length:Int)≠b.aY.length)∨(a.b4.length:Int)≠b.b4.length)∨(a.el.length:Int)≠b.el.length)):¬oi a b:=fun⟨d,_,i,j,k⟩=>by
 have n:=congrArg List.length j;have o:=congrArg List.length k;simp only[dv,cq,List.length_map]at n o;rcases h with((h|h)|h)|h
 ·exact h d
 ·exact h (by rw[i])
 ·omega
 ·omega
theorem GQ{a b:c1}(h:¬(((a.ak≠b.ak∨(a.aY.length:Int)≠b.aY.length)∨(a.b4.length:Int)≠b.b4.length)∨(a.el.length:Int)≠b.el.length)):a.ak=b.ak∧a.aY.length=b.aY.length∧a.b4.length=b.b4.length∧a.el.length=b.el.length:=by
 simp only[not_or,Decidable.not_not]at h;exact⟨h.1.1.1,by omega,by omega,by omega⟩
theorem wW{a b:List ir}(h:dv a=dv b){i:Nat}(j:i<a.length)(k:i<b.length):a[i].n=b[i].n∧a[i].l=b[i].l:=by
 have d:(dv a)[i]?=(dv b)[i]?:=by rw[h]
 simp only[dv,List.getElem?_map,List.getElem?_eq_getElem j,List.getElem?_eq_getElem k,Option.map_some,Option.some.injEq,Prod.mk.injEq]at d;exact d
theorem Cx{a b:List bu}(h:cq a=cq b){i:Nat}(j:i<a.length)(k:i<b.length):a[i].k=b[i].k∧a[i].d=b[i].d:=by
 have d:(cq a)[i]?=(cq b)[i]?:=by rw[h]
 simp only[cq,List.getElem?_map,List.getElem?_eq_getElem j,List.getElem?_eq_getElem k,Option.map_some,Option.some.injEq,Prod.mk.injEq]at d;exact⟨Subtype.ext d.1,d.2⟩
set_option maxHeartbeats 3200000 in
theorem Cw(a b:c1)(w0:World)(J:Heap)
 (fY:bM J dE 33 a.fN.v a.aY) (d_:bM J ia 2 a.cP.v a.b4) (F:∀y∈a.b4,bM J eB 65 y.v.v y.l) (ae:bM J dF 33 a.q.cf.v a.q.ba) (A:bM J bQ 33 a.b9.v a.el) (N:∀y∈a.el,bM J a6 1 y.v.v y.d) (eE:bM J dE 33 b.fN.v b.aY) (B:bM J ia 2 b.cP.v b.b4) (bS:∀y∈b.b4,bM J eB 65 y.v.v y.l) (af:bM J dF 33 b.q.cf.v b.q.ba) (E:bM J bQ 33 b.b9.v b.el) (bj:∀y∈b.el,bM J a6 1 y.v.v y.d):
 aG Tryz.prog w0 22 #[eR a,eR b] J (fun r R=>r= .bool (decide (oi a b))∧aq J R):=by
 refine aG.aN [eR a,eR b] Tryz.func22 ?_;intro dN ab;have x:aq J J:=W.refl _ _;have fY:=fY.b2;have d_:=d_.b2;have F:=fun y j=>(F y j).b2;have ae:=ae.b2;have A:=A.b2;have N:=fun y j=>(N y j).b2;have eE:=eE.b2;have B:=B.b2;have bS:=fun y j=>(bS y j).b2;have af:=af.b2;have E:=E.b2;have bj:=fun y j=>(bj y j).b2;have eM:=fY.len;have eN:=d_.len;have eP:=A.len;have eS:=eE.len;have eT:=B.len;have eU:=E.len;refine G.L (fun cX=>?_);refine o.aS cY ?_;rintro v2 R ⟨rfl,n,P,eu,c0⟩;have dO:R.size=J.size+1:=by rw[c0];simp
 have fY:=fY.N P;have d_:=d_.N P;have F:=fun y j=>(F y j).N P;have ae:=ae.N P;have A:=A.N P;have N:=fun y j=>(N y j).N P;have eE:=eE.N P;have B:=B.N P;have bS:=fun y j=>(bS y j).N P;have af:=af.N P;have E:=E.N P;have bj:=fun y j=>(bj y j).N P;have x:=x.L P;have cs:=P.size;have n:Var 47 R J.size (b3 a):=n;refine o.aS cY ?_;rintro v3 a1 ⟨rfl,bE,M,ev,cv⟩;have dP:a1.size=R.size+1:=by rw[cv];simp
 have fY:=fY.N M;have d_:=d_.N M;have F:=fun y j=>(F y j).N M;have ae:=ae.N M;have A:=A.N M;have N:=fun y j=>(N y j).N M;have eE:=eE.N M;have B:=B.N M;have bS:=fun y j=>(bS y j).N M;have af:=af.N M;have E:=E.N M;have bj:=fun y j=>(bj y j).N M;have n:=n.N M;have x:=x.L M;have bw:=M.size;have bE:Var 47 a1 R.size (b3 b):=bE;refine o.al ?_;refine cX (G.t2 (fun cx bJ=>G.L (fun bK=>?_)));refine o.v1 (Y.an n.O rfl cH rfl bV) ?_;refine o.v1 (au n.O bR) ?_;refine o.v1 (Y.an bE.O rfl cH rfl bV) ?_;refine o.v1 (au bE.O bR) ?_;refine o.v1 (Y.iZ rfl rfl rfl) ?_;refine o.aa ?_;refine o.join (d:=22) (v:= .bool (decide (a.ak≠b.ak∨(a.aY.length:Int)≠b.aY.length))) 8 (fun a7=>?_) ?_
 ·
  refine o.bp (d:=14) rfl (fun ay=>?_) (fun ay=>?_)
  ·
   refine o.az 8 ?_;exact a7 _ (congrArg (fun b=>some (Value.bool b)) (by simp[ay])) (ai (ai (ai (ai (ai (ai (ai (ai (bL (congrArg Value.bool (decide_eq_true ay).symm))))))))))
  ·
   refine o.ar (Y.an n.O rfl cH rfl h2) ?_;refine o.ar (au (n.O.drop 1) jh) ?_;refine o.ar (bf fY hF) ?_;refine o.ar (Y.an bE.O rfl cH rfl h2) ?_;refine o.ar (au (bE.O.drop 1) jh) ?_;refine o.ar (bf eE hF) ?_;refine o.ar da ?_;refine o.dy ?_;exact a7 _ (congrArg (fun b=>some (Value.bool b)) (by simp[ay])) (ai (ai (ai (ai (ai (ai (ai (ai (bL (congrArg Value.bool (decide_eq_false ay).symm))))))))))
 refine o.aa ?_;refine o.join (d:=31) (v:= .bool (decide ((a.ak≠b.ak∨(a.aY.length:Int)≠b.aY.length)∨(a.b4.length:Int)≠b.b4.length))) 8 (fun ba=>?_) ?_
 ·
  refine o.bp (d:=23) rfl (fun az=>?_) (fun az=>?_)
  ·
   refine o.az 8 ?_;exact ba _ (congrArg (fun b=>some (Value.bool b)) (by simp[az])) (ai (ai (ai (ai (ai (ai (ai (ai (bL (congrArg Value.bool (decide_eq_true az).symm))))))))))
  ·
   refine o.ar (Y.an n.O rfl cH rfl gS) ?_;refine o.ar (au (n.O.drop 2) hT) ?_;refine o.ar (bf d_ h6) ?_;refine o.ar (Y.an bE.O rfl cH rfl gS) ?_;refine o.ar (au (bE.O.drop 2) hT) ?_;refine o.ar (bf B h6) ?_;refine o.ar da ?_;refine o.dy ?_;exact ba _ (congrArg (fun b=>some (Value.bool b)) (by simp[az])) (ai (ai (ai (ai (ai (ai (ai (ai (bL (congrArg Value.bool (decide_eq_false az).symm))))))))))
 refine o.aa ?_;refine o.join (d:=40) (v:= .bool (decide (((a.ak≠b.ak∨(a.aY.length:Int)≠b.aY.length)∨(a.b4.length:Int)≠b.b4.length)∨(a.el.length:Int)≠b.el.length))) 8 (fun bb=>?_) ?_
 ·
  refine o.bp (d:=32) rfl (fun aB=>?_) (fun aB=>?_)
  ·
   refine o.az 8 ?_;exact bb _ (congrArg (fun b=>some (Value.bool b)) (by simp[aB])) (ai (ai (ai (ai (ai (ai (ai (ai (bL (congrArg Value.bool (decide_eq_true aB).symm))))))))))
  ·
   refine o.ar (Y.an n.O rfl cH rfl dT) ?_;refine o.ar (au n.O.i_ eA) ?_;refine o.ar (bf A cA) ?_;refine o.ar (Y.an bE.O rfl cH rfl dT) ?_;refine o.ar (au bE.O.i_ eA) ?_;refine o.ar (bf E cA) ?_;refine o.ar da ?_;refine o.dy ?_;exact bb _ (congrArg (fun b=>some (Value.bool b)) (by simp[aB])) (ai (ai (ai (ai (ai (ai (ai (ai (bL (congrArg Value.bool (decide_eq_false aB).symm))))))))))
 refine o.aa ?_;refine o.bp (d:=41) rfl (fun aM=>?_) (fun aM=>?_)
 ·
  refine o.az 7 ?_;refine o.nil (bK ?_);refine G.h9 rfl ?_;refine G.L (fun cy=>?_);refine o.al ?_;refine cy ?_;refine G.ret (bJ (ab ?_));exact⟨by rw[decide_eq_false (GP aM)],x⟩
 ·
  obtain⟨s1,s2,eV,eW⟩:=GQ aM;refine o.ar (Y.an n.O rfl cH rfl dY) ?_;refine o.ar (Y.cast (v2:=gu a.q) (a_ ((n.O.drop 3).take 70) j9 dY (by rw[nt];exact fz _)) (cn (nt a))) ?_;refine o.ar (Y.an bE.O rfl cH rfl dY) ?_;refine o.ar (Y.cast (v2:=gu b.q) (a_ ((bE.O.drop 3).take 70) j9 dY (by rw[nt];exact fz _)) (cn (nt b))) ?_;refine o.call rfl BA rfl bo rfl rfl (Ct a.q b.q w0 _ ae.any af.any) (fun cZ cz cB=>?_);obtain⟨rfl,ac⟩:=cB;have fY:=fY.N ac;have d_:=d_.N ac;have F:=fun y j=>(F y j).N ac;have A:=A.N ac;have N:=fun y j=>(N y j).N ac;have eE:=eE.N ac;have B:=B.N ac;have bS:=fun y j=>(bS y j).N ac;have E:=E.N ac;have bj:=fun y j=>(bj y j).N ac;have n:=n.N ac;have bE:=bE.N ac;have x:=x.L ac;have ew:=ac.size;refine o.ar (Y.iE rfl rfl) ?_;refine o.dy ?_;refine o.nil (bK ?_);refine aW (fun aN=>?_) (fun aN=>?_)
  ·
   refine G.L (fun cC=>?_);refine o.al ?_;refine cC ?_;refine G.ret (bJ (ab ?_));exact⟨by rw[decide_eq_false (fun h=>aN h.2.1)],x⟩
  ·
   refine G.skip (cx (G.t2 (fun cD cE=>G.L (fun c2=>?_))));refine o.al ?_;refine c2 (G.aD (fun _ dr dt=>?_))
   refine G.bc (fun(i:(Nat))=>[(2,.pointer (some ⟨J.size,0,none⟩)),(3,.pointer (some ⟨R.size,0,none⟩)),(5,.int .i64 (i:Int))])
    (fun(i:(Nat)) (H:Heap)=>(i≤a.aY.length)∧(a.aY.take i=b.aY.take i)∧aq cz H)
    (fun(i:(Nat))=>a.aY.length-i) 0 ⟨rfl,rfl,rfl,trivial⟩ ?_ ?_
   ·
    exact⟨(by omega),rfl,W.refl _ _⟩
   intro i du dw dM ce bN;obtain⟨eD,bY,K⟩:=dw;have fY:=fY.N K;have d_:=d_.N K;have F:=fun y j=>(F y j).N K;have A:=A.N K;have N:=fun y j=>(N y j).N K;have eE:=eE.N K;have B:=B.N K;have bS:=fun y j=>(bS y j).N K;have E:=E.N K;have bj:=fun y j=>(bj y j).N K;have n:=n.N K;have bE:=bE.N K;have x:=x.L K;have ey:=K.size;refine G.t2 (fun ca cb=>G.L (fun cc=>?_));refine o.aa ?_;refine o.v1 (Y.an n.O rfl cH rfl h2) ?_;refine o.v1 (au (n.O.drop 1) jh) ?_;refine o.v1 (bf fY hF) ?_;refine o.v1 bH (o.nil (cc ?_));refine aW (fun dx=>?_) (fun dx=>?_)
   ·
    have bP:i<a.aY.length:=by omega
    have bW:i<b.aY.length:=by omega
    obtain⟨y,aI⟩:∃q,q=a.aY[i]:=⟨_,rfl⟩;obtain⟨z,aJ⟩:∃q,q=b.aY[i]:=⟨_,rfl⟩;have eK:y∈a.aY:=by rw[aI];exact List.getElem_mem bP
    have eL:z∈b.aY:=by rw[aJ];exact List.getElem_mem bW
    refine G.skip (ca (G.t2 (fun cd cf=>G.aD (fun ck _ cl=>G.t1 (fun cm=>?_)))));refine ik ?_;refine o.v1 (Y.an n.O rfl cH rfl h2) ?_;refine o.v1 (au (n.O.drop 1) jh) ?_;refine o.aa ?_;refine o.b1 (Y.bU fY (i) rfl hF iI rfl rfl) fun ek cp=>?_;refine o.v1 (Y.cast (v2:= .agg (dE y).toArray) (a_ cp.O pO iI (ib _)) (by rw[aI])) ?_;refine o.v1 (Y.an bE.O rfl cH rfl h2) ?_;refine o.v1 (au (bE.O.drop 1) jh) ?_;refine o.aa ?_;refine o.b1 (Y.bU eE (i) rfl hF iI rfl rfl) fun dR ct=>?_;refine o.v1 (Y.cast (v2:= .agg (dE z).toArray) (a_ ct.O pO iI (ib _)) (by rw[aJ])) ?_;refine o.v1 (Y.kt rfl Tryz.eqGuardType71 (fun w=>CM y z w) rfl rfl) (o.nil (cm ?_));refine aW (fun aO=>?_) (fun aO=>?_)
    ·
     refine G.L (fun a0=>?_);refine o.al ?_;refine a0 ?_;refine G.ret (cl (cf (bN (dt (cE (ab ?_))))));exact⟨by rw[decide_eq_false (fun h=>aO (by rw[aI,aJ];have Q:=h.2.2.1;simp only[Q]))],x⟩
    ·
     refine G.skip (ck (cd (G.region ?_)));refine o.aa ?_;refine o.v1 bD ?_;refine o.al ?_;refine aR.sub (ce (i+1) _ ?_ ?_) ⟨rfl,rfl,(aF (by omega)),trivial⟩
     ·exact⟨(by omega),o4 bY bP bW (by rw[←aI,←aJ];exact Decidable.not_not.1 aO),K⟩
     ·first|omega|(simp only;omega)|(simp;omega)
   ·
    have dJ:a.aY=b.aY:=by rwa[List.take_of_length_le (by omega),List.take_of_length_le (by omega)]at bY
    refine G.exit (cb (bN (dr ?_)));refine cD (G.t2 (fun cg bg=>G.L (fun a2=>?_)));refine o.al ?_;refine a2 (G.aD (fun _ a3 bk=>?_))
    refine G.bc (fun(i2:(Nat))=>[(2,.pointer (some ⟨J.size,0,none⟩)),(3,.pointer (some ⟨R.size,0,none⟩)),(6,.int .i64 (i2:Int))])
     (fun(i2:(Nat)) (H:Heap)=>(i2≤a.b4.length)∧((dv a.b4).take i2=(dv b.b4).take i2)∧aq du H)
     (fun(i2:(Nat))=>a.b4.length-i2) 0 ⟨rfl,rfl,rfl,trivial⟩ ?_ ?_
    ·
     exact⟨(by omega),rfl,W.refl _ _⟩
    intro i2 bO ci ez a4 aP;obtain⟨eF,bZ,L⟩:=ci;have d_:=d_.N L;have F:=fun y j=>(F y j).N L;have A:=A.N L;have N:=fun y j=>(N y j).N L;have B:=B.N L;have bS:=fun y j=>(bS y j).N L;have E:=E.N L;have bj:=fun y j=>(bj y j).N L;have n:=n.N L;have bE:=bE.N L;have x:=x.L L;have eC:=L.size;refine G.t2 (fun a5 b2=>G.L (fun b6=>?_));refine o.aa ?_;refine o.v1 (Y.an n.O rfl cH rfl gS) ?_;refine o.v1 (au (n.O.drop 2) hT) ?_;refine o.v1 (bf d_ h6) ?_;refine o.v1 bH (o.nil (b6 ?_));refine aW (fun dy=>?_) (fun dy=>?_)
    ·
     have aV:i2<a.b4.length:=by omega
     have aX:i2<b.b4.length:=by omega
     obtain⟨C,U⟩:∃q,q=a.b4[i2]:=⟨_,rfl⟩;obtain⟨O,aa⟩:∃q,q=b.b4[i2]:=⟨_,rfl⟩;have aL:C∈a.b4:=by rw[U];exact List.getElem_mem aV
     have aZ:O∈b.b4:=by rw[aa];exact List.getElem_mem aX
     have ar:=(F C aL).len;have eX:=(bS O aZ).len;refine G.skip (a5 (G.t2 (fun b7 bl=>G.aD (fun a9 _ bm=>G.t2 (fun cu c3=>G.t1 (fun c5=>?_))))));refine ik ?_;refine o.v1 (Y.an n.O rfl cH rfl gS) ?_;refine o.v1 (au (n.O.drop 2) hT) ?_;refine o.aa ?_;refine o.b1 (Y.bU d_ (i2) rfl h6 iH rfl rfl) fun eo bn=>?_;refine o.v1 (Y.an bn.O rfl jv rfl bV) ?_;refine o.v1 (Y.cast (v2:=aK C.n) (au (bn.O.drop 0) bR) (by rw[U])) ?_;refine o.v1 (Y.an bE.O rfl cH rfl gS) ?_;refine o.v1 (au (bE.O.drop 2) hT) ?_;refine o.aa ?_;refine o.b1 (Y.bU B (i2) rfl h6 iH rfl rfl) fun ep bp=>?_;refine o.v1 (Y.an bp.O rfl jv rfl bV) ?_;refine o.v1 (Y.cast (v2:=aK O.n) (au (bp.O.drop 0) bR) (by rw[aa])) ?_;refine o.v1 (Y.iZ rfl rfl rfl) ?_;refine o.aa ?_;refine o.join (d:=103) (v:= .bool (decide (C.n≠O.n∨(C.l.length:Int)≠O.l.length))) 16 (fun bc=>?_) ?_
     ·
      refine o.bp (d:=87) rfl (fun ag=>?_) (fun ag=>?_)
      ·
       refine o.az 16 ?_;exact bc _ (congrArg (fun b=>some (Value.bool b)) (by simp[ag])) (ai (ai (ai (ai (ai (ai (ai (ai (ai (ai (ai (ai (ai (ai (ai (ai (bL (congrArg Value.bool (decide_eq_true ag).symm))))))))))))))))))
      ·
       refine o.ar (Y.an n.O rfl cH rfl gS) ?_;refine o.ar (au (n.O.drop 2) hT) ?_;refine o.bJ ?_;refine o.e (g:=fun ad=> .pointer (some ad)) (Y.bU d_ (i2) rfl h6 iH rfl rfl) bo rfl rfl (fun er bq=>?_);refine o.ar (Y.an bq.O rfl jv rfl lq) ?_;refine o.ar (Y.cast (v2:=C.v.v) (au (bq.O.drop 1) k6) (by rw[U])) ?_;refine o.ar (bf (F C aL) km) ?_;refine o.ar (Y.an bE.O rfl cH rfl gS) ?_;refine o.ar (au (bE.O.drop 2) hT) ?_;refine o.bJ ?_;refine o.e (g:=fun ad=> .pointer (some ad)) (Y.bU B (i2) rfl h6 iH rfl rfl) bo rfl rfl (fun et bt=>?_);refine o.ar (Y.an bt.O rfl jv rfl lq) ?_;refine o.ar (Y.cast (v2:=O.v.v) (au (bt.O.drop 1) k6) (by rw[aa])) ?_;refine o.ar (bf (bS O aZ) km) ?_;refine o.ar da ?_;refine o.dy ?_;exact bc _ (congrArg (fun b=>some (Value.bool b)) (by simp[ag])) (ai (ai (ai (ai (ai (ai (ai (ai (ai (ai (ai (ai (ai (ai (ai (ai (bL (congrArg Value.bool (decide_eq_false ag).symm))))))))))))))))))
     refine o.nil (c5 ?_);refine aW (fun ah=>?_) (fun ah=>?_)
     ·
      refine G.L (fun c6=>?_);refine o.al ?_;refine c6 ?_;refine G.ret (c3 (bm (bl (aP (bk (bg (ab ?_)))))));exact⟨by rw[decide_eq_false (fun h=>by have Q:=wW h.2.2.2.1 aV aX;rw[←U,←aa]at Q;rcases ah with q|q;exact q Q.1;exact q (by rw[Q.2]))],x⟩
     ·
      have dI:C.n=O.n:=by simp only[not_or,Decidable.not_not]at ah;exact ah.1
      have eJ:C.l.length=O.l.length:=by simp only[not_or,Decidable.not_not]at ah;omega
      refine G.skip (cu (G.L (fun bT=>?_)));refine o.al ?_;refine bT (G.aD (fun _ be b5=>?_))
      refine G.bc (fun(k:(Nat))=>[(2,.pointer (some ⟨J.size,0,none⟩)),(3,.pointer (some ⟨R.size,0,none⟩)),(6,.int .i64 (i2:Int)),(7,.int .i64 (k:Int))])
       (fun(k:(Nat)) (H:Heap)=>(k≤C.l.length)∧(C.l.take k=O.l.take k)∧aq bO H)
       (fun(k:(Nat))=>C.l.length-k) 0 ⟨rfl,rfl,rfl,rfl,trivial⟩ ?_ ?_
      ·
       exact⟨(by omega),rfl,W.refl _ _⟩
      intro k ee co ef c7 bu;obtain⟨eH,b0,S⟩:=co;have d_:=d_.N S;have F:=fun y j=>(F y j).N S;have B:=B.N S;have bS:=fun y j=>(bS y j).N S;have n:=n.N S;have bE:=bE.N S;have x:=x.L S;have L:=L.L S;have eg:=S.size;refine G.t2 (fun c9 bi=>G.L (fun c_=>?_));refine o.aa ?_;refine o.v1 (Y.an n.O rfl cH rfl gS) ?_;refine o.v1 (au (n.O.drop 2) hT) ?_;refine o.aa ?_;refine o.b1 (Y.bU d_ (i2) rfl h6 iH rfl rfl) fun dQ aw=>?_;refine o.v1 (Y.an aw.O rfl jv rfl lq) ?_;refine o.v1 (Y.cast (v2:=C.v.v) (au (aw.O.drop 1) k6) (by rw[U])) ?_;refine o.v1 (bf (F C aL) km) ?_;refine o.v1 bH (o.nil (c_ ?_));refine aW (fun aD=>?_) (fun aD=>?_)
      ·
       have db:k<C.l.length:=by omega
       have dc:k<O.l.length:=by omega
       obtain⟨u,aS⟩:∃q,q=C.l[k]:=⟨_,rfl⟩;obtain⟨v,aT⟩:∃q,q=O.l[k]:=⟨_,rfl⟩;refine G.skip (c9 (G.t2 (fun de df=>G.aD (fun dg _ dh=>G.t1 (fun br=>?_)))));refine ik ?_;refine o.v1 (Y.an n.O rfl cH rfl gS) ?_;refine o.v1 (au (n.O.drop 2) hT) ?_;refine o.aa ?_;refine o.b1 (Y.bU d_ (i2) rfl h6 iH rfl rfl) fun dS am=>?_;refine o.v1 (Y.an am.O rfl jv rfl lq) ?_;refine o.v1 (Y.cast (v2:=C.v.v) (au (am.O.drop 1) k6) (by rw[U])) ?_;refine o.aa ?_;refine o.b1 (Y.bU (F C aL) (k) rfl km mT rfl rfl) fun dU b8=>?_;refine o.v1 (Y.cast (v2:= .agg (eB u).toArray) (a_ b8.O uo mT (np _)) (by rw[aS])) ?_;refine o.v1 (Y.an bE.O rfl cH rfl gS) ?_;refine o.v1 (au (bE.O.drop 2) hT) ?_;refine o.aa ?_;refine o.b1 (Y.bU B (i2) rfl h6 iH rfl rfl) fun dV bz=>?_;refine o.v1 (Y.an bz.O rfl jv rfl lq) ?_;refine o.v1 (Y.cast (v2:=O.v.v) (au (bz.O.drop 1) k6) (by rw[aa])) ?_;refine o.aa ?_;refine o.b1 (Y.bU (bS O aZ) (k) rfl km mT rfl rfl) fun dW b9=>?_;refine o.v1 (Y.cast (v2:= .agg (eB v).toArray) (a_ b9.O uo mT (np _)) (by rw[aT])) ?_;refine o.v1 (Y.kt rfl Tryz.eqGuardType64 (fun w=>CK u v w) rfl rfl) (o.nil (br ?_));refine aW (fun aQ=>?_) (fun aQ=>?_)
       ·
        refine G.L (fun di=>?_);refine o.al ?_;refine di ?_;refine G.ret (dh (df (bu (b5 (bm (bl (aP (bk (bg (ab ?_))))))))));exact⟨by rw[decide_eq_false (fun h=>by have Q:=wW h.2.2.2.1 aV aX;rw[←U,←aa]at Q;exact aQ (by rw[aS,aT];simp only[Q.2]))],x⟩
       ·
        refine G.skip (dg (de (G.region ?_)));refine o.aa ?_;refine o.v1 bD ?_;refine o.al ?_;refine aR.sub (c7 (k+1) _ ?_ ?_) ⟨rfl,rfl,(aF (by omega)),(aF (by omega)),trivial⟩
        ·exact⟨(by omega),o4 b0 db dc (by rw[←aS,←aT];exact Decidable.not_not.1 aQ),S⟩
        ·first|omega|(simp only;omega)|(simp;omega)
      ·
       have dC:C.l=O.l:=by rwa[List.take_of_length_le (by omega),List.take_of_length_le (by omega)]at b0
       refine G.exit (bi (bu (be ?_)));refine a9 (b7 (G.region ?_));refine o.aa ?_;refine o.v1 bD ?_;refine o.al ?_;refine aR.sub (a4 (i2+1) _ ?_ ?_) ⟨rfl,rfl,(aF (by omega)),trivial⟩
       ·exact⟨(by omega),o4 bZ (by simp only[dv,List.length_map];omega) (by simp only[dv,List.length_map];omega) (by simp only[dv,List.getElem_map,←U,←aa,dI,dC]),L⟩
       ·first|omega|(simp only;omega)|(simp;omega)
    ·
     have dz:dv a.b4=dv b.b4:=by have dK:(dv a.b4).length=a.b4.length:=List.length_map _;have dL:(dv b.b4).length=b.b4.length:=List.length_map _;rwa[List.take_of_length_le (by omega),List.take_of_length_le (by omega)]at bZ
     refine G.exit (b2 (aP (a3 ?_)));refine cg (G.t2 (fun dj dk=>G.L (fun bv=>?_)));refine o.al ?_;refine bv (G.aD (fun _ dm dp=>?_))
     refine G.bc (fun(i4:(Nat))=>[(2,.pointer (some ⟨J.size,0,none⟩)),(3,.pointer (some ⟨R.size,0,none⟩)),(8,.int .i64 (i4:Int))])
      (fun(i4:(Nat)) (H:Heap)=>(i4≤a.el.length)∧((cq a.el).take i4=(cq b.el).take i4)∧aq bO H)
      (fun(i4:(Nat))=>a.el.length-i4) 0 ⟨rfl,rfl,rfl,trivial⟩ ?_ ?_
     ·
      exact⟨(by omega),rfl,W.refl _ _⟩
     intro i4 eh dA ei dq bx;obtain⟨eG,b1,T⟩:=dA;have A:=A.N T;have N:=fun y j=>(N y j).N T;have E:=E.N T;have bj:=fun y j=>(bj y j).N T;have n:=n.N T;have bE:=bE.N T;have x:=x.L T;have ej:=T.size;refine G.t2 (fun cG cI=>G.L (fun cJ=>?_));refine o.aa ?_;refine o.v1 (Y.an n.O rfl cH rfl dT) ?_;refine o.v1 (au n.O.i_ eA) ?_;refine o.v1 (bf A cA) ?_;refine o.v1 bH (o.nil (cJ ?_));refine aW (fun cL=>?_) (fun cL=>?_)
     ·
      have bU:i4<a.el.length:=by omega
      have bX:i4<b.el.length:=by omega
      obtain⟨X,aC⟩:∃q,q=a.el[i4]:=⟨_,rfl⟩;obtain⟨Z,aH⟩:∃q,q=b.el[i4]:=⟨_,rfl⟩;have dG:X∈a.el:=by rw[aC];exact List.getElem_mem bU
      have dH:Z∈b.el:=by rw[aH];exact List.getElem_mem bX
      have eY:=X.k.2;have eZ:=Z.k.2;refine G.skip (cG (G.t2 (fun cO cP=>G.aD (fun cQ _ cR=>G.t1 (fun cS=>?_)))));refine ik ?_;refine o.v1 (Y.an n.O rfl cH rfl dT) ?_;refine o.v1 (au n.O.i_ eA) ?_;refine o.aa ?_;refine o.b1 (Y.bU A (i4) rfl cA cr rfl rfl) fun dX ap=>?_;refine o.v1 (Y.an ap.O rfl fr rfl bd) ?_;refine o.v1 (Y.cast (v2:=bs X.k) (a_ ((ap.O.drop 0).take 32) cj bd (by rw[fa];exact bC _)) ((by rw[aC];exact cn (fa _)))) ?_;refine o.v1 (Y.an bE.O rfl cH rfl dT) ?_;refine o.v1 (au bE.O.i_ eA) ?_;refine o.aa ?_;refine o.b1 (Y.bU E (i4) rfl cA cr rfl rfl) fun dZ bA=>?_;refine o.v1 (Y.an bA.O rfl fr rfl bd) ?_;refine o.v1 (Y.cast (v2:=bs Z.k) (a_ ((bA.O.drop 0).take 32) cj bd (by rw[fa];exact bC _)) ((by rw[aH];exact cn (fa _)))) ?_;refine o.v1 (Y.cast (v2:= .bool (decide (X.k≠Z.k))) (Y.kt rfl Tryz.eqGuardType26 (fun w=>gR 9998 Tryz.underlying26 Tryz.underlying5 cK ed (by assumption) (by assumption) w) rfl rfl) ((congrArg Value.bool (decide_eq_decide.2 ⟨fun h e=>h (congrArg Subtype.val e),fun h e=>h (Subtype.ext e)⟩)))) ?_;refine o.aa ?_;refine o.join (d:=170) (v:= .bool (decide (X.k≠Z.k∨X.d≠Z.d))) 16 (fun a8=>?_) ?_
      ·
       refine o.bp (d:=154) rfl (fun al=>?_) (fun al=>?_)
       ·
        refine o.az 16 ?_;exact a8 _ (congrArg (fun b=>some (Value.bool b)) (by simp[al])) (ai (ai (ai (ai (ai (ai (ai (ai (ai (ai (ai (ai (ai (ai (ai (ai (bL (congrArg Value.bool (decide_eq_true al).symm))))))))))))))))))
       ·
        refine o.ar (Y.an n.O rfl cH rfl dT) ?_;refine o.ar (au n.O.i_ eA) ?_;refine o.bJ ?_;refine o.e (g:=fun ad=> .pointer (some ad)) (Y.bU A (i4) rfl cA cr rfl rfl) bo rfl rfl (fun ea bB=>?_);refine o.ar (Y.an bB.O rfl fr rfl c8) ?_;refine o.ar (Y.cast (v2:=X.v.v) (au (bB.O.jR) eI) (by rw[aC])) ?_;refine o.ar (Y.nd (N X dG) rfl Tryz.underlying57 Tryz.underlying9 Tryz.underlying5 rfl) ?_;refine o.ar (Y.an bE.O rfl cH rfl dT) ?_;refine o.ar (au bE.O.i_ eA) ?_;refine o.bJ ?_;refine o.e (g:=fun ad=> .pointer (some ad)) (Y.bU E (i4) rfl cA cr rfl rfl) bo rfl rfl (fun ec bF=>?_);refine o.ar (Y.an bF.O rfl fr rfl c8) ?_;refine o.ar (Y.cast (v2:=Z.v.v) (au (bF.O.jR) eI) (by rw[aH])) ?_;refine o.ar (Y.nd (bj Z dH) rfl Tryz.underlying57 Tryz.underlying9 Tryz.underlying5 rfl) ?_;refine o.ar (Y.iZ rfl rfl rfl) ?_;refine o.dy ?_;exact a8 _ (congrArg (fun b=>some (Value.bool b)) (by simp[al])) (ai (ai (ai (ai (ai (ai (ai (ai (ai (ai (ai (ai (ai (ai (ai (ai (bL (congrArg Value.bool (decide_eq_false al).symm))))))))))))))))))
      refine o.nil (cS ?_);refine aW (fun an=>?_) (fun an=>?_)
      ·
       refine G.L (fun cV=>?_);refine o.al ?_;refine cV ?_;refine G.ret (cR (cP (bx (dp (dk (ab ?_))))));exact⟨by rw[decide_eq_false (fun h=>by have Q:=Cx h.2.2.2.2 bU bX;rw[←aC,←aH]at Q;rcases an with q|q;exact q Q.1;exact q Q.2)],x⟩
      ·
       refine G.skip (cQ (cO (G.region ?_)));refine o.aa ?_;refine o.v1 bD ?_;refine o.al ?_;refine aR.sub (dq (i4+1) _ ?_ ?_) ⟨rfl,rfl,(aF (by omega)),trivial⟩
       ·exact⟨(by omega),o4 b1 (by simp only[cq,List.length_map];omega) (by simp only[cq,List.length_map];omega) (by simp only[not_or,Decidable.not_not]at an;simp only[cq,List.getElem_map,←aC,←aH,an.1,an.2]),T⟩
       ·first|omega|(simp only;omega)|(simp;omega)
     ·
      refine G.exit (cI (bx (dm ?_)));refine dj (G.L (fun cW=>?_));refine o.al ?_;refine cW ?_;refine G.ret (ab ?_);exact⟨by have dB:cq a.el=cq b.el:=(by have dK:(cq a.el).length=a.el.length:=List.length_map _;have dL:(cq b.el).length=b.el.length:=List.length_map _;rwa[List.take_of_length_le (by omega),List.take_of_length_le (by omega)]at b1);rw[decide_eq_true (show oi a b from⟨s1,Decidable.not_not.1 aN,dJ,dz,dB⟩)],x⟩
end rB

namespace kZ
open E Go.RowKit eY fm fw fA ez eZ e0 fI fJ fQ gb eL gL gM h8 ob dm
set_option maxRecDepth 100000 in
theorem iz:c3 Tryz.prog 30 68 33 56:=⟨Tryz.underlying30,_,_,rfl,rfl,rfl,rfl,rfl⟩
set_option maxRecDepth 100000 in
theorem de:c3 Tryz.prog 57 5 1 1:=⟨Tryz.underlying57,_,_,rfl,rfl,rfl,rfl,rfl⟩
theorem uO:∀(k:Nat) (a b:List UInt8),a.take k=b.take k→k<a.length→k<b.length→a.getD k 0≠b.getD k 0→Op.bytesLess a b=decide ((a.getD k 0).toNat<(b.getD k 0).toNat)
 |0,x::a,y::b,_,_,_,h=>by
  have h:x≠y:=by simpa using h
  have V:(x==y)=false:=by simpa using h
  simp[Op.bytesLess,V,UInt8.lt_iff_toNat_lt]
 |k+1,x::a,y::b,d,i,V,h=>by
  simp only[List.take_succ_cons,List.cons.injEq]at d;obtain⟨rfl,d⟩:=d;have:=uO k a b d (by simpa using i) (by simpa using V) (by simpa using h)
  simp[Op.bytesLess,this]
 |_,[],_,_,i,_,_=>by simp at i
 |_,_,[],_,_,V,_=>by simp at V
theorem sq{l:List UInt8}{j:Nat}(h:j<l.length):l[j]=l.getD j 0:=by simp[h]
theorem nk(i:cw)(k:Nat)(h:k<32):(bX i)[k]?=some (.int .u8 (i.1.getD k 0).toNat):=by
 have V:k<i.1.length:=by rw[i.2];exact h
 simp[bX,List.getD_eq_getElem?_getD,List.getElem?_eq_getElem V]
theorem Ak(a:List UInt8):Op.bytesLess a a=false:=by
 cases h:Op.bytesLess a a with
 |false=>rfl
 |true=>exact absurd h (mn a)
theorem FM{l:List bu}{x:bu}{p:Nat}(i:∀j (h:j<l.length),j<p→blt l[j].k.1 x.k.1)(A:p≤l.length)(n:∀h:p<l.length,¬blt l[p].k.1 x.k.1∧¬l[p].k=x.k):cq (l.take p++[x]++l.drop p)=ea (cq l) x.k.1 x.d:=by
 rw[wC (k:=p) (by simpa[cq]using A) (fun j h r=>by have:=i j (by simpa[cq]using h) r;simpa[cq]using this) (fun h=>by
  have o:p<l.length:=by simpa[cq]using h
  have d:=n o;simp only[cq,List.getElem_map];exact Classical.byContradiction (fun q=>d.2 (Subtype.ext (mo d.1 q))))]
 simp[cq,List.map_take,List.map_drop]
theorem Dt{F aQ:Nat→Prop}{H:Heap}{l:List bu}{x:bu}(p:Nat)(h:∀y∈l,Rd F H a6 1 y.v.v y.d)(d:∀b,F b→aQ b)(i:Rd aQ H a6 1 x.v.v x.d):∀y∈l.take p++[x]++l.drop p,Rd aQ H a6 1 y.v.v y.d:=by
 intro y hy;rcases List.mem_append.1 hy with hy|hy
 ·rcases List.mem_append.1 hy with hy|hy
  ·exact(h y (List.mem_of_mem_take hy)).imp (fun b _ e=>d b e)
  ·rw[List.mem_singleton.1 hy];exact i
 ·exact(h y (List.mem_of_mem_drop hy)).imp (fun b _ e=>d b e)
theorem rR{l:List bu}{k:aJ}{j:Nat}(h:∀q (h:q<l.length),q<j→blt l[q].k.1 k)(o:j<l.length)(d:blt l[j].k.1 k):∀q (h:q<l.length),q<j+1→blt l[q].k.1 k:=fun q n V=>by
 rcases Nat.lt_succ_iff_lt_or_eq.1 V with i|rfl
 ·exact h q n i
 ·exact d
theorem F1(a b:cw)(w0:World)(J:Heap)
 :
 aG Tryz.prog w0 117 #[bs a,bs b] J (fun r n=>r= .bool (Op.bytesLess a.1 b.1)∧aq J n):=by
 refine aG.aN [bs a,bs b] Tryz.func117 ?_;intro ag K;have i:aq J J:=W.refl _ _;have aB:=a.2;have aA:=b.2;refine G.L (fun Q=>?_);refine o.aS cY ?_;rintro v2 n ⟨rfl,d,C,ah,R⟩;have az:n.size=J.size+1:=by rw[R];simp
 have i:=i.L C;have ai:=C.size;have d:Var 26 n J.size (bX a):=d;refine o.aS cY ?_;rintro v3 A ⟨rfl,j,B,al,aw⟩;have am:A.size=n.size+1:=by rw[aw];simp
 have d:=d.N B;have i:=i.L B;have an:=B.size;have j:Var 26 A n.size (bX b):=j;refine o.al ?_;refine Q (G.t2 (fun S ap=>G.L (fun T=>?_)));refine o.al ?_;refine T (G.aD (fun _ U X=>?_))
 refine G.bc (fun(k:(Nat))=>[(2,.pointer (some ⟨J.size,0,none⟩)),(3,.pointer (some ⟨n.size,0,none⟩)),(5,.int .i64 (k:Int))])
  (fun(k:(Nat)) (H:Heap)=>(k≤32)∧(a.1.take k=b.1.take k)∧aq A H)
  (fun(k:(Nat))=>32-k) 0 ⟨rfl,rfl,rfl,trivial⟩ ?_ ?_
 ·
  exact⟨(by omega),by simp,W.refl _ _⟩
 intro k ar Y af Z E;obtain⟨aC,x,q⟩:=Y;have d:=d.N q;have j:=j.N q;have i:=i.L q;have ay:=q.size;refine G.t2 (fun aa ab=>G.L (fun ae=>?_));refine o.aa ?_;refine o.v1 bH (o.nil (ae ?_));refine aW (fun cB=>?_) (fun cB=>?_)
 ·
  refine G.skip (aa (G.t2 (fun L M=>G.aD (fun N _ O=>G.t1 (fun ac=>?_)))));refine ik ?_;refine o.aa ?_;refine o.v1 (eH d.O (k) j2 cK) ?_;refine o.v1 (au (d.O.at (k) (nk a k (by omega))) ed) ?_;refine o.aa ?_;refine o.v1 (eH j.O (k) j2 cK) ?_;refine o.v1 (au (j.O.at (k) (nk b k (by omega))) ed) ?_;refine o.v1 da (o.nil (ac ?_));refine aW (fun F=>?_) (fun F=>?_)
  ·
   refine G.t1 (fun ad=>?_);refine ik ?_;refine o.aa ?_;refine o.v1 (eH d.O (k) j2 cK) ?_;refine o.v1 (au (d.O.at (k) (nk a k (by omega))) ed) ?_;refine o.aa ?_;refine o.v1 (eH j.O (k) j2 cK) ?_;refine o.v1 (au (j.O.at (k) (nk b k (by omega))) ed) ?_;refine o.v1 bH ?_;refine o.al ?_;refine ad ?_;refine G.ret (O (M (E (X (ap (K ?_))))));exact⟨by rw[uO k a.1 b.1 x (by omega) (by omega) (fun e=>F (by rw[e]))];exact congrArg Value.bool (decide_eq_decide.2 (by omega)),i⟩
  ·
   refine G.skip (N (L (G.region ?_)));refine o.aa ?_;refine o.v1 bD ?_;refine o.al ?_;refine aR.sub (Z (k+1) _ ?_ ?_) ⟨rfl,rfl,(aF (by omega)),trivial⟩
   ·exact⟨(by omega),by rw[List.take_succ_eq_append_getElem (by omega),List.take_succ_eq_append_getElem (by omega),x,sq,sq,UInt8.toNat_inj.1 (show(a.1.getD k 0).toNat=(b.1.getD k 0).toNat by omega)],q⟩
   ·first|omega|(simp only;omega)|(simp;omega)
 ·
  refine G.exit (ab (E (U ?_)));refine S (G.L (fun P=>?_));refine o.al ?_;refine P ?_;refine G.ret (K ?_);obtain rfl:k=32:=by omega
  rw[List.take_of_length_le (by omega),List.take_of_length_le (by omega)]at x;exact⟨by rw[x,Ak],i⟩
set_option maxHeartbeats 1600000 in
theorem F2(v1 v2:Value)(l m:List bu)(F:Nat→Prop)(w0:World)(J:Heap)
 (b6:Rd F J bQ 33 v1 l) (fm:bk F J.size) (ar:bM J bQ 33 v2 m) (bJ:∀x∈l,Rd F J a6 1 x.v.v x.d) (b2:bk F J.size) (hy:∀x∈m,bM J a6 1 x.v.v x.d) (ga:l.length≤1000) (gb:m.length≤100000) (e4:∀x∈m,x.d.length≤140737488355328) (e6:∀x∈m,¬x.k=bq):
 aG Tryz.prog w0 43 #[v1,v2] J (fun r bg=>∃s2:aO,∃ca:List bu,∃bc:Nat→Prop,r=s2.v∧(∀u:Unit,Rd bc bg bQ 33 s2.v ca)∧(bk bc bg.size)∧(∀x∈ca,Rd bc bg a6 1 x.v.v x.d)∧(bk bc bg.size)∧(∀b,bc b→F b∨J.size≤b)∧(cq ca=gA (cq l) m)∧aq J bg):=by
 refine aG.aN [v1,v2] Tryz.func43 ?_;intro fh e7;have N:aq J J:=W.refl _ _;have ar:=ar.b2;have cl:=ar.b5;have hy:=fun x ab=>(hy x ab).b2;have cp:bk (fun b=>True∧b<J.size) J.size:=fun b h=>h.2;refine G.L (fun ep=>?_);refine o.al ?_;refine ep (G.L (fun er=>?_));refine o.aS (cS _ (([]:List bu)) iz di hr (rfl)) fun fR co eu=>?_;obtain⟨B,aP,fA,dQ⟩:=eu;have fF:co.size=J.size+1:=by rw[dQ];simp
 have c7:=(ax.new (cl.mono N.size):ax _ (J.size+1));have c9:=(ax.new (b2.mono N.size):ax _ (J.size+1));have cs:=(ax.new (cp.mono N.size):ax _ (J.size+1));have c_:U 0 J.size (J.size+1):=U.new N.size;have b6:=b6.N aP;have ar:=ar.N aP;have bJ:=fun x b9=>(bJ x b9).N aP;have hy:=fun x ab=>(hy x ab).N aP;have N:=N.L aP;have e_:=aP.size;refine o.aa ?_;refine o.aS (eg B b6 iz (by simp;omega) (by simp;omega)) fun bw bz ev=>?_;obtain⟨bT,B,aS,aN⟩:=ev;have aS:U (J.size+1) co.size bT:=aS;have aN:=aN.md;have ew:=ax.app (c7) (cl.mono N.size) aS;have ez:=ax.app (c9) (b2.mono N.size) aS;have eA:=ax.app (cs) (cp.mono N.size) aS;have be:U 0 J.size bT:=U.L (c_) aS N.size;have ar:=ar.ae aN (ay.I c7);have bJ:=fun x b9=>(bJ x b9).ae aN (ay.I c9);have hy:=fun x ab=>(hy x ab).ae aN (ay.I cs);have N:=N.bx aN (ah.I (ao.q c_));have ds:=aN.size;have dr:=B.le;rw[List.nil_append]at B;obtain⟨eB,rfl⟩:∃s:aO,bw=s.v:=⟨cm bw,B.bm.symm⟩;refine o.al ?_;refine er (G.t1 (fun eC=>G.L (fun eD=>?_)));refine o.al ?_;refine eD (G.aD (fun _ eE _=>?_))
 refine G.bc (fun(cb:(Nat)×(aO)×(Nat)×(List bu)×(Nat→Prop))=>match cb with|(i,so,aH,A,aQ)=>[(1,v2),(5,so.v),(6,.int .i64 (i:Int))])
  (fun(i,so,aH,A,aQ) (H:Heap)=>(i≤m.length)∧(aU aH 68 H bQ 33 so.v A)∧(∀x∈A,Rd aQ H a6 1 x.v.v x.d)∧(bk aQ H.size)∧(ax aQ aH)∧(∀b,aQ b→F b∨J.size≤b)∧(cq A=gA (cq l) (m.take i))∧(U bT bz.size aH)∧W (aB [bT]) bz H)
  (fun(i,so,aH,A,aQ)=>m.length-i) (0,eB,bT,l,F) ⟨rfl,rfl,rfl,trivial⟩ ?_ ?_
 ·
  exact⟨(by omega),B,bJ,(b2.mono N.size),(ez),(fun b e=>Or.inl e),rfl,U.refl _ _,W.refl _ _⟩
 rintro⟨i,so,aH,A,aQ⟩ n eF fg cZ eG;obtain⟨f_,B,Q,bn,dh,b5,bF,cf,L⟩:=eF;have dS:U 0 J.size aH:=U.L (be) cf N.size;have ar:=ar.ae L (ay.I ew);have hy:=fun x ab=>(hy x ab).ae L (ay.I eA);have N:=N.bx L (ah.I (ao.q be));have fS:=L.size;have dr:=B.le;have cQ:=cf;refine G.t2 (fun eH eJ=>G.L (fun eK=>?_));refine o.az 2 ?_;refine o.v1 (bf ar cA) ?_;refine o.v1 bH (o.nil (eK ?_));refine aW (fun eL=>?_) (fun eL=>?_)
 ·
  refine G.skip (eH (G.t1 (fun da=>G.aD (fun dT dU _=>G.t1 (fun dV=>G.L (fun dX=>?_))))));refine o.az 2 ?_;have bE:i<m.length:=by omega
  obtain⟨y,a7⟩:∃q,q=m[i]:=⟨_,rfl⟩;have bK:y∈m:=by rw[a7];exact List.getElem_mem bE
  have fZ:=e4 y bK;have e8:=e6 y bK
  have gd:A.length≤l.length+i:=by
   have dj:=rI (m.take i) (cq l);rw[←bF]at dj;simp only[cq,List.length_map,List.length_take]at dj;omega
  refine o.b1 (Y.bU ar (i) rfl cA cr rfl rfl) fun fC cR=>?_;refine o.v1 (Y.an cR.O rfl fr rfl bd) ?_;refine o.v1 (Y.cast (v2:=bs y.k) (a_ ((cR.O.drop 0).take 32) cj bd (by rw[fa];exact bC _)) ((by rw[a7];exact cn (fa _)))) ?_;refine o.v1 (Y.build (v:=bs bq) rfl rfl (by intro w;kernel_rfl)) ?_;refine o.v1 (Y.ka rfl Tryz.eqGuardType26 (fun w=>gR 9998 Tryz.underlying26 Tryz.underlying5 cK ed (y.k.2) (bq.2) w) rfl rfl) (o.nil (dX ?_));refine aW (fun db=>?_) (fun db=>?_)
  ·
   exact absurd (Subtype.ext db) e8
  ·
   refine G.skip (dV ?_)
   refine G.cut (fun(cb:(Nat)×(aO)×(Nat))=>match cb with|(aK,ae,aC)=>[(1,v2),(5,so.v),(6,.int .i64 (i:Int)),(7,.pointer (some ⟨aK,0,none⟩))])
    (fun(aK,ae,aC) (H:Heap)=>(Var 68 H aK (bQ (⟨y.k,ae,y.d⟩:bu)))∧(aU aC 5 H a6 1 ae.v y.d)∧(U 0 n.size ((aK+1)))∧(U 0 n.size aC)∧(af ((aK+1)) aC)∧aq n H) (fun _ bW _=>?_) ?_
   ·
    have C:aq n n:=W.refl _ _;refine dg (fun al=>aq n al) [14] ?_;have ac:aq n n:=W.refl _ _;refine T.aa 0 rfl ac ?_;refine T.aa 1 rfl ac ?_;refine T.e (g:=fun ad=> .pointer (some ad)) 2 (by kernel_rfl) rfl (by kernel_rfl) (by kernel_rfl) (by kernel_rfl) (Y.bU ar (i) rfl cA cr rfl rfl) cM rfl rfl ac (fun fD bi=>?_);refine T.t1 3 rfl (fun al an=>Y.an (bi.O.N an) rfl fr rfl bd) ac ?_;refine T.t1 4 rfl (fun al an=>Y.cast (v2:=bs y.k) (a_ (((bi.O.drop 0).N an).take 32) cj bd (by rw[fa];exact bC _)) ((by rw[a7];exact cn (fa _)))) ac ?_;refine T.aa 6 rfl ac ?_;refine T.aa 7 rfl ac ?_;refine T.e (g:=fun ad=> .pointer (some ad)) 8 (by kernel_rfl) rfl (by kernel_rfl) (by kernel_rfl) (by kernel_rfl) (Y.bU ar (i) rfl cA cr rfl rfl) cM rfl rfl ac (fun fE cV=>?_);refine T.t1 9 rfl (fun al an=>Y.an (cV.O.N an) rfl fr rfl c8) ac ?_;refine T.t1 10 rfl (fun al an=>Y.cast (v2:=y.v.v) (au ((cV.O.jR).N an) eI) (by rw[a7])) ac ?_;refine T.two (i:=5) (j:=13) (by kernel_rfl) ?_ ?_
    ·
     refine ey rfl (cS _ (([]:List UInt8)) de et fB (rfl)) (fun ek E b1=>?_);obtain⟨k,ap,dY,bY⟩:=b1;have aD:E.size=n.size+1:=by rw[bY];simp
     have bO:U 0 n.size (n.size+1):=U.new C.size;have dZ:U 0 n.size (n.size+1):=U.new ac.size;have hy:=fun x ab=>(hy x ab).N ap;have C:=C.L ap;have ac:=ac.L ap;have fT:=ap.size;refine⟨.inr ac,T.narrow (SH2:=fun al=>W (aB [(n.size+1)]) E al) (fun al an=>(W.aL (ks:=[]) (ac.kI []) an (ah.I (ao.q dZ))).nil) ?_⟩;have ac:W (aB [(n.size+1)]) E E:=W.refl _ _;have a9:=U.refl (n.size+1) E.size;refine T.two (i:=11) (j:=13) (by kernel_rfl) ?_ ?_
     ·
      refine ey rfl (Z.pR k (hy y bK).any rfl de rfl rfl (by simp;omega) (by simp;omega)) (fun aI aa bA=>?_);obtain⟨am,k,R,M⟩:=bA;have R:U (n.size+1) E.size am:=R;have M:=M.md;have ea:U 0 n.size am:=U.L (bO) R C.size;have dw:U (n.size+1) E.size am:=U.L (a9) R ac.size;have C:=C.bx M (ah.I (ao.q bO));have ac:=ac.aL M (ah.I (ao.r a9));have fU:=M.size;have b0:=k.le;obtain⟨P,rfl⟩:∃s:aO,aI=s.v:=⟨cm aI,k.bm.symm⟩;rw[List.nil_append]at k;refine T.bZ ac (ah.I (ao.r dw)) ?_;have ac:W (aB [am]) aa aa:=W.refl _ _;have dx:=U.refl am aa.size;refine T.t1 (v:= .agg (bQ (⟨y.k,P,y.d⟩:bu)).toArray) 12 rfl (fun al an=>?_) ac ?_
      ·exact Y.build (v:= .agg (bQ (⟨y.k,P,y.d⟩:bu)).toArray) rfl rfl (by intro w;exact oA _ _ _)
      refine T.aX 13 ?_;refine ey rfl (dk lz) ?_;rintro dq K ⟨rfl,ak,X,dc,bB⟩;have cW:K.size=aa.size+1:=by rw[bB];simp
      have cX:af am (aa.size+1):=af.new k.le;have cY:U 0 n.size (aa.size+1):=U.new C.size;have dy:U 0 aa.size (aa.size+1):=U.new ac.size;have k:=k.N X;have C:=C.L X;have ac:=ac.a8 X;have fV:=X.size;refine T.bZ ac (ah.cons (ao.r dx) (ah.I (ao.q dy))) ?_;refine T.aX 14 ?_;refine gW rfl (eh ak (_) (bQ (⟨y.k,P,y.d⟩:bu)) (hr (⟨y.k,P,y.d⟩:bu)) cr (di _) ((dJ (di _).symm))) (fun ct bp=>?_);obtain⟨ak,O⟩:=bp;have O:=O.bB;have k:=k.ae O (ag.I cX);have C:=C.bx O (ah.I (ao.q cY));have fW:=O.size;refine⟨.inl rfl,?_⟩;refine cI ?_;refine aR.sub (bW (aa.size,P,am) _ ?_) ⟨rfl,rfl,(aF (by omega)),rfl,trivial⟩;exact⟨ak,k,cY,ea,cX.symm,C⟩
     ·
      refine ey rfl (dk lz) ?_;rintro dq K ⟨rfl,ak,X,dc,bB⟩;have cW:K.size=E.size+1:=by rw[bB];simp
      have br:af (n.size+1) (E.size+1):=af.new k.le;have c0:U 0 n.size (E.size+1):=U.new C.size;have dz:U 0 E.size (E.size+1):=U.new ac.size;have hy:=fun x ab=>(hy x ab).N X;have k:=k.N X;have C:=C.L X;have ac:=ac.a8 X;have df:=X.size;refine T.bZ ac (ah.cons (ao.r a9) (ah.I (ao.q dz))) ?_;have ac:W (aB [(n.size+1),(E.size+1)]) K K:=W.refl _ _;have c1:=U.refl (n.size+1) K.size;have dA:=U.refl (E.size+1) K.size;refine T.aX 11 ?_;refine ey rfl (Z.pR k (hy y bK).any rfl de rfl rfl (by simp;omega) (by simp;omega)) (fun aI aa bA=>?_);obtain⟨am,k,R,M⟩:=bA;have R:U (n.size+1) K.size am:=R;have M:=M.md;have c2:af (E.size+1) am:=af.app (br.symm) ak.lt R;have dB:U 0 n.size am:=U.L (bO) R C.size;have dC:U (n.size+1) K.size am:=U.L (c1) R ac.size;have ak:=ak.ae M (ag.I br.symm);have C:=C.bx M (ah.I (ao.q bO));have ac:=ac.aL M (ah.I (ao.r c1));have c3:=M.size;have b0:=k.le;obtain⟨P,rfl⟩:∃s:aO,aI=s.v:=⟨cm aI,k.bm.symm⟩;rw[List.nil_append]at k;refine T.bZ ac (ah.cons (ao.r dC) (ah.I (ao.r dA))) ?_;have ac:W (aB [am,(E.size+1)]) aa aa:=W.refl _ _;refine T.t1 (v:= .agg (bQ (⟨y.k,P,y.d⟩:bu)).toArray) 12 rfl (fun al an=>?_) ac ?_
      ·exact Y.build (v:= .agg (bQ (⟨y.k,P,y.d⟩:bu)).toArray) rfl rfl (by intro w;exact oA _ _ _)
      refine T.aX 14 ?_;refine gW rfl (eh ak (_) (bQ (⟨y.k,P,y.d⟩:bu)) (hr (⟨y.k,P,y.d⟩:bu)) cr (di _) ((dJ (di _).symm))) (fun ct bp=>?_);obtain⟨ak,O⟩:=bp;have O:=O.bB;have k:=k.ae O (ag.I c2.symm);have C:=C.bx O (ah.I (ao.q c0));have fo:=O.size;refine⟨.inl rfl,?_⟩;refine cI ?_;refine aR.sub (bW (E.size,P,am) _ ?_) ⟨rfl,rfl,(aF (by omega)),rfl,trivial⟩;exact⟨ak,k,c0,dB,c2,C⟩
    ·
     refine ey rfl (dk lz) ?_;rintro dq K ⟨rfl,ak,X,dc,bB⟩;have cW:K.size=n.size+1:=by rw[bB];simp
     have bv:U 0 n.size (n.size+1):=U.new C.size;have dG:U 0 n.size (n.size+1):=U.new ac.size;have hy:=fun x ab=>(hy x ab).N X;have C:=C.L X;have ac:=ac.L X;have fp:=X.size;refine⟨.inr ac,T.narrow (SH2:=fun al=>W (aB [(n.size+1)]) K al) (fun al an=>(W.aL (ks:=[]) (ac.kI []) an (ah.I (ao.q dG))).nil) ?_⟩;have ac:W (aB [(n.size+1)]) K K:=W.refl _ _;have ef:=U.refl (n.size+1) K.size;refine T.aX 5 ?_;refine ey rfl (cS _ (([]:List UInt8)) de et fB (rfl)) (fun ek E b1=>?_);obtain⟨k,ap,dY,bY⟩:=b1;have aD:E.size=K.size+1:=by rw[bY];simp
     have cu:af (n.size+1) (K.size+1):=af.new ak.lt;have cv:U 0 n.size (K.size+1):=U.new C.size;have ei:U 0 K.size (K.size+1):=U.new ac.size;have hy:=fun x ab=>(hy x ab).N ap;have ak:=ak.N ap;have C:=C.L ap;have ac:=ac.a8 ap;have du:=ap.size;refine T.bZ ac (ah.cons (ao.r ef) (ah.I (ao.q ei))) ?_;have ac:W (aB [(n.size+1),(K.size+1)]) E E:=W.refl _ _;have ej:=U.refl (n.size+1) E.size;have cx:=U.refl (K.size+1) E.size;refine T.aX 11 ?_;refine ey rfl (Z.pR k (hy y bK).any rfl de rfl rfl (by simp;omega) (by simp;omega)) (fun aI aa bA=>?_);obtain⟨am,k,R,M⟩:=bA;have R:U (K.size+1) E.size am:=R;have M:=M.md;have cz:af (n.size+1) am:=af.app (cu) ak.lt R;have dH:U 0 n.size am:=U.L (cv) R C.size;have dI:U (K.size+1) E.size am:=U.L (cx) R ac.size;have ak:=ak.ae M (ag.I cu);have C:=C.bx M (ah.I (ao.q cv));have ac:=ac.aL M (ah.I (ao.r cx));have fq:=M.size;have b0:=k.le;obtain⟨P,rfl⟩:∃s:aO,aI=s.v:=⟨cm aI,k.bm.symm⟩;rw[List.nil_append]at k;refine T.bZ ac (ah.cons (ao.r ej) (ah.I (ao.r dI))) ?_;have ac:W (aB [(n.size+1),am]) aa aa:=W.refl _ _;refine T.t1 (v:= .agg (bQ (⟨y.k,P,y.d⟩:bu)).toArray) 12 rfl (fun al an=>?_) ac ?_
     ·exact Y.build (v:= .agg (bQ (⟨y.k,P,y.d⟩:bu)).toArray) rfl rfl (by intro w;exact oA _ _ _)
     refine T.aX 14 ?_;refine gW rfl (eh ak (_) (bQ (⟨y.k,P,y.d⟩:bu)) (hr (⟨y.k,P,y.d⟩:bu)) cr (di _) ((dJ (di _).symm))) (fun ct bp=>?_);obtain⟨ak,O⟩:=bp;have O:=O.bB;have k:=k.ae O (ag.I cz.symm);have C:=C.bx O (ah.I (ao.q bv));have fu:=O.size;refine⟨.inl rfl,?_⟩;refine cI ?_;refine aR.sub (bW (n.size,P,am) _ ?_) ⟨rfl,rfl,(aF (by omega)),rfl,trivial⟩;exact⟨ak,k,bv,dH,cz,C⟩
   ·
    rintro⟨aK,ae,aC⟩ bR dt;obtain⟨ak,k,fj,cd,fl,bP⟩:=dt;have cC:af aH aC:=af.app (af.z) B.le cd;have cD:U 0 J.size aC:=U.L (U.refl 0 _) cd N.size;have B:=B.N bP;have Q:=fun x az=>(Q x az).N bP;have L:=L.a8 bP;have fw:=bP.size;have fk:=ak.le;have b0:=k.le;refine G.L (fun ec=>?_);refine o.al ?_;refine ec ?_
    refine G.cut (fun(j:(Nat))=>[(1,v2),(5,so.v),(6,.int .i64 (i:Int)),(7,.pointer (some ⟨aK,0,none⟩)),(8,.int .i64 (j:Int))])
     (fun(j:(Nat)) (H:Heap)=>(j≤A.length)∧(∀q (h:q<A.length),q<j→blt A[q].k.1 y.k.1)∧(∀h:j<A.length,¬blt A[j].k.1 y.k.1)∧aq bR H) (fun _ cG _=>?_) ?_
    ·
     have a1:aq bR bR:=W.refl _ _;refine G.aD (fun _ cH _=>?_)
     refine G.bc (fun(j:(Nat))=>[(1,v2),(5,so.v),(6,.int .i64 (i:Int)),(7,.pointer (some ⟨aK,0,none⟩)),(8,.int .i64 (j:Int))])
      (fun(j:(Nat)) (H:Heap)=>(j≤A.length)∧(∀q (h:q<A.length),q<j→blt A[q].k.1 y.k.1)∧aq bR H)
      (fun(j:(Nat))=>A.length-j) 0 ⟨rfl,rfl,rfl,rfl,rfl,trivial⟩ ?_ ?_
     ·
      exact⟨(by omega),(fun q h V=>absurd V (Nat.not_lt_zero _)),W.refl _ _⟩
     intro j fX cB fY eN cJ;obtain⟨dp,bb,aL⟩:=cB;have B:=B.N aL;have ak:=ak.N aL;have a1:=a1.L aL;have fx:=aL.size;refine G.t2 (fun eP cO=>G.t1 (fun cP=>?_));refine G.jq 12 rfl (by kernel_rfl) (fun fi dm=>?_);refine o.az 2 ?_;refine o.v1 (bf B.rd cA) ?_;refine o.v1 bH ?_;refine o.aa ?_;refine o.bp (d:=43) rfl (fun eo=>?_) (fun eo=>?_)
     ·
      refine o.az 2 ?_;have ba:j<A.length:=by omega
      obtain⟨z,a8⟩:∃q,q=A[j]:=⟨_,rfl⟩;refine o.ar (il B (j) cA cr (by first|omega|(simp;omega)|(simp;done))) ?_;refine o.ar (Y.fieldAddr (B.O (j:=j) (by first|omega|(simp;omega)|(simp;done))) rfl fr rfl rfl bd (by decide) rfl) ?_;refine o.ar (Y.cast (v2:=bs z.k) (a_ (((B.O (j:=j) (by first|omega|(simp;omega)|(simp;done))).drop 0).take 32) cj bd (by rw[fa];exact bC _)) ((by rw[a8];exact cn (fa _)))) ?_;refine o.ar (Y.an ak.O rfl fr rfl bd) ?_;refine o.ar (Y.cast (v2:=bs y.k) (a_ (ak.O.take 32) cj bd (by rw[show(bQ (⟨y.k,ae,y.d⟩:bu)).take 32=bX y.k from fa _];exact bC _)) ((cn (show(bQ (⟨y.k,ae,y.d⟩:bu)).take 32=bX y.k from fa _)))) ?_;refine o.nil (dm _ ?_);refine o.call rfl AK rfl bo rfl rfl (F1 z.k y.k w0 _) (fun fG fH eM=>?_);obtain⟨rfl,bZ⟩:=eM;have a1:=a1.L bZ;have aL:=aL.L bZ;have fO:=bZ.size;refine o.O ?_;refine o.nil (cP ?_);refine cL (fun b3=>?_) (fun b3=>?_)
      ·
       refine G.skip (eP (G.aD (fun eR _ _=>G.region ?_)));refine o.aa ?_;refine o.v1 bD ?_;refine o.al ?_;refine eR ?_;refine aR.sub (eN (j+1) _ ?_ ?_) ⟨rfl,rfl,(aF (by omega)),rfl,(aF (by omega)),trivial⟩
       ·exact⟨(by omega),rR bb ba (by rw[←a8];exact b3),aL⟩
       ·first|omega|(simp only;omega)|(simp;omega)
      ·
       refine G.exit (cO (cJ (cH ?_)));refine aR.sub (cG j _ ?_) ⟨rfl,rfl,(aF (by omega)),rfl,(aF (by omega)),trivial⟩;exact⟨(by omega),bb,(fun _=>by rw[←a8];unfold blt;simpa using b3),a1⟩
     ·
      refine o.az 7 ?_;refine o.nil (dm _ ?_);refine o.az 2 ?_;refine o.nil (cP ?_);refine dK ?_;refine G.exit (cO (cJ (cH ?_)));refine aR.sub (cG j _ ?_) ⟨rfl,rfl,(aF (by omega)),rfl,(aF (by omega)),trivial⟩;exact⟨(by omega),bb,(fun h=>absurd h (by omega)),a1⟩
    ·
     intro j cE ee;obtain⟨dp,bb,b8,aZ⟩:=ee;have B:=B.N aZ;have Q:=fun x az=>(Q x az).N aZ;have ak:=ak.N aZ;have k:=k.N aZ;have L:=L.a8 aZ;have bj:=aZ.size;refine G.t2 (fun ce eS=>G.t1 (fun eT=>?_));refine ik ?_;refine o.az 2 ?_;refine o.v1 (bf B.rd cA) ?_;refine o.v1 bH ?_;refine o.aa ?_;refine o.join (d:=68) (v:= .bool (decide ((A[j]?.map (·.k))=some y.k))) 9 (fun cc=>?_) ?_
     ·
      refine o.bp (d:=59) rfl (fun dR=>?_) (fun dR=>?_)
      ·
       refine o.az 2 ?_;have ba:j<A.length:=by omega
       obtain⟨z,a8⟩:∃q,q=A[j]:=⟨_,rfl⟩;refine o.ar (il B (j) cA cr (by first|omega|(simp;omega)|(simp;done))) ?_;refine o.ar (Y.fieldAddr (B.O (j:=j) (by first|omega|(simp;omega)|(simp;done))) rfl fr rfl rfl bd (by decide) rfl) ?_;refine o.ar (Y.cast (v2:=bs z.k) (a_ (((B.O (j:=j) (by first|omega|(simp;omega)|(simp;done))).drop 0).take 32) cj bd (by rw[fa];exact bC _)) ((by rw[a8];exact cn (fa _)))) ?_;refine o.ar (Y.an ak.O rfl fr rfl bd) ?_;refine o.ar (Y.cast (v2:=bs y.k) (a_ (ak.O.take 32) cj bd (by rw[show(bQ (⟨y.k,ae,y.d⟩:bu)).take 32=bX y.k from fa _];exact bC _)) ((cn (show(bQ (⟨y.k,ae,y.d⟩:bu)).take 32=bX y.k from fa _)))) ?_;refine o.ar (Y.ka rfl Tryz.eqGuardType26 (fun w=>gR 9998 Tryz.underlying26 Tryz.underlying5 cK ed (z.k.2) (y.k.2) w) rfl rfl) ?_;refine o.O ?_;exact cc _ (congrArg (fun b=>some (Value.bool b)) (decide_eq_decide.2 (by rw[List.getElem?_eq_getElem ba,Option.map_some,Option.some_inj,←a8];exact⟨fun e=>Subtype.ext e,fun e=>congrArg Subtype.val e⟩))) (ai (ai (ai (ai (ai (ai (ai (ai (ai (bL (congrArg Value.bool (decide_eq_true dR).symm)))))))))))
      ·
       refine o.az 9 ?_;exact cc _ (congrArg (fun b=>some (Value.bool b)) (by rw[List.getElem?_eq_none (by omega)];simp)) (ai (ai (ai (ai (ai (ai (ai (ai (ai (bL (congrArg Value.bool (decide_eq_false dR).symm)))))))))))
     refine o.nil (eT ?_);refine aW (fun bt=>?_) (fun bt=>?_)
     ·
      obtain⟨z9,c3,df⟩:=Option.map_eq_some_iff.1 bt;obtain⟨ba,rfl⟩:=List.getElem?_eq_some_iff.1 c3;have e5:A[j].k=y.k:=df;refine G.L (fun ci=>?_);refine o.az 2 ?_;refine o.v1 (a_ ak.O iu cr (di _)) ?_;refine o.v1 (il B (j) cA cr (by first|omega|(simp;omega)|(simp;done))) ?_;refine o.s1 (S.qU B j 0 (⟨y.k,ae,y.d⟩:bu) (bQ (⟨y.k,ae,y.d⟩:bu)) rfl rfl rfl rfl (hr _) cr (di _) ba (by decide) (dJ (by rw[di,di])).symm) fun fy dL=>?_;obtain⟨B,aw⟩:=dL;have aw:=aw.md;have Q:=fun x az=>(Q x az).ae aw (ay.I dh);have k:=k.ae aw (ag.I cC.symm);have L:=L.aL aw (ah.I (ao.r cQ));have dW:=aw.size;refine o.nil (ci ?_);refine G.exit (eS (dU ?_));refine da (G.region ?_);refine o.aa ?_;refine o.v1 bD ?_;refine o.al ?_;refine aR.sub (cZ (i+1,so,aH,A.set j (⟨y.k,ae,y.d⟩:bu),fun b=>aQ b∨b+1=aC) _ ?_ ?_) ⟨rfl,rfl,(aF (by omega)),trivial⟩
      ·exact⟨(by omega),B,yu j Q (fun b e=> .inl e) (k.rd.imp (fun b _ e=> .inr e)),bk.dx (bn.mono (by omega)) k.le,ax.dx (dh) (cC),(fun b e=>e.elim (b5 b) (fun e=>Or.inr (by have bN:=(cD);unfold U at bN;omega))),by rw[pQ bE,←a7,←bF];exact vG (x:=(⟨y.k,ae,y.d⟩:bu)) bb ba e5,cQ,L⟩
      ·first|omega|(simp only;omega)|(simp;omega)
     ·
      refine G.skip (ce (G.L (fun eU=>?_)));have b7:∀h:j<A.length,¬blt A[j].k.1 y.k.1∧¬A[j].k=y.k:=fun h=>⟨b8 h,fun e=>bt (by rw[List.getElem?_eq_getElem h,Option.map_some,e])⟩;refine o.al ?_;refine eU (G.L (fun eV=>?_));refine o.az 3 ?_;refine o.aN (g:=fun v=>v) (Y.slice B.rd (0) (j) rfl cA cr rfl (.inl ⟨rfl,rfl⟩) (.inr ⟨_,_,_,rfl,rfl,by first|rfl|omega⟩) (by omega) (by omega)) fun fI fe=>?_;have e9:aU 0 68 cE bQ 33 (.slice none 0 0) []:=aU.nil di hr;refine o.aS (eg e9 fe iz (by simp;omega) (by simp;omega)) fun fJ dd eZ=>?_;obtain⟨bx,on,aT,aJ⟩:=eZ;have aT:U 0 cE.size bx:=aT;have aJ:=aJ.md;have dM:af aH bx:=af.app (af.z) B.le aT;have a0:=ax.app (ax.z) (bn.mono (by omega)) aT;have cg:af aC bx:=af.app (af.z) k.le aT;have a2:U 0 bz.size bx:=U.L (U.refl 0 _) aT L.size;have B:=B.ae aJ (ag.I af.z);have Q:=fun x az=>(Q x az).ae aJ (ay.I ax.z);have ak:=ak.ae aJ (ag.I af.z);have k:=k.ae aJ (ag.I af.z);have L:=L.aL aJ (ah.cons ao.z ah.nil);have gB:=aJ.size;have ck:=on.le;have b7:∀h:j<A.length,¬blt A[j].k.1 y.k.1∧¬A[j].k=y.k:=fun h=>⟨b8 h,fun e=>bt (by rw[List.getElem?_eq_getElem h,Option.map_some,e])⟩;refine o.al ?_;refine eV (G.L (fun eW=>?_));refine o.aa ?_;refine o.v1 (a_ ak.O iu cr (di _)) ?_;refine o.aS (cS _ ([(⟨y.k,ae,y.d⟩:bu)]) iz di hr (rfl)) fun fK c5 e0=>?_;obtain⟨fc,aV,fP,eX⟩:=e0;have fz:c5.size=dd.size+1:=by rw[eX];simp
      have B:=B.N aV;have Q:=fun x az=>(Q x az).N aV;have k:=k.N aV;have on:=on.N aV;have L:=L.a8 aV;have fQ:=aV.size;refine o.aS (eg on fc.rd iz (by simp;omega) (by simp;omega)) fun fL e1 e2=>?_;obtain⟨bU,on,bl,aM⟩:=e2;have bl:U bx c5.size bU:=bl;have aM:=aM.md;have a3:=ax.app (a0) (bn.mono (by omega)) bl;have a4:af aC bU:=af.app (cg) k.le bl;have a5:U 0 bz.size bU:=U.L (a2) bl L.size;have B:=B.ae aM (ag.I dM);have Q:=fun x az=>(Q x az).ae aM (ay.I a0);have k:=k.ae aM (ag.I cg);have L:=L.aL aM (ah.I (ao.q a2));have dl:=aM.size;have ck:=on.le;have b7:∀h:j<A.length,¬blt A[j].k.1 y.k.1∧¬A[j].k=y.k:=fun h=>⟨b8 h,fun e=>bt (by rw[List.getElem?_eq_getElem h,Option.map_some,e])⟩;refine o.al ?_;refine eW (G.region ?_);refine o.az 3 ?_;refine o.aN (g:=fun v=>v) (Y.slice B.rd (j) (A.length) rfl cA cr rfl (.inr ⟨_,_,_,rfl,rfl,by first|rfl|omega⟩) (.inl ⟨rfl,rfl⟩) (by omega) (by omega)) fun fM ff=>?_;refine o.aS (eg on ff iz (by simp;omega) (by simp;omega)) fun c6 fN cy=>?_;obtain⟨bV,on,bm,aX⟩:=cy;have bm:U bU e1.size bV:=bm;have aX:=aX.md;have dN:=ax.app (a3) (bn.mono (by omega)) bm;have dO:af aC bV:=af.app (a4) k.le bm;have dP:U 0 bz.size bV:=U.L (a5) bm L.size;have Q:=fun x az=>(Q x az).ae aX (ay.I a3);have k:=k.ae aX (ag.I a4);have L:=L.aL aX (ah.I (ao.q a5));have dn:=aX.size;have ck:=on.le;rw[List.nil_append,List.drop_zero,List.take_length]at on;obtain⟨e3,rfl⟩:∃s:aO,c6=s.v:=⟨cm c6,on.bm.symm⟩;refine o.al ?_;refine dT (da (G.region ?_));refine o.aa ?_;refine o.v1 bD ?_;refine o.al ?_;refine aR.sub (cZ (i+1,e3,bV,A.take j++[(⟨y.k,ae,y.d⟩:bu)]++A.drop j,fun b=>aQ b∨b+1=aC) _ ?_ ?_) ⟨rfl,rfl,(aF (by omega)),trivial⟩
      ·exact⟨(by omega),on,Dt j Q (fun b e=> .inl e) (k.rd.imp (fun b _ e=> .inr e)),bk.dx (bn.mono (by omega)) k.le,ax.dx (dN) (dO.symm),(fun b e=>e.elim (b5 b) (fun e=>Or.inr (by have bN:=(cD);unfold U at bN;omega))),by rw[pQ bE,←a7,←bF];exact FM (x:=(⟨y.k,ae,y.d⟩:bu)) bb dp b7,(U.z (dP)),L⟩
      ·first|omega|(simp only;omega)|(simp;omega)
 ·
  have bE:i=m.length:=by omega
  rw[bE,List.take_length]at bF;refine G.exit (eJ (eG (eE ?_)));refine eC (G.L (fun eY=>?_));refine o.aP 2 ?_;refine eY ?_;refine G.ret (e7 ?_);exact⟨so,A,_,rfl,(fun _=>((B.rd.imp (fun b _ e=>Or.inr (by have bN:=(dS);unfold U at bN;omega)):Rd (fun b=>F b∨J.size≤b) _ bQ 33 so.v A)).b2),(fun b e=>e.2),(fun x h=>(((Q x h).imp (fun b _ e=>b5 b e):Rd (fun b=>F b∨J.size≤b) _ a6 1 x.v.v x.d)).b2),(fun b e=>e.2),(fun b e=>e.1),bF,N⟩
end kZ

namespace m3
open E Go.RowKit eY fm fw fA ez eZ e0 fI fJ fQ gb eL gL gM kZ dm
set_option maxRecDepth 100000 in
theorem de:c3 Tryz.prog 57 5 1 1:=⟨Tryz.underlying57,_,_,rfl,rfl,rfl,rfl,rfl⟩
theorem ES:cd 1 1=[1]:=by decide+kernel
theorem ER:cd 1 0=[0]:=by decide+kernel
theorem nT(k:Nat)(s:aO)(xs:List UInt8)(i:cw)(w0:World)(J:Heap)
 (d:aU k 5 J a6 1 s.v xs) (bd:xs.length≤1099511627776):
 aG Tryz.prog w0 121 #[s.v,bs i] J (fun r N=>∃s2:aO,∃a7:Nat,r=s2.v∧(aU a7 5 N a6 1 s2.v (xs++i.1))∧(U k J.size a7)∧W (aB [k]) J N):=by
 refine aG.aN [s.v,bs i] Tryz.func121 ?_;intro aQ aL;have x:W (aB [k]) J J:=W.refl _ _;have O:=U.refl k J.size;have ac:=d.le;have bb:=i.2;refine G.L (fun aC=>?_);refine o.aS cY ?_;rintro v3 B ⟨rfl,A,L,aT,aD⟩;have ba:B.size=J.size+1:=by rw[aD];simp
 have aH:af k (J.size+1):=af.new d.le;have d:=d.N L;have x:=x.a8 L;have aV:=L.size;have A:Var 26 B J.size (bX i):=A;refine o.al ?_;refine aC (G.t1 (fun aI=>G.L (fun aJ=>?_)));refine o.al ?_;refine aJ (G.aD (fun _ aK _=>?_))
 refine G.bc (fun(aN:(Nat)×(aO)×(Nat)×(List UInt8))=>match aN with|(j,s1,q,ys)=>[(0,s1.v),(3,.pointer (some ⟨J.size,0,none⟩)),(5,.int .i64 (j:Int))])
  (fun(j,s1,q,ys) (H:Heap)=>(j≤32)∧(aU q 5 H a6 1 s1.v ys)∧(ys=xs++i.1.take j)∧(U k B.size q)∧W (aB [k]) B H)
  (fun(j,s1,q,ys)=>32-j) (0,s,k,xs) ⟨rfl,rfl,rfl,trivial⟩ ?_ ?_
 ·
  exact⟨(by omega),d,(by simp),U.refl _ _,W.refl _ _⟩
 rintro⟨j,s1,q,ys⟩ R S aP T X;obtain⟨bc,d,E,ad,n⟩:=S;have Y:U k J.size q:=U.L (O) ad x.size;have A:=A.ae n (ag.I aH.symm);have x:=x.aL n (ah.I (ao.r O));have aX:=n.size;have ac:=d.le;have am:=ad;have bf:ys.length≤xs.length+32:=by rw[E,List.length_append,List.length_take];omega
 refine G.t2 (fun Z aa=>G.L (fun ab=>?_));refine o.aa ?_;refine o.v1 bH (o.nil (ab ?_));refine aW (fun cB=>?_) (fun cB=>?_)
 ·
  refine G.skip (Z (G.t1 (fun ae=>G.aD (fun ai _ _=>G.region ?_))));refine o.az 2 ?_;refine o.v1 (eH A.O (j) j2 cK) ?_;refine o.v1 (au (A.O.at (j) (nk i j (by omega))) ed) ?_;refine o.aS (cS _ ([i.1.getD j 0]) de et fB (rfl)) fun aZ P al=>?_;obtain⟨aM,F,aS,ay⟩:=al;have ap:P.size=R.size+1:=by rw[ay];simp
  have d:=d.N F;have n:=n.a8 F;have a1:=F.size;refine o.aS (eg d aM.rd de (by simp;omega) (by simp;omega)) fun Q a8 an=>?_;obtain⟨M,d,K,C⟩:=an;have K:U q P.size M:=K;have C:=C.md;have az:U k B.size M:=U.L (am) K n.size;have n:=n.aL C (ah.I (ao.r am));have a_:=C.size;have ac:=d.le;obtain⟨ar,rfl⟩:∃s:aO,Q=s.v:=⟨cm Q,d.bm.symm⟩;refine o.al ?_;refine ai (ae (G.region ?_));refine o.aa ?_;refine o.v1 bD ?_;refine o.al ?_;refine aR.sub (T (j+1,ar,M,ys++[i.1.getD j 0]) _ ?_ ?_) ⟨rfl,rfl,(aF (by omega)),trivial⟩
  ·exact⟨(by omega),d,by rw[E,List.take_succ_eq_append_getElem (by omega),sq (l:=i.1) (j:=j) (by omega),List.append_assoc],az,n⟩
  ·first|omega|(simp only;omega)|(simp;omega)
 ·
  obtain rfl:j=32:=by omega
  rw[List.take_of_length_le (by omega)]at E;subst E;refine G.exit (aa (X (aK ?_)));refine aI (G.L (fun aw=>?_));refine o.aP 2 ?_;refine aw ?_;refine G.ret (aL ?_);exact⟨s1,q,rfl,d,Y,x⟩
theorem tJ(k:Nat)(s:aO)(xs t:List UInt8)(w0:World)(J:Heap)
 (d:aU k 5 J a6 1 s.v xs) (ab:xs.length≤549755813888) (aa:t.length≤255):
 aG Tryz.prog w0 119 #[s.v,.int .i64 1,aK t] J (fun r q=>∃s2:aO,∃a7:Nat,r= .tuple #[s2.v,.bool true]∧(aU a7 5 q a6 1 s2.v (xs++fF 1 t))∧(U k J.size a7)∧W (aB [k]) J q):=by
 refine aG.aN [s.v,.int .i64 1,aK t] Tryz.func119 ?_;intro R Q;have i:W (aB [k]) J J:=W.refl _ _;have x:=U.refl k J.size;have F:=d.le;refine G.L (fun aw=>?_);refine o.aP 2 ?_;refine aw (G.t1 (fun am=>G.L (fun K=>?_)));refine o.aa ?_;refine o.v1 ((bH).gD (by decide)) ?_;refine o.az 2 ?_;refine o.ar (fu dC) ?_;refine o.bJ ?_;refine o.ar (Y.cast (v2:= .int .i64 8) (Y.jo rfl rfl rfl (by decide)) (rfl)) ?_;refine o.ar (Y.cast (v2:= .int .i64 256) (Y.kP (8) rfl rfl rfl rfl (by decide) (by decide)) (rfl)) ?_;refine o.ar ((dq).fC (by omega)) ?_;refine o.O ?_;refine o.nil (K ?_);refine dK ?_;refine G.skip (am (G.L (fun ap=>?_)));refine o.az 3 ?_;refine o.v1 (fu dC) ?_;refine o.v1 (Y.hq rfl gk gV rfl) ?_;refine aV lO (dm.lX _ _ _ 1 _ w0 _ d (by decide) (by omega)) (fun j L M=>?_);obtain⟨j,B,rfl,d,H,A⟩:=M;have C:U k J.size B:=U.L (x) H i.size;have i:=i.aL A (ah.I (ao.r x));have S:=A.size;have F:=d.le;obtain⟨T,rfl⟩:∃s:aO,j=s.v:=⟨cm j,d.bm.symm⟩;refine o.aa ?_;refine o.aS (Z.pS d rfl de Tryz.underlying9 rfl rfl (by simp[dI];omega)) fun E X N=>?_;obtain⟨n,d,ac,ad⟩:=N;have ac:U B L.size n:=ac;have ad:=ad.md;have O:U k J.size n:=U.L (C) ac i.size;have i:=i.aL ad (ah.I (ao.r C));obtain⟨P,rfl⟩:∃s:aO,E=s.v:=⟨cm E,d.bm.symm⟩;refine o.aP 2 ?_;refine ap ?_;refine G.ret (Q ?_);exact⟨P,n,rfl,by rw[fF,←List.append_assoc];exact d,O,i⟩
theorem Ha(k:Nat)(s:aO)(xs t:List UInt8)(w0:World)(J:Heap)
 (d:aU k 5 J a6 1 s.v xs) (ab:xs.length≤549755813888) (aa:t.length≤65535):
 aG Tryz.prog w0 119 #[s.v,.int .i64 2,aK t] J (fun r q=>∃s2:aO,∃a7:Nat,r= .tuple #[s2.v,.bool true]∧(aU a7 5 q a6 1 s2.v (xs++fF 2 t))∧(U k J.size a7)∧W (aB [k]) J q):=by
 refine aG.aN [s.v,.int .i64 2,aK t] Tryz.func119 ?_;intro R Q;have i:W (aB [k]) J J:=W.refl _ _;have x:=U.refl k J.size;have F:=d.le;refine G.L (fun aw=>?_);refine o.aP 2 ?_;refine aw (G.t1 (fun am=>G.L (fun K=>?_)));refine o.aa ?_;refine o.v1 ((bH).gD (by decide)) ?_;refine o.az 2 ?_;refine o.ar (fu dC) ?_;refine o.bJ ?_;refine o.ar (Y.cast (v2:= .int .i64 16) (Y.jo rfl rfl rfl (by decide)) (rfl)) ?_;refine o.ar (Y.cast (v2:= .int .i64 65536) (Y.kP (16) rfl rfl rfl rfl (by decide) (by decide)) (rfl)) ?_;refine o.ar ((dq).fC (by omega)) ?_;refine o.O ?_;refine o.nil (K ?_);refine dK ?_;refine G.skip (am (G.L (fun ap=>?_)));refine o.az 3 ?_;refine o.v1 (fu dC) ?_;refine o.v1 (Y.hq rfl gk gV rfl) ?_;refine aV lO (dm.lX _ _ _ 2 _ w0 _ d (by decide) (by omega)) (fun j L M=>?_);obtain⟨j,B,rfl,d,H,A⟩:=M;have C:U k J.size B:=U.L (x) H i.size;have i:=i.aL A (ah.I (ao.r x));have S:=A.size;have F:=d.le;obtain⟨T,rfl⟩:∃s:aO,j=s.v:=⟨cm j,d.bm.symm⟩;refine o.aa ?_;refine o.aS (Z.pS d rfl de Tryz.underlying9 rfl rfl (by simp[dI];omega)) fun E X N=>?_;obtain⟨n,d,ac,ad⟩:=N;have ac:U B L.size n:=ac;have ad:=ad.md;have O:U k J.size n:=U.L (C) ac i.size;have i:=i.aL ad (ah.I (ao.r C));obtain⟨P,rfl⟩:∃s:aO,E=s.v:=⟨cm E,d.bm.symm⟩;refine o.aP 2 ?_;refine ap ?_;refine G.ret (Q ?_);exact⟨P,n,rfl,by rw[fF,←List.append_assoc];exact d,O,i⟩
theorem Hb(k:Nat)(s:aO)(xs t:List UInt8)(w0:World)(J:Heap)
 (d:aU k 5 J a6 1 s.v xs) (ab:xs.length≤549755813888) (aa:t.length≤549755813888):
 aG Tryz.prog w0 119 #[s.v,.int .i64 4,aK t] J (fun r q=>∃s2:aO,∃a7:Nat,r= .tuple #[s2.v,.bool true]∧(aU a7 5 q a6 1 s2.v (xs++fF 4 t))∧(U k J.size a7)∧W (aB [k]) J q):=by
 refine aG.aN [s.v,.int .i64 4,aK t] Tryz.func119 ?_;intro R Q;have i:W (aB [k]) J J:=W.refl _ _;have x:=U.refl k J.size;have F:=d.le;refine G.L (fun aw=>?_);refine o.aP 2 ?_;refine aw (G.t1 (fun am=>G.L (fun K=>?_)));refine o.aa ?_;refine o.v1 ((bH).fC (by decide)) ?_;refine o.az 8 ?_;refine o.nil (K ?_);refine dK ?_;refine G.skip (am (G.L (fun ap=>?_)));refine o.az 3 ?_;refine o.v1 (fu dC) ?_;refine o.v1 (Y.hq rfl gk gV rfl) ?_;refine aV lO (dm.lX _ _ _ 4 _ w0 _ d (by decide) (by omega)) (fun j L M=>?_);obtain⟨j,B,rfl,d,H,A⟩:=M;have C:U k J.size B:=U.L (x) H i.size;have i:=i.aL A (ah.I (ao.r x));have S:=A.size;have F:=d.le;obtain⟨T,rfl⟩:∃s:aO,j=s.v:=⟨cm j,d.bm.symm⟩;refine o.aa ?_;refine o.aS (Z.pS d rfl de Tryz.underlying9 rfl rfl (by simp[dI];omega)) fun E X N=>?_;obtain⟨n,d,ac,ad⟩:=N;have ac:U B L.size n:=ac;have ad:=ad.md;have O:U k J.size n:=U.L (C) ac i.size;have i:=i.aL ad (ah.I (ao.r C));obtain⟨P,rfl⟩:∃s:aO,E=s.v:=⟨cm E,d.bm.symm⟩;refine o.aP 2 ?_;refine ap ?_;refine G.ret (Q ?_);exact⟨P,n,rfl,by rw[fF,←List.append_assoc];exact d,O,i⟩
theorem xu(k:Nat)(s:aO)(xs:List UInt8)(x:Int)(w0:World)(J:Heap)
 (d:aU k 5 J a6 1 s.v xs) (P:xs.length≤549755813888) (O:0≤x∧x≤255):
 aG Tryz.prog w0 189 #[s.v,.int .i64 1,.int .i64 x] J (fun r j=>∃s2:aO,∃a7:Nat,r= .tuple #[s2.v,.bool true]∧(aU a7 5 j a6 1 s2.v (xs++cd 1 (UInt64.ofNat x.toNat)))∧(U k J.size a7)∧W (aB [k]) J j):=by
 refine aG.aN [s.v,.int .i64 1,.int .i64 x] Tryz.func189 ?_;intro L K;have i:W (aB [k]) J J:=W.refl _ _;have n:=U.refl k J.size;have M:=d.le;refine G.L (fun B=>?_);refine o.aP 2 ?_;refine B (G.t1 (fun C=>G.L (fun E=>?_)));refine o.aa ?_;refine o.v1 ((bH).fC (by omega)) ?_;refine o.az 3 ?_;refine o.ar (Y.cast (v2:= .int .i64 8) (Y.jo rfl rfl rfl (by decide)) (rfl)) ?_;refine o.ar (Y.cast (v2:= .int .i64 256) (Y.kP (8) rfl rfl rfl rfl (by decide) (by decide)) (rfl)) ?_;refine o.ar ((dq).fC (by omega)) ?_;refine o.dy ?_;refine o.nil (E ?_);refine dK ?_;refine G.skip (C (G.L (fun F=>?_)));refine o.az 2 ?_;refine o.v1 (Y.cast (v2:= .int .i64 ((x).toNat:Nat)) fl (fh (by omega))) ?_;refine o.v1 (Y.hq rfl gk gV rfl) ?_;refine aV lO (dm.lX _ _ _ 1 _ w0 _ d (by decide) (by omega)) (fun ac N H=>?_);obtain⟨ac,q,rfl,d,ad,A⟩:=H;have aw:U k J.size q:=U.L (n) ad i.size;have i:=i.aL A (ah.I (ao.r n));obtain⟨am,rfl⟩:∃s:aO,ac=s.v:=⟨cm ac,d.bm.symm⟩;refine o.aP 2 ?_;refine F ?_;refine G.ret (K ?_);exact⟨am,q,rfl,d,aw,i⟩
theorem xv(k:Nat)(s:aO)(xs:List UInt8)(x:Int)(w0:World)(J:Heap)
 (d:aU k 5 J a6 1 s.v xs) (P:xs.length≤549755813888) (O:0≤x∧x≤65535):
 aG Tryz.prog w0 189 #[s.v,.int .i64 2,.int .i64 x] J (fun r j=>∃s2:aO,∃a7:Nat,r= .tuple #[s2.v,.bool true]∧(aU a7 5 j a6 1 s2.v (xs++cd 2 (UInt64.ofNat x.toNat)))∧(U k J.size a7)∧W (aB [k]) J j):=by
 refine aG.aN [s.v,.int .i64 2,.int .i64 x] Tryz.func189 ?_;intro L K;have i:W (aB [k]) J J:=W.refl _ _;have n:=U.refl k J.size;have M:=d.le;refine G.L (fun B=>?_);refine o.aP 2 ?_;refine B (G.t1 (fun C=>G.L (fun E=>?_)));refine o.aa ?_;refine o.v1 ((bH).fC (by omega)) ?_;refine o.az 3 ?_;refine o.ar (Y.cast (v2:= .int .i64 16) (Y.jo rfl rfl rfl (by decide)) (rfl)) ?_;refine o.ar (Y.cast (v2:= .int .i64 65536) (Y.kP (16) rfl rfl rfl rfl (by decide) (by decide)) (rfl)) ?_;refine o.ar ((dq).fC (by omega)) ?_;refine o.dy ?_;refine o.nil (E ?_);refine dK ?_;refine G.skip (C (G.L (fun F=>?_)));refine o.az 2 ?_;refine o.v1 (Y.cast (v2:= .int .i64 ((x).toNat:Nat)) fl (fh (by omega))) ?_;refine o.v1 (Y.hq rfl gk gV rfl) ?_;refine aV lO (dm.lX _ _ _ 2 _ w0 _ d (by decide) (by omega)) (fun ac N H=>?_);obtain⟨ac,q,rfl,d,ad,A⟩:=H;have aw:U k J.size q:=U.L (n) ad i.size;have i:=i.aL A (ah.I (ao.r n));obtain⟨am,rfl⟩:∃s:aO,ac=s.v:=⟨cm ac,d.bm.symm⟩;refine o.aP 2 ?_;refine F ?_;refine G.ret (K ?_);exact⟨am,q,rfl,d,aw,i⟩
set_option maxHeartbeats 1600000 in
theorem Gp(k:Nat)(s:aO)(xs:List UInt8)(x:c5)(F:Nat→Prop)(w0:World)(J:Heap)
 (d:aU k 5 J a6 1 s.v xs) (e6:xs.length≤274877906944) (A:Rd F J dF 33 x.cf.v x.ba) (R:bk F J.size) (f2:ax F k) (aN:0≤x.k∧x.k≤255) (dT:x.k≠0→n6 x):
 aG Tryz.prog w0 122 #[s.v,gu x] J (fun r bo=>∃s2:aO,∃a7:Nat,r= .tuple #[s2.v,.bool true]∧(aU a7 5 bo a6 1 s2.v (xs++j0 x))∧(U k J.size a7)∧W (aB [k]) J bo):=by
 refine aG.aN [s.v,gu x] Tryz.func122 ?_;intro dY bn;have q:W (aB [k]) J J:=W.refl _ _;have ac:=U.refl k J.size;have C:=d.le;have e3:=A.len;refine G.L (fun b9=>?_);refine o.aS cY ?_;rintro v3 bp ⟨rfl,j,ae,eD,ca⟩;have ed:bp.size=J.size+1:=by rw[ca];simp
 have bY:af k (J.size+1):=af.new d.le;have d:=d.N ae;have A:=A.N ae;have q:=q.a8 ae;have eE:=ae.size;have j:Var 29 bp J.size (eC x):=j;refine o.aP 2 ?_;refine b9 (G.L (fun cc=>?_));refine o.aa ?_;refine o.v1 (Y.an j.O rfl bN rfl b6) ?_;refine o.v1 (au j.O cE) ?_;refine aV p0 (xu _ _ _ x.k w0 _ d (by omega) aN) (fun eF eH cJ=>?_);have dk:=j.lt;obtain⟨dp,aZ,rfl,d,a1,ar⟩:=cJ;have bZ:=ax.app (f2) (R.mono q.size) a1;have b0:af (J.size+1) aZ:=af.app (bY.symm) dk a1;have bl:U k J.size aZ:=U.L (ac) a1 q.size;have A:=A.ae ar (ay.I f2);have j:=j.ae ar (ag.I bY.symm);have q:=q.aL ar (ah.I (ao.r ac));have eI:=ar.size;have C:=d.le;refine o.aa ?_;refine o.v1 cF ?_;refine o.v1 cF ?_;refine o.aP 2 ?_;refine cc (G.t2 (fun dq dr=>G.L (fun ce=>?_)));refine o.aa ?_;refine o.v1 eG ?_;refine o.aa ?_;refine o.ar (Y.an j.O rfl bN rfl b6) ?_;refine o.ar (au j.O cE) ?_;refine o.ar cb ?_;refine o.dy ?_;refine o.nil (ce ?_);refine aW (fun dt=>?_) (fun dt=>?_)
 ·
  have S:x.k=0:=by omega
  refine G.L (fun dw=>?_);refine o.aP 4 ?_;refine dw ?_;refine G.ret (dr (bn ?_));exact⟨dp,aZ,rfl,by rw[tC S];exact d,bl,q⟩
 ·
  have S:x.k≠0:=by omega
  have he:=dT S;have e0:=he.br;have e1:=he.ba;have dP:=he.dn;have dQ:=he.md;refine G.skip (dq (G.L (fun dR=>?_)));refine o.aa ?_;refine o.v1 (Y.an j.O rfl bN rfl bV) ?_;refine o.v1 (au (j.O.drop 1) bR) ?_;refine aV oD (tJ _ _ _ x.br w0 _ d (by simp only[List.length_append,dI,ha,x.cc.2,x.bw.2];omega) (by omega)) (fun eJ X ci=>?_);have cK:=j.lt;obtain⟨eK,O,rfl,d,a8,az⟩:=ci;have bu:=ax.app (bZ) (R.mono q.size) a8;have P:af (J.size+1) O:=af.app (b0) cK a8;have bw:U k J.size O:=U.L (bl) a8 q.size;have A:=A.ae az (ay.I bZ);have j:=j.ae az (ag.I b0);have q:=q.aL az (ah.I (ao.r bl));have eL:=az.size;have C:=d.le;refine o.aa ?_;refine o.v1 cF ?_;refine o.v1 cF ?_;refine o.al ?_;refine dR (G.t1 (fun dx=>?_));refine dg (fun N=>W (aB [O]) X N) [] ?_;have B:W (aB [O]) X X:=W.refl _ _;have bx:=U.refl O X.size;refine T.aa 0 rfl B ?_;refine T.t1 1 rfl (fun N K=>Y.fieldAddr (j.ae K (ag.I P)).O rfl bN rfl rfl bd (by decide) rfl) B ?_;refine T.t1 2 rfl (fun N K=>Y.cast (v2:=bs x.cc) (a_ (((j.ae K (ag.I P)).O.drop 2).take 32) cj bd (by rw[jJ];exact bC _)) (cn (jJ _))) B ?_;refine T.t1 4 rfl (fun N K=>Y.fieldAddr (j.ae K (ag.I P)).O rfl bN rfl rfl bd (by decide) rfl) B ?_;refine T.t1 5 rfl (fun N K=>Y.cast (v2:=bs x.bw) (a_ (((j.ae K (ag.I P)).O.drop 34).take 32) cj bd (by rw[jI];exact bC _)) (cn (jI _))) B ?_;refine T.aX 3 ?_;refine b7 ng (nT _ _ _ x.cc w0 _ d (by simp only[List.length_append,dI,ha,x.cc.2,x.bw.2];omega)) (fun eM ai dy=>?_);have cO:=j.lt;obtain⟨eN,Q,rfl,d,aw,Z⟩:=dy;have bz:=ax.app (bu) (R.mono q.size) aw;have bA:af (J.size+1) Q:=af.app (P) cO aw;have bB:U k J.size Q:=U.L (bw) aw q.size;have bT:U O X.size Q:=U.L (bx) aw B.size;have A:=A.ae Z (ay.I bu);have j:=j.ae Z (ag.I P);have q:=q.aL Z (ah.I (ao.r bw));have B:=B.aL Z (ah.I (ao.r bx));have ee:=Z.size;have C:=d.le;refine T.bZ B (ah.I (ao.r bT)) ?_;have B:W (aB [Q]) ai ai:=W.refl _ _;have bE:=U.refl Q ai.size;refine T.aX 6 ?_;refine b7 ng (nT _ _ _ x.bw w0 _ d (by simp only[List.length_append,dI,ha,x.cc.2,x.bw.2];omega)) (fun ef be dA=>?_);have b5:=j.lt;obtain⟨eh,al,rfl,d,am,aa⟩:=dA;have bF:=ax.app (bz) (R.mono q.size) am;have bJ:af (J.size+1) al:=af.app (bA) b5 am;have bK:U k J.size al:=U.L (bB) am q.size;have cP:U Q ai.size al:=U.L (bE) am B.size;have A:=A.ae aa (ay.I bz);have j:=j.ae aa (ag.I bA);have q:=q.aL aa (ah.I (ao.r bB));have B:=B.aL aa (ah.I (ao.r bE));have du:=aa.size;have C:=d.le;refine T.bZ B (ah.I (ao.r cP)) ?_;have B:W (aB [al]) be be:=W.refl _ _;refine T.t1 7 rfl (fun N K=>e5) B ?_;refine cI ?_;refine dx (G.L (fun dB=>?_));refine o.aa ?_;refine o.v1 (Y.an j.O rfl bN rfl e4) ?_;refine o.v1 (au j.O.gr fU) ?_;refine o.v1 (bf A fZ) ?_;refine o.v1 (Y.hq rfl gk gV rfl) ?_;refine aV lO (dm.lX _ _ _ 2 _ w0 _ d (by decide) (by simp only[List.length_append,dI,ha,x.cc.2,x.bw.2];omega)) (fun bm a9 dC=>?_);have bi:=j.lt;obtain⟨bm,L,rfl,d,ba,aC⟩:=dC;have bL:=ax.app (bF) (R.mono q.size) ba;have bM:af (J.size+1) L:=af.app (bJ) bi ba;have bO:U k J.size L:=U.L (bK) ba q.size;have A:=A.ae aC (ay.I bF);have j:=j.ae aC (ag.I bJ);have q:=q.aL aC (ah.I (ao.r bK));have ei:=aC.size;have C:=d.le;obtain⟨co,rfl⟩:∃s:aO,bm=s.v:=⟨cm bm,d.bm.symm⟩;refine o.al ?_;refine dB (G.t1 (fun dG=>G.L (fun cQ=>?_)));refine o.al ?_;refine cQ (G.aD (fun _ aD _=>?_))
  refine G.bc (fun(dX:(Nat)×(aO)×(Nat)×(List UInt8))=>match dX with|(i,s1,M,ys)=>[(0,s1.v),(3,.pointer (some ⟨J.size,0,none⟩)),(6,.bool true),(7,.int .i64 (i:Int))])
   (fun(i,s1,M,ys) (H:Heap)=>(i≤x.ba.length)∧(aU M 5 H a6 1 s1.v ys)∧(ys=xs++cd 1 (UInt64.ofNat x.k.toNat)++fF 1 x.br++x.cc.1++x.bw.1++cd 2 (UInt64.ofNat x.ba.length)++(x.ba.take i).flatMap j1)∧(U L a9.size M)∧W (aB [L]) a9 H)
   (fun(i,s1,M,ys)=>x.ba.length-i) (0,co,L,xs++cd 1 (UInt64.ofNat x.k.toNat)++fF 1 x.br++x.cc.1++x.bw.1++cd 2 (UInt64.ofNat x.ba.length)) ⟨rfl,rfl,rfl,rfl,trivial⟩ ?_ ?_
  ·
   exact⟨(by omega),d,(by simp),U.refl _ _,W.refl _ _⟩
  rintro⟨i,s1,M,ys⟩ ej dH ek cR cV;obtain⟨e2,d,ab,an,E⟩:=dH;have cW:=ax.app (bL) (R.mono q.size) an;have aL:af (J.size+1) M:=af.app (bM) j.lt an;have bP:U k J.size M:=U.L (bO) an q.size;have A:=A.ae E (ay.I bL);have j:=j.ae E (ag.I bM);have q:=q.aL E (ah.I (ao.r bO));have cB:=E.size;have C:=d.le;have a0:=an;have e7:ys.length≤xs.length+3000000:=by have K:=mA (f:=j1) (n:=33) (l:=x.ba.take i) (fun x _=>by rw[rb];omega);rw[List.length_take]at K;rw[ab];simp only[List.length_append,dI,ha,x.cc.2,x.bw.2];omega
  refine G.t2 (fun cX c0=>G.L (fun c1=>?_));refine o.aa ?_;refine o.v1 (Y.an j.O rfl bN rfl e4) ?_;refine o.v1 (au j.O.gr fU) ?_;refine o.v1 (bf A fZ) ?_;refine o.v1 bH (o.nil (c1 ?_));refine aW (fun dJ=>?_) (fun dJ=>?_)
  ·
   refine G.skip (cX (G.t1 (fun c2=>G.aD (fun c3 _ _=>G.L (fun c6=>?_)))));refine o.aa ?_;refine o.v1 (Y.an j.O rfl bN rfl e4) ?_;refine o.v1 (au j.O.gr fU) ?_;refine o.aa ?_;have b8:i<x.ba.length:=by omega
   obtain⟨t,aK⟩:∃t,t=x.ba[i]:=⟨_,rfl⟩;have dS:=he.dd t (by rw[aK];exact List.getElem_mem b8);refine o.b1 (Y.bU A (i) rfl fZ hQ rfl rfl) fun cs a2=>?_;refine o.v1 (Y.an a2.O rfl jt rfl b6) ?_;refine o.v1 (Y.cast (v2:= .int .i64 t.d) (au (a2.O.drop 0) cE) (by rw[aK])) ?_;refine aV p0 (xu _ _ _ t.d w0 _ d (by omega) dS) (fun eo ep dL=>?_);obtain⟨eP,cZ,rfl,d,bv,ap⟩:=dL;have a3:U L a9.size cZ:=U.L (a0) bv E.size;have A:=A.ae ap (ay.I cW);have j:=j.ae ap (ag.I aL);have E:=E.aL ap (ah.I (ao.r a0));have eS:=ap.size;have C:=d.le;refine o.aa ?_;refine o.v1 cF ?_;refine o.v1 cF ?_;refine o.aP 2 ?_;refine c6 (G.t1 (fun c7=>G.L (fun c8=>?_)));refine o.aa ?_;refine o.v1 eG (o.nil (c8 ?_));refine dK ?_;refine G.skip (c7 (G.region ?_));refine o.aa ?_;refine o.v1 (Y.an j.O rfl bN rfl e4) ?_;refine o.v1 (au j.O.gr fU) ?_;refine o.aa ?_;refine o.b1 (Y.bU A (i) rfl fZ hQ rfl rfl) fun eR a4=>?_;refine o.v1 (Y.an a4.O rfl jt rfl bd) ?_;refine o.v1 (Y.cast (v2:=bs t.i) (a_ ((a4.O.drop 1).take 32) cj bd (by rw[kD];exact bC _)) ((by rw[aK];exact cn (kD _)))) ?_;refine aV ng (nT _ _ _ t.i w0 _ d (by rw[List.length_append,dI];omega)) (fun bj dW dM=>?_);obtain⟨dN,b1,rfl,d,c9,a5⟩:=dM;have cf:U L a9.size b1:=U.L (a3) c9 E.size;have E:=E.aL a5 (ah.I (ao.r a3));have eT:=a5.size;have C:=d.le;refine o.al ?_;refine c3 (c2 (G.region ?_));refine o.aa ?_;refine o.v1 bD ?_;refine o.al ?_;refine aR.sub (cR (i+1,dN,b1,ys++cd 1 (UInt64.ofNat t.d.toNat)++t.i.1) _ ?_ ?_) ⟨rfl,rfl,rfl,(aF (by omega)),trivial⟩
   ·exact⟨(by omega),d,(by rw[nz b8,←aK,ab,j1];simp only[List.append_assoc]),cf,E⟩
   ·first|omega|(simp only;omega)|(simp;omega)
  ·
   obtain rfl:i=x.ba.length:=by omega
   rw[List.take_length]at ab;refine G.exit (c0 (cV (aD ?_)));refine dG (G.L (fun cg=>?_));refine o.aa ?_;refine o.v1 (Y.an j.O rfl bN rfl b6) ?_;refine o.v1 (au j.O.js cE) ?_;refine aV p0 (xv _ _ _ x.dn w0 _ d (by omega) dP) (fun gB eU dO=>?_);have ck:=j.lt;obtain⟨eV,b2,rfl,d,bq,aM⟩:=dO;have cl:af (J.size+1) b2:=af.app (aL) ck bq;have bt:U k J.size b2:=U.L (bP) bq q.size;have j:=j.ae aM (ag.I aL);have q:=q.aL aM (ah.I (ao.r bP));have er:=aM.size;have C:=d.le;refine o.aa ?_;refine o.v1 cF ?_;refine o.v1 cF ?_;refine o.aP 2 ?_;refine cg (G.t1 (fun cp=>G.L (fun cq=>?_)));refine o.aa ?_;refine o.v1 eG (o.nil (cq ?_));refine dK ?_;refine G.skip (cp (G.L (fun cr=>?_)));refine o.aa ?_;refine o.v1 (Y.an j.O rfl bN rfl b6) ?_;refine o.v1 (au j.O.lu cE) ?_;refine aV p0 (xv _ _ _ x.md w0 _ d (by rw[List.length_append,dI];omega) dQ) (fun eW b3 c_=>?_);obtain⟨eX,bb,rfl,d,ct,aP⟩:=c_;have aH:U k J.size bb:=U.L (bt) ct q.size;have j:=j.ae aP (ag.I cl);have q:=q.aL aP (ah.I (ao.r bt));have eu:=aP.size;have C:=d.le;refine o.aa ?_;refine o.v1 cF ?_;refine o.v1 cF ?_;refine o.aP 2 ?_;refine cr (G.t2 (fun cu cv=>G.L (fun cx=>?_)));refine o.v1 (Y.an j.O rfl bN rfl dz) ?_;refine o.v1 (au j.O.nX ec) (o.nil (cx ?_));refine cL (fun da=>?_) (fun da=>?_)
   ·
    refine G.L (fun cz=>?_);refine o.aa ?_;refine o.aS (cS _ ([(1:UInt8)]) de et fB (rfl)) fun eY bQ db=>?_;obtain⟨dU,aQ,ev,cA⟩:=db;have dZ:bQ.size=b3.size+1:=by rw[cA];simp
    have d:=d.N aQ;have q:=q.a8 aQ;have ew:=aQ.size;refine o.aS (eg d dU.rd de (by simp[dI];omega) (by simp[dI];omega)) fun bU dl dc=>?_;obtain⟨bc,d,aS,aI⟩:=dc;have aS:U bb bQ.size bc:=aS;have aI:=aI.md;have cC:U k J.size bc:=U.L (aH) aS q.size;have q:=q.aL aI (ah.I (ao.r aH));have ey:=aI.size;have C:=d.le;obtain⟨df,rfl⟩:∃s:aO,bU=s.v:=⟨cm bU,d.bm.symm⟩;refine o.aP 3 ?_;refine cz ?_;refine G.ret (cv (bn ?_));exact⟨df,bc,rfl,by rw[tD S,if_pos (by assumption),ES];rw[ab]at d;simpa only[List.append_assoc]using d,cC,q⟩
   ·
    refine G.skip (cu (G.L (fun cD=>?_)));refine o.aa ?_;refine o.aS (cS _ ([(0:UInt8)]) de et fB (rfl)) fun cy bW dh=>?_;obtain⟨dV,aT,ez,cG⟩:=dh;have ea:bW.size=b3.size+1:=by rw[cG];simp
    have d:=d.N aT;have q:=q.a8 aT;have eA:=aT.size;refine o.aS (eg d dV.rd de (by simp[dI];omega) (by simp[dI];omega)) fun bX eZ di=>?_;obtain⟨bg,d,aX,aJ⟩:=di;have aX:U bb bW.size bg:=aX;have aJ:=aJ.md;have cH:U k J.size bg:=U.L (aH) aX q.size;have q:=q.aL aJ (ah.I (ao.r aH));have eB:=aJ.size;have C:=d.le;obtain⟨dj,rfl⟩:∃s:aO,bX=s.v:=⟨cm bX,d.bm.symm⟩;refine o.aP 3 ?_;refine cD ?_;refine G.ret (bn ?_);exact⟨dj,bg,rfl,by rw[tD S,if_neg (by simp_all),ER];rw[ab]at d;simpa only[List.append_assoc]using d,cH,q⟩
end m3
end Go.Proofs.YtfjmpninmdjcaaaGreatDoor
