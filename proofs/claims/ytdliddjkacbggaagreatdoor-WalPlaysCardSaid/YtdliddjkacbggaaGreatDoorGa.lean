/-
  Contracts of functions of the program, and plain laws: put together of several texts.
-/
import Derived.WalkKit
import Derived.StillTail
import Derived.OrdersHeld
import Derived.Deep.RegionHeld3
import Derived.MapKept
import Derived.Lib.ConvBytes
import Derived.Lib.AppendStr
import Derived.Laws.Pointers
import Derived.Laws.Cover3
import Derived.Test.YtdliddjkacbggaaGreatDoorRows
import Derived.Lib.BytesEntry
import Derived.ProofKit
import Derived.OpenShut
import Derived.ShutString
import Derived.ChangeOld
import Derived.Below
import Derived.JoinedCond
import Derived.Deep.Slices
import Derived.ChangeSame
set_option linter.unusedVariables false
set_option linter.unusedSimpArgs false
set_option linter.unusedSectionVars false
set_option linter.defProp false
set_option maxHeartbeats 8000000
set_option maxRecDepth 20000
namespace Go.Proofs.YtdliddjkacbggaaGreatDoor

namespace E
abbrev Heap:=Array Obj
abbrev FL:=List (Nat×Value)
def lk:FL→Nat→Option Value
 |[],_=>none
 |(s,v)::l,t=>match Nat.beq s t with
  |true=>some v
  |false=>lk l t
structure Fr (n:Nat) (l:FL) (a:Act):Prop where
 defers:a.defers=[]
 size:a.tmps.size=n
 get:∀t v,lk l t=some v→a.tmps[t]?=some v
def opv(l:FL):Operand→Option Value
 | .tmp t=>lk l t
 | .const v=>some v
 | .global g=>some (.pointer (some ⟨g,0,none⟩))
 | .func f=>some (.func (.func f) #[] #[])
def opvs(l:FL):List Operand→Option (List Value)
 |[]=>some []
 |x::r=>match opv l x,opvs l r with
  |some v,some vs=>some (v::vs)
  |_,_=>none
theorem Fr.eval{n:Nat}{l:FL}{a:Act}(h:Fr n l a){x:Operand}{v:Value}(e:opv l x=some v):a.eval x=v:=by
 cases x with
 |tmp t=>have:=h.get t v e;simp[Act.eval,Array.getD_eq_getD_getElem?,this]
 |const c=>simpa[opv,Act.eval]using e
 |global g=>simpa[opv,Act.eval]using e
 |func f=>simpa[opv,Act.eval]using e
theorem Fr.evals{n:Nat}{l:FL}{a:Act}(h:Fr n l a):∀{xs:List Operand} {vs:List Value},opvs l xs=some vs→xs.map a.eval=vs
 |[],vs,e=>by simpa[opvs]using e
 |x::r,vs,e=>by
  simp only[opvs]at e
  cases hx:opv l x with
  |none=>simp[hx]at e
  |some v=>
   cases hr:opvs l r with
   |none=>simp[hx,hr]at e
   |some vr=>
    simp only[hx,hr,Option.some.injEq]at e;subst e;simp[h.eval hx,h.evals hr]
theorem Fr.put{n:Nat}{l:FL}{a:Act}(h:Fr n l a){d:Nat}(hd:Nat.blt d n=true)(v:Value):Fr n ((d,v)::l) (a.put (some d) v):=by
 have hd':d<n:=by simpa[Nat.blt_eq]using hd
 refine⟨h.defers,by simp[Act.put,h.size],fun t u e=>?_⟩;simp only[Act.put,Array.getElem?_setIfInBounds];simp only[lk]at e;by_cases ht:d=t
 ·subst ht
  have:Nat.beq d d=true:=by simp
  simp only[this]at e;simp[h.size,hd',←Option.some.inj e]
 ·have:Nat.beq d t=false:=by
   cases hb:Nat.beq d t with
   |true=>exact absurd (Nat.eq_of_beq_eq_true hb) ht
   |false=>rfl
  simp only[this]at e;simp[ht,h.get t u e]
def Sub:FL→FL→Prop
 |[],_=>True
 |(t,v)::r,l=>lk l t=some v∧Sub r l
theorem Sub.lk{l:FL}:∀{l':FL},Sub l' l→∀t v,lk l' t=some v→lk l t=some v
 |[],_,t,v,e=>by simp[E.lk]at e
 |(s,u)::r,⟨h1,h2⟩,t,v,e=>by
  simp only[E.lk]at e
  cases hb:Nat.beq s t with
  |true=>
   simp only[hb,Option.some.injEq]at e;have:=Nat.eq_of_beq_eq_true hb
   subst this;subst e;exact h1
  |false=>simp only[hb]at e;exact Sub.lk h2 t v e
theorem Fr.sub{n:Nat}{l l':FL}{a:Act}(h:Fr n l a)(hs:Sub l' l):Fr n l' a:=
 ⟨h.defers,h.size,fun t v e=>h.get t v (hs.lk t v e)⟩
structure At (w0:World) (H:Heap) (w:World):Prop where
 heap:w.heap=H
 os:w.os=w0.os
 tape:w.tape=w0.tape
 output:w.output=w0.output
 dr:w0.drawn≤w.drawn
theorem At.drew{w0 w:World}{H:Heap}(h:At w0 H w):At w0 H {w with drawn:=w.drawn+1}:=⟨h.heap,h.os,h.tape,h.output,Nat.le_succ_of_le h.dr⟩
theorem At.set{w0 w:World}{H H':Heap}(h:At w0 H w):At w0 H' {w with heap:=H'}:=⟨rfl,h.os,h.tape,h.output,h.dr⟩
def Y(P:Program)(w0:World)(n:Nat)(l:FL)(H:Heap)(o:Oper)(v:Value):Prop:=
 ∀a w,Fr n l a→At w0 H w→(execOp a.eval o).run P w= .ok (.value v) w
def Md(m:Bool)(P:Program)(ops:Array Oper)(Q:Exit→Act→World→Prop)(rest:List Oper)(a:Act)(w:World):Prop:=match m with
 |true=>wpStill P ops w (fun a'=>Q .normal a' w) rest a
 |false=>wpList P ops Q rest a w
def LR(m:Bool)(P:Program)(w0:World)(ops:Array Oper)(Q:Exit→Act→World→Prop)(n:Nat)(l:FL)(rest:List Oper)(H:Heap):Prop:=
 ∀a w,Fr n l a→At w0 H w→Md m P ops Q rest a w
def QN(w0:World)(Q:Exit→Act→World→Prop)(n:Nat)(l:FL)(H:Heap):Prop:=∀a w,Fr n l a→At w0 H w→Q .normal a w
def QE(w0:World)(Q:Exit→Act→World→Prop)(e:Exit)(n:Nat)(l:FL)(H:Heap):Prop:=∀a w,Fr n l a→At w0 H w→Q e a w
def CW(P:Program)(w0:World)(Q:Exit→Act→World→Prop)(n:Nat)(l:FL)(c:Code)(H:Heap):Prop:=
 ∀a w,Fr n l a→At w0 H w→c.wp P Q a w
section
variable {P : Program} {w0 : World} {Q : Exit → Act → World → Prop} {n : Nat} {l : FL} {H : Heap} {ops : Array Oper} {rest : List Oper} {o : Oper} {m : Bool}
theorem LR.nil(h:QN w0 Q n l H):LR m P w0 ops Q n l [] H:=by
 intro a w hf ha;cases m
 ·exact h a w hf ha
 ·exact h a w hf ha
theorem step_aux{a:Act}{w:World}{v:Value}(hf:Fr n l a)(ha:At w0 H w)(hw:Region.wanted o (yielded ops a.tmps)=true)(hr:(execOp a.eval o).run P w= .ok (.value v) w)
 {d:Nat} (hd:o.dst=some d) (hn:Nat.blt d n=true) (h:LR m P w0 ops Q n ((d,v)::l) rest H):Md m P ops Q (o::rest) a w:=by
 have hp:=hf.put hn v;rw[←hd]at hp;have hh:=h _ w hp ha;cases m
 ·simp only[Md]at hh⊢
  unfold wpList;rw[if_pos hw];exact .inl (by unfold Oper.wp;rw[hr];exact hh)
 ·simp only[Md]at hh⊢
  unfold wpStill;rw[if_pos hw];unfold Oper.still;rw[hr];exact⟨rfl,hh⟩
def Wd(ops:Array Oper)(l:FL)(o:Oper):Prop:=∀n a,Fr n l a→Region.wanted o (yielded ops a.tmps)=true
theorem yielded_of{a:Act}(hf:Fr n l a){j d:Nat}{b:Bool}(hj:(ops[j]?).bind (·.dst)=some d)(hc:lk l d=some (.bool b)):yielded ops a.tmps j=some b:=by
 have h1:=hf.get d _ hc;have:(ops[j]?).bind (fun o=>o.dst)=some d:=hj;unfold yielded;rw[this];simp[h1]
theorem Wd.u(hg:o.guard=none):Wd ops l o:=fun _ _ _=>by simp[Region.wanted,hg]
theorem Wd.g{j e:Nat}{b:Bool}(hg:o.guard=some (j,b))(hj:(ops[j]?).bind (·.dst)=some e)(hc:lk l e=some (.bool b)):Wd ops l o:=
 fun _ _ hf=>by simp[Region.wanted,hg,yielded_of hf hj hc]
theorem LR.v{v:Value}{d:Nat}(hy:Y P w0 n l H o v)(hw:Wd ops l o)(hd:o.dst=some d)(hn:Nat.blt d n=true)(h:LR m P w0 ops Q n ((d,v)::l) rest H):LR m P w0 ops Q n l (o::rest) H:=
 fun a w hf ha=>step_aux hf ha (hw n a hf) (hy a w hf ha) hd hn h
theorem LR.e{α:Type}{g:α→Value}{φ:α→Prop}{d:Nat}(hy:∃x,(∀H',Y P w0 n l H' o (g x))∧φ x)(hw:Wd ops l o)(hd:o.dst=some d)(hn:Nat.blt d n=true)(h:∀x,φ x→LR m P w0 ops Q n ((d,g x)::l) rest H):LR m P w0 ops Q n l (o::rest) H:=
 let⟨x,h1,h2⟩:=hy
 LR.v (h1 H) hw hd hn (h x h2)
theorem LR.gs{d j e:Nat}{b c:Bool}(hg:o.guard=some (j,b))(hj:(ops[j]?).bind (·.dst)=some e)(hc:lk l e=some (.bool c))(hne:(c==b)=false)
 (hd:o.dst=some d) (hn:Nat.blt d n=true) (h:LR m P w0 ops Q n ((d,undef)::l) rest H):LR m P w0 ops Q n l (o::rest) H:=by
 intro a w hf ha
 have hw:Region.wanted o (yielded ops a.tmps)=false:=by
  have hne':c≠b:=by intro e;subst e;simp at hne
  simp[Region.wanted,hg,yielded_of hf hj hc,hne']
 have hp:=hf.put hn undef;rw[←hd]at hp;have hh:=h _ w hp ha;cases m
 ·simp only[Md]at hh⊢
  unfold wpList;rw[if_neg (by simp[hw])];exact hh
 ·simp only[Md]at hh⊢
  unfold wpStill;rw[if_neg (by simp[hw])];exact hh
theorem Fr.same{a:Act}(hf:Fr n l a){d:Nat}{v:Value}(hc:lk l d=some v):Fr n ((d,v)::l) a:=by
 refine⟨hf.defers,hf.size,fun t u e=>?_⟩;simp only[lk]at e
 cases hb:Nat.beq d t with
 |true=>
  have:=Nat.eq_of_beq_eq_true hb;subst this;simp only[hb]at e
  exact hf.get d u (by rw[hc];exact e)
 |false=>simp only[hb]at e;exact hf.get t u e
theorem LR.splitp{d:Nat}{p:Prop}[Decidable p](hc:lk l d=some (.bool (decide p)))(ht:p→LR m P w0 ops Q n ((d,.bool true)::l) rest H)(he:¬p→LR m P w0 ops Q n ((d,.bool false)::l) rest H):LR m P w0 ops Q n l rest H:=by
 intro a w hf ha;by_cases hp:p
 ·rw[decide_eq_true hp]at hc;exact ht hp a w (hf.same hc) ha
 ·rw[decide_eq_false hp]at hc;exact he hp a w (hf.same hc) ha
theorem LR.split{d:Nat}{b:Bool}(hc:lk l d=some (.bool b))(ht:b=true→LR m P w0 ops Q n ((d,.bool true)::l) rest H)(he:b=false→LR m P w0 ops Q n ((d,.bool false)::l) rest H):LR m P w0 ops Q n l rest H:=by
 intro a w hf ha;cases b
 ·exact he rfl a w (hf.same hc) ha
 ·exact ht rfl a w (hf.same hc) ha
theorem QN.sub{l':FL}(h:QN w0 Q n l' H)(hs:Sub l' l):QN w0 Q n l H:=fun a w hf ha=>h a w (hf.sub hs) ha
theorem CW.region{id:Nat}{lo:List Oper}(h:LR false P w0 lo.toArray Q n l lo H):CW P w0 Q n l (.region id lo.toArray false) H:=
 fun a w hf ha=>wp_region_lit (h a w hf ha)
theorem CW.region_draw{id:Nat}{lo:List Oper}(hm:P.follows .mixedOrders=true)(hB:Region.lexB .any lo.toArray=true)(h:LR true P w0 lo.toArray Q n l lo H):CW P w0 Q n l (.region id lo.toArray true) H:=
 fun a w hf ha=>wp_region_still_lit hm hB (h a _ hf ha.drew)
theorem CW.region_tail{id:Nat}{lo:List Oper}(k:Nat)(hm:P.follows .mixedOrders=true)(hB:Region.lexTailB .any lo.toArray k=true)
 (h:∀K:Exit→Act→World→Prop,(∀l',LR false P w0 lo.toArray Q n l' (lo.drop k) H→QN w0 K n l' H)→LR true P w0 lo.toArray K n l (lo.take k) H):CW P w0 Q n l (.region id lo.toArray true) H:=
 fun a w hf ha=>wp_region_still_tail k hm hB (h (fun _ a' w'=>wpList P lo.toArray Q (lo.drop k) a' w') (fun l' hl a' w' hf' ha'=>hl a' w' hf' ha') a _ hf ha.drew)
theorem CW.seq{x y:Code}(h:∀K:Exit→Act→World→Prop,(∀l' H',CW P w0 Q n l' y H'→QN w0 K n l' H')→(∀e,e≠ .normal→∀l' H',QE w0 Q e n l' H'→QE w0 K e n l' H')→CW P w0 K n l x H):CW P w0 Q n l (.seq x y) H:=by
 intro a w hf ha;refine wp_seq (h (Exit.then (y.wp P Q) Q) (fun l' H' hy a' w' hf' ha'=>hy a' w' hf' ha') ?_ a w hf ha);intro e he l' H' hq a' w' hf' ha';have hq:=hq a' w' hf' ha';cases e<;>first|exact absurd rfl he|exact hq
theorem CW.skip(h:QN w0 Q n l H):CW P w0 Q n l .skip H:=fun a w hf ha=>wp_skip (h a w hf ha)
theorem CW.label{k:Nat}(h:QN w0 Q n l H):CW P w0 Q n l (.label k) H:=fun a w hf ha=>wp_label (h a w hf ha)
theorem CW.exit{id:Nat}(h:QE w0 Q (.exit id) n l H):CW P w0 Q n l (.exit id) H:=fun a w hf ha=>wp_exit (h a w hf ha)
theorem CW.ret(h:QE w0 Q .ret n l H):CW P w0 Q n l .ret H:=fun a w hf ha=>wp_ret (h a w hf ha)
theorem CW.cond{c:Operand}{x y:Code}{b:Bool}(hc:opv l c=some (.bool b))(ht:b=true→CW P w0 Q n l x H)(he:b=false→CW P w0 Q n l y H):CW P w0 Q n l (.cond c x y) H:=
 fun a w hf ha=>wp_cond_split (hf.eval hc) (fun h=>ht h a w hf ha) (fun h=>he h a w hf ha)
theorem CW.condp{c:Operand}{x y:Code}{p:Prop}[Decidable p](hc:opv l c=some (.bool (decide p)))(ht:p→CW P w0 Q n l x H)(he:¬p→CW P w0 Q n l y H):CW P w0 Q n l (.cond c x y) H:=
 CW.cond hc (fun h=>ht (of_decide_eq_true h)) (fun h=>he (of_decide_eq_false h))
theorem CW.cond_t{c:Operand}{x y:Code}(hc:opv l c=some (.bool true))(ht:CW P w0 Q n l x H):CW P w0 Q n l (.cond c x y) H:=
 CW.cond hc (fun _=>ht) (fun h=>by cases h)
theorem CW.cond_f{c:Operand}{x y:Code}(hc:opv l c=some (.bool false))(he:CW P w0 Q n l y H):CW P w0 Q n l (.cond c x y) H:=
 CW.cond hc (fun h=>by cases h) (fun _=>he)
theorem CW.block{id:Nat}{c:Code}(h:∀K:Exit→Act→World→Prop,(∀l' H',QN w0 Q n l' H'→QN w0 K n l' H')→(∀l' H',QN w0 Q n l' H'→QE w0 K (.exit id) n l' H')→(∀e,e≠ .normal→e≠ .exit id→∀l' H',QE w0 Q e n l' H'→QE w0 K e n l' H')→CW P w0 K n l c H):CW P w0 Q n l (.block id c) H:=by
 intro a w hf ha;refine wp_block (h (Exit.inBlock id Q) (fun l' H' hy a' w' hf' ha'=>hy a' w' hf' ha') (fun l' H' hy a' w' hf' ha'=>?_) ?_ a w hf ha)
 ·show(if id=id then Q .normal a' w' else Q (.exit id) a' w');rw[if_pos rfl];exact hy a' w' hf' ha'
 ·intro e he hi l' H' hq a' w' hf' ha'
  cases e with
  |normal=>exact absurd rfl he
  |exit k=>
   show(if k=id then Q .normal a' w' else Q (.exit k) a' w')
   rw[if_neg (fun e=>hi (by rw[e]))];exact hq a' w' hf' ha'
  |goto k=>exact hq a' w' hf' ha'
  |ret=>exact hq a' w' hf' ha'
  |panic k=>exact hq a' w' hf' ha'
  |outgrown=>exact hq a' w' hf' ha'
theorem CW.scope{c:Code}(h:∀K:Exit→Act→World→Prop,(∀l' H',QN w0 Q n l' H'→QN w0 K n l' H')→(∀e,e≠ .normal→(∀k,e≠ .goto k)→∀l' H',QE w0 Q e n l' H'→QE w0 K e n l' H')→CW P w0 K n l c H):CW P w0 Q n l (.scope c) H:=by
 intro a w hf ha;refine wp_scope_straight (h (Exit.noGoto Q) (fun l' H' hy a' w' hf' ha'=>hy a' w' hf' ha') ?_ a w hf ha);intro e he hg l' H' hq a' w' hf' ha';have hq:=hq a' w' hf' ha';cases e<;>first|exact absurd rfl he|exact absurd rfl (hg _)|exact hq
theorem CW.loop{σ:Type}{c:Code}(fl:σ→FL)(I:σ→Heap→Prop)(μ:σ→Nat)(s0:σ)(hl:Sub (fl s0) l)(h0:I s0 H)
 (round:∀s H,I s H→∀K:Exit→Act→World→Prop,(∀s' H',I s' H'→μ s'<μ s→QN w0 K n (fl s') H')→(∀e,e≠ .normal→∀l' H',QE w0 Q e n l' H'→QE w0 K e n l' H')→CW P w0 K n (fl s) c H):CW P w0 Q n l (.loop c) H:=by
 intro a w hf ha b k cs
 have key:∀N s H a w,μ s=N→I s H→Fr n (fl s) a→At w0 H w→
  ∃e a' w',Q e a' w'∧Arrives P (lone (b.at a (.code c:: .inLoop c::k)) cs w) b k cs e a' w':=by
  intro N
  induction N using Nat.strongRecOn with
  |_ N ih=>
   intro s H a w hN hI hfr hat
   have hr:=round s H hI (Exit.then (fun a' w'=>∃s' H',Fr n (fl s') a'∧At w0 H' w'∧I s' H'∧μ s'<μ s) Q)
    (fun s' H' hI' hlt a' w' hf' ha'=>⟨s',H',hf',ha',hI',hlt⟩) (fun e he l' H' hq a' w' hf' ha'=>by have hq:=hq a' w' hf' ha';cases e<;>first|exact absurd rfl he|exact hq) a w hfr hat
   obtain⟨e,a₁,w₁,hq,harr⟩:=hr b (.inLoop c::k) cs
   cases e with
   |normal=>
    obtain⟨s',H',hf',ha',hI',hlt⟩:=hq;obtain⟨e₂,a₂,w₂,hq₂,harr₂⟩:=ih (μ s') (hN▸hlt) s' H' a₁ w₁ rfl hI' hf' ha'
    exact⟨e₂,a₂,w₂,hq₂,.of_steps (Steps.trans harr (.one step_inLoop)) harr₂⟩
   |exit id=>exact⟨_,a₁,w₁,hq,.pass (x:= .inLoop c) rfl (fun _ _=> .inl (by simp)) harr⟩
   |goto l=>exact⟨_,a₁,w₁,hq,.pass (x:= .inLoop c) rfl (fun _ _=> .inl (by simp)) harr⟩
   |ret=>exact⟨_,a₁,w₁,hq,.pass (x:= .inLoop c) rfl (fun _ _=> .inl (by simp)) harr⟩
   |panic ch=>exact⟨_,a₁,w₁,hq,.pass (x:= .inLoop c) rfl (fun _ _=> .inl (by simp)) harr⟩
   |outgrown=>exact⟨_,a₁,w₁,hq,.pass (x:= .inLoop c) rfl (fun _ _=> .inl (by simp)) harr⟩
 obtain⟨e,a',w',hq,harr⟩:=key _ s0 H a w rfl h0 (hf.sub hl) ha;exact⟨e,a',w',hq,.of_steps (.one step_loop) harr⟩
theorem CW.cut{σ:Type}{x y:Code}(fl:σ→FL)(I:σ→Heap→Prop)
 (h:∀K:Exit→Act→World→Prop,(∀s H',I s H'→QN w0 K n (fl s) H')→(∀e,e≠ .normal→∀l' H',QE w0 Q e n l' H'→QE w0 K e n l' H')→CW P w0 K n l x H)
 (hy:∀s H',I s H'→CW P w0 Q n (fl s) y H'):CW P w0 Q n l (.seq x y) H:=by
 intro a w hf ha;refine wp_seq (h (Exit.then (y.wp P Q) Q) (fun s H' hI a' w' hf' ha'=>hy s H' hI a' w' hf' ha') ?_ a w hf ha);intro e he l' H' hq a' w' hf' ha';have hq:=hq a' w' hf' ha';cases e<;>first|exact absurd rfl he|exact hq
end
def Ct(P:Program)(w0:World)(f:FuncId)(args:Array Value)(H:Heap)(R:Value→Heap→Prop):Prop:=
 ∀w,At w0 H w→Calls P f args w (fun e w'=>∃r H',e= .returned r∧At w0 H' w'∧R r H')
def RP(w0:World)(R:Value→Heap→Prop):Ending→World→Prop:=fun e w'=>∃r H',e= .returned r∧At w0 H' w'∧R r H'
def argL(args:List Value)(k:Nat):FL:=match args with
 |[]=>[]
 |v::r=>(k,v)::argL r (k+1)
theorem argL_get:∀(args:List Value) (k t:Nat) (v:Value),lk (argL args k) t=some v→k≤t∧args[t-k]?=some v
 |[],_,_,_,e=>by simp[argL,lk]at e
 |x::r,k,t,v,e=>by
  simp only[argL,lk]at e
  cases hb:Nat.beq k t with
  |true=>
   have:=Nat.eq_of_beq_eq_true hb;subst this;simp only[hb,Option.some.injEq]at e
   simp[e]
  |false=>
   simp only[hb]at e;obtain⟨h1,h2⟩:=argL_get r (k+1) t v e;refine⟨by omega,?_⟩;have:t-k=(t-(k+1))+1:=by omega
   rw[this];simpa using h2
theorem Ct.enter{P:Program}{w0:World}{f:FuncId}{fn:Func}{c:Code}{args:List Value}{H:Heap}{R:Value→Heap→Prop}{n:Nat}
 (hf:P.funcs[f]?=some fn) (hb:fn.body=some c) (hn:fn.ntmps=n) (hk:Nat.ble args.length n=true)
 (h:∀Q:Exit→Act→World→Prop,(∀e,(e= .normal∨e= .ret)→∀l H' v,(∀a w,Fr n l a→At w0 H' w→(results fn a.tmps).run P w= .ok v w)→R v H'→QE w0 Q e n l H')→CW P w0 Q n (argL args 0) c H):
 Ct P w0 f args.toArray H R:=by
 intro w ha;have hk':args.length≤n:=Nat.le_of_ble_eq_true hk;refine calls_of_wp hf hb (h (bodyPost P fn (RP w0 R)) ?_ _ w ⟨rfl,?_,?_⟩ ha)
 ·intro e he l H' v hv hR a w' hfr ha'
  rcases he with rfl|rfl<;>exact⟨hfr.defers,v,hv a w' hfr ha',v,H',rfl,ha',hR⟩
 ·simp[hn];omega
 ·intro t v e
  obtain⟨_,h2⟩:=argL_get args 0 t v e;simp only[Nat.sub_zero]at h2;simp only;have hlt:=(List.getElem?_eq_some_iff.1 h2).1;rw[Array.getElem?_append_left (by simpa using hlt)]
  simpa using h2
theorem res1{P:Program}{w0:World}{H:Heap}{fn:Func}{n t:Nat}{l:FL}{v:Value}(h:fn.results= #[.tmp t])(e:lk l t=some v):∀a w,Fr n l a→At w0 H w→(results fn a.tmps).run P w= .ok v w:=by
 intro a w hf _;rw[results_tmp h];simp[Array.getD_eq_getD_getElem?,hf.get t v e]
theorem res2{P:Program}{w0:World}{H:Heap}{fn:Func}{n t u:Nat}{l:FL}{v x:Value}(h:fn.results= #[.tmp t,.tmp u])(e:lk l t=some v)(e2:lk l u=some x):∀a w,Fr n l a→At w0 H w→(results fn a.tmps).run P w= .ok (.tuple #[v,x]) w:=by
 intro a w hf _;rw[results_tmp2 h];simp[Array.getD_eq_getD_getElem?,hf.get t v e,hf.get u x e2]
theorem res3{P:Program}{w0:World}{H:Heap}{fn:Func}{n t u s:Nat}{l:FL}{v x y:Value}(h:fn.results= #[.tmp t,.tmp u,.tmp s])(e:lk l t=some v)(e2:lk l u=some x)(e3:lk l s=some y):∀a w,Fr n l a→At w0 H w→(results fn a.tmps).run P w= .ok (.tuple #[v,x,y]) w:=by
 intro a w hf _;rw[results_tmp3 h];simp[Array.getD_eq_getD_getElem?,hf.get t v e,hf.get u x e2,hf.get s y e3]
theorem res0{P:Program}{w0:World}{H:Heap}{fn:Func}{n:Nat}{l:FL}(h:fn.results= #[]):∀a w,Fr n l a→At w0 H w→(results fn a.tmps).run P w= .ok (.tuple #[]) w:=by
 intro a w _ _;exact results_none h _ _ _
section
variable {P : Program} {w0 : World} {Q : Exit → Act → World → Prop} {n : Nat} {l : FL} {H : Heap} {ops : Array Oper} {rest : List Oper} {o : Oper} {m : Bool}
def Z(P:Program)(w0:World)(n:Nat)(l:FL)(H:Heap)(o:Oper)(R:Value→Heap→Prop):Prop:=
 ∀a w,Fr n l a→At w0 H w→∃v H' w',(execOp a.eval o).run P w= .ok (.value v) w'∧At w0 H' w'∧R v H'
theorem LR.z{R:Value→Heap→Prop}{d:Nat}(hz:Z P w0 n l H o R)(hw:Wd ops l o)(hd:o.dst=some d)(hn:Nat.blt d n=true)
 (h:∀v H',R v H'→LR false P w0 ops Q n ((d,v)::l) rest H'):LR false P w0 ops Q n l (o::rest) H:=by
 intro a w hf ha;obtain⟨v,H',w',hr,ha',hR⟩:=hz a w hf ha;have hp:=hf.put hn v;rw[←hd]at hp;have hh:=h v H' hR _ w' hp ha';simp only[Md]at hh⊢;unfold wpList;rw[if_pos (hw n a hf)];exact .inl (by unfold Oper.wp;rw[hr];exact hh)
def S(P:Program)(w0:World)(n:Nat)(l:FL)(H:Heap)(o:Oper)(R:Heap→Prop):Prop:=
 ∀a w,Fr n l a→At w0 H w→∃H' w',(execOp a.eval o).run P w= .ok .skip w'∧At w0 H' w'∧R H'
theorem LR.s{R:Heap→Prop}(hz:S P w0 n l H o R)(hw:Wd ops l o)(hd:o.dst=none)
 (h:∀H',R H'→LR false P w0 ops Q n l rest H'):LR false P w0 ops Q n l (o::rest) H:=by
 intro a w hf ha;obtain⟨H',w',hr,ha',hR⟩:=hz a w hf ha;have hh:=h H' hR a w' hf ha';simp only[Md]at hh⊢;unfold wpList;rw[if_pos (hw n a hf)];refine .inl ?_;unfold Oper.wp;rw[hr];show wpList P ops Q rest (a.put o.dst undef) w';rw[hd];exact hh
theorem run_call{ρ:Operand→Value}{f:FuncId}{args:Array Operand}{ats:Array TypeId}{w:World}(ho:o.op= .call {callee:= .value (.func f),args:=args,argTypes:=ats})(hρ:ρ (.func f)= .func (.func f) #[] #[])
 (hcall:∀(vs:Array Value) (w:World),(callFunc f vs).run P w= .ok (.enter f vs) w):(execOp ρ o).run P w= .ok (.enter f (args.map ρ)) w:=by
 simp[execOp,ho,resolve,Deferred.ofValue,hρ,invoke,hcall]
theorem LR.call{R:Value→Heap→Prop}{f d:Nat}{args:List Operand}{ats:Array TypeId}{vs:List Value}(ho:o.op= .call {callee:= .value (.func f),args:=args.toArray,argTypes:=ats})
 (hcall:∀(vs:Array Value) (w:World),(callFunc f vs).run P w= .ok (.enter f vs) w) (hv:opvs l args=some vs) (hw:Wd ops l o) (hd:o.dst=some d) (hn:Nat.blt d n=true) (hc:Ct P w0 f vs.toArray H R)
 (h:∀v H',R v H'→LR false P w0 ops Q n ((d,v)::l) rest H'):LR false P w0 ops Q n l (o::rest) H:=by
 intro a w hf ha;simp only[Md];have hr:=run_call (P:=P) (ρ:=a.eval) (w:=w) ho rfl hcall;rw[List.map_toArray,hf.evals hv]at hr;unfold wpList;rw[if_pos (hw n a hf)];refine .inl ?_;unfold Oper.wp;rw[hr];show Calls P f vs.toArray w _;refine(hc w ha).mono ?_;rintro e w' ⟨r,H',rfl,ha',hR⟩;have hp:=hf.put hn r;rw[←hd]at hp;exact h r H' hR _ w' hp ha'
end
theorem Ct.mono{P:Program}{w0:World}{f:FuncId}{args:Array Value}{H:Heap}{R R':Value→Heap→Prop}(h:Ct P w0 f args H R)(hr:∀v H',R v H'→R' v H'):Ct P w0 f args H R':=
 fun w ha=>(h w ha).mono fun _ _ ⟨r,H',he,ha',hR⟩=>⟨r,H',he,ha',hr r H' hR⟩
end E

namespace E
def Str(l:List UInt8):Value:= .string ⟨l.toArray⟩
def cell(H:Heap)(a:Addr):Option Value:=match H[a.block]? with
 |some (.cells c _ _)=>if a.spot.isSome then none else c[a.off]?
 |_=>none
theorem At.cell{w0 w:World}{H:Heap}(h:At w0 H w)(a:Addr):w.cell? a=E.cell H a:=by
 unfold World.cell? E.cell;rw[h.heap];rfl
structure Pt (H:Heap) (ad:Addr) (cs:List Value):Prop where
 spot:ad.spot=none
 cells:∀j c,cs[j]?=some c→cell H ⟨ad.block,ad.off+j,none⟩=some c
theorem add_eq{ad:Addr}(h:ad.spot=none)(j:Nat):ad.add j=⟨ad.block,ad.off+j,none⟩:=by
 obtain⟨b,o,s⟩:=ad;simp only at h;subst h;unfold Addr.add;split
 ·subst_vars;rfl
 ·rfl
theorem Pt.drop{H:Heap}{ad:Addr}{cs:List Value}(h:Pt H ad cs)(k:Nat):Pt H (ad.add k) (cs.drop k):=by
 rw[add_eq h.spot];refine⟨rfl,fun j c e=>?_⟩;rw[List.getElem?_drop]at e;have:=h.cells (k+j) c e
 simpa[Nat.add_assoc]using this
theorem Pt.take{H:Heap}{ad:Addr}{cs:List Value}(h:Pt H ad cs)(k:Nat):Pt H ad (cs.take k):=by
 refine⟨h.spot,fun j c e=>h.cells j c ?_⟩;rw[List.getElem?_take]at e;split at e
 ·exact e
 ·cases e
structure Rd {α:Type} (F:Nat→Prop) (H:Heap) (f:α→List Value) (sz:Nat) (v:Value) (l:List α):Prop where
 ex:∃a cap,v= .slice a l.length cap∧l.length≤cap∧cap≤maxLen∧(l≠[]→∃ad:Addr,a=some ad∧ad.spot=none∧F ad.block∧ad.block<H.size∧∀i x,l[i]?=some x→Pt H ⟨ad.block,ad.off+i*sz,none⟩ (f x))
structure Mo (S:Nat→Prop) (H H':Heap):Prop where
 size:H.size≤H'.size
 same:∀b,b<H.size→¬S b→H'[b]?=H[b]?
theorem Mo.refl(S:Nat→Prop)(H:Heap):Mo S H H:=⟨Nat.le_refl _,fun _ _ _=>rfl⟩
theorem Mo.trans{S T U:Nat→Prop}{H H1 H2:Heap}(h:Mo S H H1)(k:Mo T H1 H2)(hs:∀b,b<H.size→S b→U b)(ht:∀b,b<H.size→T b→U b):Mo U H H2:=
 ⟨Nat.le_trans h.size k.size,fun b hb hu=>(k.same b (Nat.lt_of_lt_of_le hb h.size) (fun e=>hu (ht b hb e))).trans (h.same b hb (fun e=>hu (hs b hb e)))⟩
theorem Mo.weaken{S U:Nat→Prop}{H H1:Heap}(h:Mo S H H1)(hs:∀b,b<H.size→S b→U b):Mo U H H1:=⟨h.size,fun b hb hu=>h.same b hb (fun e=>hu (hs b hb e))⟩
theorem Mo.push(S:Nat→Prop)(H:Heap)(o:Obj):Mo S H (H.push o):=⟨by simp,fun b hb _=>by rw[Array.getElem?_push,if_neg (by omega)]⟩
abbrev Nw(H H':Heap):Prop:=Mo (fun _=>False) H H'
theorem Nw.refl(H:Heap):Nw H H:=Mo.refl _ H
theorem Nw.tr{H H1 H2:Heap}(h:Nw H H1)(k:Nw H1 H2):Nw H H2:=Mo.trans h k (fun _ _ e=>e) (fun _ _ e=>e)
theorem Nw.pu(H:Heap)(o:Obj):Nw H (H.push o):=Mo.push _ H o
theorem cell_same{H H':Heap}{a:Addr}(h:H'[a.block]?=H[a.block]?):cell H' a=cell H a:=by unfold cell;rw[h]
theorem cell_lt{H:Heap}{a:Addr}{v:Value}(h:cell H a=some v):a.block<H.size:=by
 unfold cell at h
 cases hb:H[a.block]? with
 |none=>simp[hb]at h
 |some o=>exact(Array.getElem?_eq_some_iff.1 hb).1
theorem Pt.up{S:Nat→Prop}{H H':Heap}{ad:Addr}{cs:List Value}(h:Pt H ad cs)(s:Mo S H H')(hS:¬S ad.block):Pt H' ad cs:=
 ⟨h.spot,fun j c e=>by
  have hc:=h.cells j c e;have hlt:ad.block<H.size:=cell_lt (a:=⟨ad.block,ad.off+j,none⟩) hc;exact(cell_same (a:=⟨ad.block,ad.off+j,none⟩) (s.same ad.block hlt hS)).trans hc⟩
theorem Pt.nw{H H':Heap}{ad:Addr}{cs:List Value}(h:Pt H ad cs)(s:Nw H H'):Pt H' ad cs:=h.up s (fun e=>e)
section
variable {α : Type} {F : Nat → Prop} {H H' : Heap} {f : α → List Value} {sz : Nat} {v : Value} {l : List α}
theorem Rd.up{S:Nat→Prop}(h:Rd F H f sz v l)(s:Mo S H H')(hS:∀b,b<H.size→F b→¬S b):Rd F H' f sz v l:=by
 obtain⟨a,cap,hv,h1,h2,h3⟩:=h.ex;refine⟨a,cap,hv,h1,h2,fun hl=>?_⟩;obtain⟨ad,e1,e2,e3,e4,e5⟩:=h3 hl;exact⟨ad,e1,e2,e3,Nat.lt_of_lt_of_le e4 s.size,fun i x hx=>(e5 i x hx).up s (hS _ e4 e3)⟩
theorem Rd.nw(h:Rd F H f sz v l)(s:Nw H H'):Rd F H' f sz v l:=h.up s (fun _ _ _ e=>e)
theorem Rd.imp{F':Nat→Prop}(h:Rd F H f sz v l)(hF:∀b,b<H.size→F b→F' b):Rd F' H f sz v l:=by
 obtain⟨a,cap,hv,h1,h2,h3⟩:=h.ex;refine⟨a,cap,hv,h1,h2,fun hl=>?_⟩;obtain⟨ad,e1,e2,e3,e4,e5⟩:=h3 hl;exact⟨ad,e1,e2,hF _ e4 e3,e4,e5⟩
theorem Rd.len(h:Rd F H f sz v l):l.length≤9223372036854775807:=by
 obtain⟨a,cap,hv,h1,h2,h3⟩:=h.ex;unfold maxLen at h2;omega
theorem Rd.nil(F:Nat→Prop)(H:Heap)(f:α→List Value)(sz:Nat):Rd F H f sz (.slice none 0 0) []:=⟨none,0,rfl,Nat.le_refl _,Nat.zero_le _,fun h=>absurd rfl h⟩
end
section
variable {P : Program} {w0 : World} {n : Nat} {l : FL} {H : Heap} {o : Oper}
theorem Y.move{x:Operand}{v:Value}(ho:o.op= .move x)(hx:opv l x=some v):Y P w0 n l H o v:=by
 intro a w hf ha;simp[execOp,ho,hf.eval hx]
theorem Y.assign{x:Operand}{v:Value}(ho:o.op= .assign x)(hx:opv l x=some v):Y P w0 n l H o v:=by
 intro a w hf ha;simp[execOp,ho,hf.eval hx]
theorem Y.pick_t{c x y:Operand}{v:Value}(ho:o.op= .pick c x y)(hc:opv l c=some (.bool true))(hx:opv l x=some v):Y P w0 n l H o v:=by
 intro a w hf ha;simp[execOp,ho,hf.eval hx,hf.eval hc,asBool]
theorem Y.pick_f{c x y:Operand}{v:Value}(ho:o.op= .pick c x y)(hc:opv l c=some (.bool false))(hx:opv l y=some v):Y P w0 n l H o v:=by
 intro a w hf ha;simp[execOp,ho,hf.eval hx,hf.eval hc,asBool]
theorem Y.extract{x:Operand}{k:Nat}{vs:Array Value}{v:Value}(ho:o.op= .extract x k)(hx:opv l x=some (.tuple vs))(hv:vs[k]?=some v):Y P w0 n l H o v:=by
 intro a w hf ha;simp[execOp,ho,hf.eval hx,Instr.extract,hv]
theorem Y.nilCheck{x:Operand}{ad:Addr}(ho:o.op= .nilCheck x)(hx:opv l x=some (.pointer (some ad))):Y P w0 n l H o (.pointer (some ad)):=by
 intro a w hf ha;simp[execOp,ho,hf.eval hx]
theorem Y.isT{p:Prop}[Decidable p](h:Y P w0 n l H o (.bool (decide p)))(hp:p):Y P w0 n l H o (.bool true):=by rwa[decide_eq_true hp]at h
theorem Y.isF{p:Prop}[Decidable p](h:Y P w0 n l H o (.bool (decide p)))(hp:¬p):Y P w0 n l H o (.bool false):=by rwa[decide_eq_false hp]at h
theorem Y.add{x y:Operand}{t u:TypeId}{k:IntKind}{a b:Int}(ho:o.op= .binOp .add t x y u)(hx:opv l x=some (.int k a))(hy:opv l y=some (.int k b)):Y P w0 n l H o (.int k (k.wrap (a+b))):=by
 intro a w hf ha;simp[execOp,ho,hf.eval hx,hf.eval hy,binOp,Op.intArith,eqGuard]
theorem Y.sub{x y:Operand}{t u:TypeId}{k:IntKind}{a b:Int}(ho:o.op= .binOp .sub t x y u)(hx:opv l x=some (.int k a))(hy:opv l y=some (.int k b)):Y P w0 n l H o (.int k (k.wrap (a-b))):=by
 intro a w hf ha;simp[execOp,ho,hf.eval hx,hf.eval hy,binOp,Op.intArith,eqGuard]
theorem Y.mul{x y:Operand}{t u:TypeId}{k:IntKind}{a b:Int}(ho:o.op= .binOp .mul t x y u)(hx:opv l x=some (.int k a))(hy:opv l y=some (.int k b)):Y P w0 n l H o (.int k (k.wrap (a*b))):=by
 intro a w hf ha;simp[execOp,ho,hf.eval hx,hf.eval hy,binOp,Op.intArith,eqGuard]
theorem Y.addk{x y:Operand}{t u:TypeId}{k:IntKind}{a b c:Int}(ho:o.op= .binOp .add t x y u)(hx:opv l x=some (.int k a))(hy:opv l y=some (.int k b))(hc:k.wrap (a+b)=c):Y P w0 n l H o (.int k c):=by
 subst hc;exact Y.add ho hx hy
theorem Y.subk{x y:Operand}{t u:TypeId}{k:IntKind}{a b c:Int}(ho:o.op= .binOp .sub t x y u)(hx:opv l x=some (.int k a))(hy:opv l y=some (.int k b))(hc:k.wrap (a-b)=c):Y P w0 n l H o (.int k c):=by
 subst hc;exact Y.sub ho hx hy
theorem Y.mulk{x y:Operand}{t u:TypeId}{k:IntKind}{a b c:Int}(ho:o.op= .binOp .mul t x y u)(hx:opv l x=some (.int k a))(hy:opv l y=some (.int k b))(hc:k.wrap (a*b)=c):Y P w0 n l H o (.int k c):=by
 subst hc;exact Y.mul ho hx hy
theorem Y.addi{x y:Operand}{t u:TypeId}{a b:Int}(ho:o.op= .binOp .add t x y u)(hx:opv l x=some (.int .i64 a))(hy:opv l y=some (.int .i64 b))(hb: -9223372036854775808≤a+b∧a+b≤9223372036854775807):Y P w0 n l H o (.int .i64 (a+b)):=by
 have h:=Y.add (P:=P) (w0:=w0) (n:=n) (H:=H) ho hx hy;rwa[IntWalk.i64_in _ hb]at h
theorem Y.subi{x y:Operand}{t u:TypeId}{a b:Int}(ho:o.op= .binOp .sub t x y u)(hx:opv l x=some (.int .i64 a))(hy:opv l y=some (.int .i64 b))(hb: -9223372036854775808≤a-b∧a-b≤9223372036854775807):Y P w0 n l H o (.int .i64 (a-b)):=by
 have h:=Y.sub (P:=P) (w0:=w0) (n:=n) (H:=H) ho hx hy;rwa[IntWalk.i64_in _ hb]at h
theorem Y.muli{x y:Operand}{t u:TypeId}{a b:Int}(ho:o.op= .binOp .mul t x y u)(hx:opv l x=some (.int .i64 a))(hy:opv l y=some (.int .i64 b))(hb: -9223372036854775808≤a*b∧a*b≤9223372036854775807):Y P w0 n l H o (.int .i64 (a*b)):=by
 have h:=Y.mul (P:=P) (w0:=w0) (n:=n) (H:=H) ho hx hy;rwa[IntWalk.i64_in _ hb]at h
theorem Y.quo{x y:Operand}{t u:TypeId}{k:IntKind}{a b:Int}(ho:o.op= .binOp .quo t x y u)(hx:opv l x=some (.int k a))(hy:opv l y=some (.int k b))(hb:b≠0):Y P w0 n l H o (.int k (k.wrap (a.tdiv b))):=by
 intro a w hf ha;simp[execOp,ho,hf.eval hx,hf.eval hy,binOp,Op.intDiv,eqGuard,hb]
theorem Y.rem{x y:Operand}{t u:TypeId}{k:IntKind}{a b:Int}(ho:o.op= .binOp .rem t x y u)(hx:opv l x=some (.int k a))(hy:opv l y=some (.int k b))(hb:b≠0):Y P w0 n l H o (.int k (a.tmod b)):=by
 intro a w hf ha;simp[execOp,ho,hf.eval hx,hf.eval hy,binOp,Op.intDiv,eqGuard,hb]
theorem Y.quoi{x y:Operand}{t u:TypeId}{a b:Int}(ho:o.op= .binOp .quo t x y u)(hx:opv l x=some (.int .i64 a))(hy:opv l y=some (.int .i64 b))(hb:0≤a∧a≤9223372036854775807∧1≤b):Y P w0 n l H o (.int .i64 (a/b)):=by
 have h:=Y.quo (P:=P) (w0:=w0) (n:=n) (H:=H) ho hx hy (by omega);rwa[IntWalk.i64_quo _ _ hb]at h
theorem Y.remi{x y:Operand}{t u:TypeId}{k:IntKind}{a b:Int}(ho:o.op= .binOp .rem t x y u)(hx:opv l x=some (.int k a))(hy:opv l y=some (.int k b))(hb:0≤a∧1≤b):Y P w0 n l H o (.int k (a%b)):=by
 have h:=Y.rem (P:=P) (w0:=w0) (n:=n) (H:=H) ho hx hy (by omega);rwa[Int.tmod_eq_emod_of_nonneg hb.1]at h
theorem Y.bits{x y:Operand}{t u:TypeId}{k:IntKind}{a b:Int}(op:BinOp)(r:Int)(ho:o.op= .binOp op t x y u)(hx:opv l x=some (.int k a))(hy:opv l y=some (.int k b))(hop:op= .and∨op= .or∨op= .xor∨op= .andNot)
 (hr:∀w,(Op.intBits op k a b).run P w= .ok (.int k r) w):Y P w0 n l H o (.int k r):=by
 intro a w hf ha;rcases hop with rfl|rfl|rfl|rfl<;>simp[execOp,ho,hf.eval hx,hf.eval hy,binOp,hr,eqGuard]
theorem Y.shl{x y:Operand}{t u:TypeId}{k k2:IntKind}{a b:Int}(ho:o.op= .binOp .shl t x y u)(hx:opv l x=some (.int k a))(hy:opv l y=some (.int k2 b))(hb:0≤b):Y P w0 n l H o (.int k (k.wrap (a*2^min b.toNat k.bits))):=by
 intro a w hf ha;simp[execOp,ho,hf.eval hx,hf.eval hy,binOp,Op.shift,eqGuard,show ¬b<0 by omega]
theorem Y.shr{x y:Operand}{t u:TypeId}{k k2:IntKind}{a b:Int}(ho:o.op= .binOp .shr t x y u)(hx:opv l x=some (.int k a))(hy:opv l y=some (.int k2 b))(hb:0≤b):Y P w0 n l H o (.int k (a.fdiv (2^min b.toNat k.bits))):=by
 intro a w hf ha;simp[execOp,ho,hf.eval hx,hf.eval hy,binOp,Op.shift,eqGuard,show ¬b<0 by omega]
theorem Y.lss{x y:Operand}{t u:TypeId}{k:IntKind}{a b:Int}(ho:o.op= .binOp .lss t x y u)(hx:opv l x=some (.int k a))(hy:opv l y=some (.int k b)):Y P w0 n l H o (.bool (decide (a<b))):=by
 intro a w hf ha;simp[execOp,ho,hf.eval hx,hf.eval hy,binOp,Op.intCmp,eqGuard]
theorem Y.leq{x y:Operand}{t u:TypeId}{k:IntKind}{a b:Int}(ho:o.op= .binOp .leq t x y u)(hx:opv l x=some (.int k a))(hy:opv l y=some (.int k b)):Y P w0 n l H o (.bool (decide (a≤b))):=by
 intro a w hf ha;simp[execOp,ho,hf.eval hx,hf.eval hy,binOp,Op.intCmp,eqGuard]
theorem Y.gtr{x y:Operand}{t u:TypeId}{k:IntKind}{a b:Int}(ho:o.op= .binOp .gtr t x y u)(hx:opv l x=some (.int k a))(hy:opv l y=some (.int k b)):Y P w0 n l H o (.bool (decide (b<a))):=by
 intro a w hf ha;simp[execOp,ho,hf.eval hx,hf.eval hy,binOp,Op.intCmp,eqGuard]
theorem Y.geq{x y:Operand}{t u:TypeId}{k:IntKind}{a b:Int}(ho:o.op= .binOp .geq t x y u)(hx:opv l x=some (.int k a))(hy:opv l y=some (.int k b)):Y P w0 n l H o (.bool (decide (b≤a))):=by
 intro a w hf ha;simp[execOp,ho,hf.eval hx,hf.eval hy,binOp,Op.intCmp,eqGuard]
theorem beq_dec(a b:Int):(a==b)=decide (a=b):=by by_cases h:a=b<;>simp[h]
theorem bne_dec(a b:Int):(a !=b)=decide (a≠b):=by by_cases h:a=b<;>simp[h]
theorem Y.eql{x y:Operand}{t u:TypeId}{k:IntKind}{a b:Int}(ho:o.op= .binOp .eql t x y u)(hx:opv l x=some (.int k a))(hy:opv l y=some (.int k b)):Y P w0 n l H o (.bool (decide (a=b))):=by
 intro ac w hf ha;rw[←beq_dec];simp[execOp,ho,hf.eval hx,hf.eval hy,binOp,Op.intCmp,eqGuard]
theorem Y.neq{x y:Operand}{t u:TypeId}{k:IntKind}{a b:Int}(ho:o.op= .binOp .neq t x y u)(hx:opv l x=some (.int k a))(hy:opv l y=some (.int k b)):Y P w0 n l H o (.bool (decide (a≠b))):=by
 intro ac w hf ha;rw[←bne_dec];simp[execOp,ho,hf.eval hx,hf.eval hy,binOp,Op.intCmp,eqGuard]
theorem Y.not{x:Operand}{t:TypeId}{b:Bool}(ho:o.op= .unOp .not t x)(hx:opv l x=some (.bool b)):Y P w0 n l H o (.bool (!b)):=by
 intro ac w hf ha;simp[execOp,ho,hf.eval hx,Op.unary]
theorem Y.notp{x:Operand}{t:TypeId}{p:Prop}[Decidable p](ho:o.op= .unOp .not t x)(hx:opv l x=some (.bool (decide p))):Y P w0 n l H o (.bool (decide (¬p))):=by
 intro ac w hf ha;simp[execOp,ho,hf.eval hx,Op.unary]
theorem Y.conv{x:Operand}{s d:TypeId}{k kd:IntKind}{a:Int}{ds:TypeDesc}(ho:o.op= .convert s d x)(hs:∀w,(underlying s).run P w= .ok ds w)(hd:∀w,(underlying d).run P w= .ok (.int kd) w)(hx:opv l x=some (.int k a)):Y P w0 n l H o (.int kd (kd.wrap a)):=by
 intro ac w hf ha;simp[execOp,ho,hf.eval hx,convert,hs,hd,Conv.intToInt]
theorem Y.convi{x:Operand}{s d:TypeId}{k kd:IntKind}{a:Int}{ds:TypeDesc}(ho:o.op= .convert s d x)(hs:∀w,(underlying s).run P w= .ok ds w)(hd:∀w,(underlying d).run P w= .ok (.int kd) w)(hx:opv l x=some (.int k a))(hw:kd.wrap a=a):Y P w0 n l H o (.int kd a):=by
 have h:=Y.conv (P:=P) (w0:=w0) (n:=n) (H:=H) ho hs hd hx
 rwa[hw]at h
theorem Y.maxi{x y:Operand}{ts:Array TypeId}{k:IntKind}{a b:Int}(ho:o.op= .call {callee:= .builtin .max,args:= #[x,y],argTypes:=ts})(hx:opv l x=some (.int k a))(hy:opv l y=some (.int k b)):Y P w0 n l H o (.int k (Max.max a b)):=by
 intro ac w hf ha
 have:(if b>a then b else a)=Max.max a b:=by
  by_cases h:b>a
  ·rw[if_pos h];omega
  ·rw[if_neg h];omega
 simp[execOp,ho,hf.eval hx,hf.eval hy,resolve,invoke,builtin,Builtin.max_,Builtin.max2,←this]
theorem Y.mini{x y:Operand}{ts:Array TypeId}{k:IntKind}{a b:Int}(ho:o.op= .call {callee:= .builtin .min,args:= #[x,y],argTypes:=ts})(hx:opv l x=some (.int k a))(hy:opv l y=some (.int k b)):Y P w0 n l H o (.int k (Min.min a b)):=by
 intro ac w hf ha
 have:(if b<a then b else a)=Min.min a b:=by
  by_cases h:b<a
  ·rw[if_pos h];omega
  ·rw[if_neg h];omega
 simp[execOp,ho,hf.eval hx,hf.eval hy,resolve,invoke,builtin,Builtin.min_,Builtin.min2,←this]
theorem iv{k:IntKind}{a b:Int}(h:a=b):some (Value.int k a)=some (.int k b):=by rw[h]
theorem ivv{k:IntKind}{a b:Int}(h:a=b):Value.int k a= .int k b:=by rw[h]
theorem Y.neg{x:Operand}{t:TypeId}{k:IntKind}{a:Int}(ho:o.op= .unOp .neg t x)(hx:opv l x=some (.int k a)):Y P w0 n l H o (.int k (k.wrap (0-a))):=by
 intro ac w hf ha;simp[execOp,ho,hf.eval hx,Op.unary,Op.intArith]
theorem Y.seql{x y:Operand}{t u:TypeId}{a b:List UInt8}(ho:o.op= .binOp .eql t x y u)(hx:opv l x=some (Str a))(hy:opv l y=some (Str b)):Y P w0 n l H o (.bool (decide (a=b))):=by
 intro ac w hf ha;have h:(a==b)=decide (a=b):=by by_cases h:a=b<;>simp[h]
 simp[execOp,ho,hf.eval hx,hf.eval hy,binOp,Op.stringOp,eqGuard,Str,h]
theorem Y.sneq{x y:Operand}{t u:TypeId}{a b:List UInt8}(ho:o.op= .binOp .neq t x y u)(hx:opv l x=some (Str a))(hy:opv l y=some (Str b)):Y P w0 n l H o (.bool (decide (a≠b))):=by
 intro ac w hf ha;have h:(a==b)=decide (a=b):=by by_cases h:a=b<;>simp[h]
 simp[execOp,ho,hf.eval hx,hf.eval hy,binOp,Op.stringOp,eqGuard,Str,h]
theorem Y.slss{x y:Operand}{t u:TypeId}{a b:List UInt8}(ho:o.op= .binOp .lss t x y u)(hx:opv l x=some (Str a))(hy:opv l y=some (Str b)):Y P w0 n l H o (.bool (Op.bytesLess a b)):=by
 intro ac w hf ha;have e1:=ByteArray.toList_eq (ByteArray.mk a.toArray);have e2:=ByteArray.toList_eq (ByteArray.mk b.toArray);simp only at e1 e2;simp[execOp,ho,hf.eval hx,hf.eval hy,binOp,Op.stringOp,eqGuard,Str,e1,e2]
theorem str_size(a:List UInt8):(ByteArray.mk a.toArray).size=a.length:=by simp[ByteArray.size]
theorem Y.sadd{x y:Operand}{t u:TypeId}{a b:List UInt8}(ho:o.op= .binOp .add t x y u)(hx:opv l x=some (Str a))(hy:opv l y=some (Str b))(hb:a.length+b.length≤9223372036854775807):Y P w0 n l H o (Str (a++b)):=by
 intro ac w hf ha;have h64:IntKind.i64.max=9223372036854775807:=by decide
 have:¬(((ByteArray.mk a.toArray).size+(ByteArray.mk b.toArray).size:Nat):Int)>IntKind.i64.max:=by
  rw[str_size,str_size,h64];omega
 have e:(ByteArray.mk a.toArray)++(ByteArray.mk b.toArray)=ByteArray.mk (a++b).toArray:=by
  apply ByteArray.ext;simp[ByteArray.data_append]
 simp only[execOp,ho,hf.eval hx,hf.eval hy,binOp,Op.stringOp,eqGuard,Str];rw[if_neg this,e];rfl
theorem Y.slen{x:Operand}{t:TypeId}{s:List UInt8}(ho:o.op= .call {callee:= .builtin .len,args:= #[x],argTypes:= #[t]})(ht:∀w,(underlying t).run P w= .ok .string w)(hx:opv l x=some (Str s)):Y P w0 n l H o (.int .i64 s.length):=by
 have hsz:=str_size s;intro ac w hf ha;simp[execOp,ho,hf.eval hx,resolve,invoke,builtin,Builtin.len_,ht,goInt,Str,hsz]
theorem Y.sindex{x i:Operand}{t:TypeId}{s:List UInt8}{k:IntKind}{iv:Int}(j:Nat)(ho:o.op= .index t x i)(ht:∀w,(underlying t).run P w= .ok .string w)(hx:opv l x=some (Str s))(hi:opv l i=some (.int k iv))(hj:iv=j)(hlt:j<s.length):Y P w0 n l H o (.int .u8 (s[j]'hlt).toNat):=by
 intro ac w hf ha;subst hj
 have hs:(ByteArray.mk s.toArray)[j]?=some (s[j]'hlt):=by
  have hh:j<(ByteArray.mk s.toArray).size:=by rw[str_size];exact hlt
  rw[getElem?_pos _ j hh];simp[ByteArray.getElem_eq_getElem_data]
 simp[execOp,ho,hf.eval hx,hf.eval hi,Instr.index,asIntOf,ht,hs,Str]
theorem Y.sslice{x:Operand}{lo hi:Option Operand}{t:TypeId}{s:List UInt8}(i j:Nat)(ho:o.op= .slice t x lo hi none)(ht:∀w,(underlying t).run P w= .ok .string w)(hx:opv l x=some (Str s))
 (hlo:lo=none∧i=0∨∃p k iv,lo=some p∧opv l p=some (.int k iv)∧iv=(i:Int)) (hhi:hi=none∧j=s.length∨∃p k iv,hi=some p∧opv l p=some (.int k iv)∧iv=(j:Int)) (hij:i≤j) (hj:j≤s.length):Y P w0 n l H o (Str ((s.take j).drop i)):=by
 intro ac w hf ha
 have e1:∀w,(Instr.sliceBounds false s.length s.length (lo.map ac.eval) (hi.map ac.eval) none).run P w= .ok (i,j,s.length) w:=by
  intro w
  rcases hlo with⟨rfl,rfl⟩|⟨p,k,iv,rfl,h1,rfl⟩<;>rcases hhi with⟨rfl,rfl⟩|⟨p2,k2,iv2,rfl,h3,rfl⟩<;>
   simp[Instr.sliceBounds,Instr.sliceBound,asIntOf,hf.eval, *]
 have hu:∀w,(underlying t).run P w= .ok .string w:=ht;have hsz:(ByteArray.mk s.toArray).size=s.length:=str_size s
 have hex:(ByteArray.mk s.toArray).extract i j=ByteArray.mk ((s.take j).drop i).toArray:=by
  apply ByteArray.ext;simp[ByteArray.data_extract,List.extract_toArray,List.extract_eq_take_drop,List.drop_take]
 simp[execOp,ho,hf.eval hx,Instr.sliceAt,Instr.slice,hu,Str,hsz,e1,hex]
section
variable {α : Type} {F : Nat → Prop} {f : α → List Value} {sz : Nat} {v : Value} {xs : List α}
theorem Y.len{x:Operand}{t e:TypeId}(h:Rd F H f sz v xs)(ho:o.op= .call {callee:= .builtin .len,args:= #[x],argTypes:= #[t]})(ht:∀w,(underlying t).run P w= .ok (.slice e) w)(hx:opv l x=some v):Y P w0 n l H o (.int .i64 xs.length):=by
 obtain⟨a,cap,rfl,_⟩:=h.ex;intro ac w hf ha;simp[execOp,ho,hf.eval hx,resolve,invoke,builtin,Builtin.len_,ht,goInt]
theorem Y.indexAddr{x i:Operand}{t e:TypeId}{k:IntKind}{iv:Int}(h:Rd F H f sz v xs)(j:Nat)(ho:o.op= .indexAddr t x i)(ht:∀w,(underlying t).run P w= .ok (.slice e) w)(hs:∀w,(sizeOf e).run P w= .ok sz w)
 (hx:opv l x=some v) (hi:opv l i=some (.int k iv)) (hj:iv=j) (hlt:j<xs.length):∃ad,(∀H',Y P w0 n l H' o (.pointer (some ad)))∧Pt H ad (f xs[j]):=by
 obtain⟨a,cap,rfl,h1,h2,h3⟩:=h.ex;obtain⟨ad,rfl,e2,e3,e4,e5⟩:=h3 (by intro e;subst e;simp at hlt);subst hj;refine⟨_,?_,e5 j xs[j] (by simp[hlt])⟩;intro H' ac w hf ha;simp[execOp,ho,hf.eval hx,hf.eval hi,Instr.indexAt,asIntOf,ht,hs,hlt,add_eq e2]
theorem Y.load1{x:Operand}{t:TypeId}{ad:Addr}{c:Value}{cs:List Value}(h:Pt H ad (c::cs))(ho:o.op= .load t x)(ht:∀w,(isAgg t).run P w= .ok false w)(hx:opv l x=some (.pointer (some ad))):Y P w0 n l H o c:=by
 intro ac w hf ha;have hc:=h.cells 0 c (by simp);have:({block:=ad.block,off:=ad.off+0,spot:=none}:Addr)=ad:=by have:=h.spot;obtain⟨b,off,s⟩:=ad;simp_all
 rw[this,←ha.cell]at hc;simp[execOp,ho,hf.eval hx,Instr.loadAt,Instr.sureAddr,loadVar,ht,load,Sem.run,hc]
theorem run_loadCellsFrom{P:Program}{w:World}{ad:Addr}(hs:ad.spot=none):∀(k i:Nat) (cs:List Value) (acc:Array Value),cs.length=k→(∀j c,cs[j]?=some c→w.cell? ⟨ad.block,ad.off+(i+j),none⟩=some c)→
 (loadCellsFrom ad i k acc).run P w= .ok (acc++cs.toArray) w
 |0,i,cs,acc,hk,_=>by
  have:cs=[]:=List.eq_nil_of_length_eq_zero hk
  subst this;simp[loadCellsFrom]
 |k+1,i,cs,acc,hk,h=>by
  match cs,hk with
  |c::cs,hk=>
   have h0:=h 0 c (by simp);have:=run_loadCellsFrom (P:=P) (w:=w) hs k (i+1) cs (acc.push c) (by simpa using hk) (fun j c' e=>by have:=h (j+1) c' (by simpa using e);rwa[show i+(j+1)=i+1+j by omega]at this);simp only[Nat.add_zero]at h0;simp[loadCellsFrom,load,Sem.run,add_eq hs,h0,this]
theorem Y.loadN{x:Operand}{t:TypeId}{ad:Addr}{cs:List Value}{k:Nat}(h:Pt H ad cs)(ho:o.op= .load t x)(ht:∀w,(isAgg t).run P w= .ok true w)(hs:∀w,(sizeOf t).run P w= .ok k w)(hk:cs.length=k)(hx:opv l x=some (.pointer (some ad))):Y P w0 n l H o (.agg cs.toArray):=by
 intro ac w hf ha;have:=run_loadCellsFrom (P:=P) (w:=w) h.spot k 0 cs #[] hk (fun j c e=>by rw[ha.cell];simpa using h.cells j c e);simp[execOp,ho,hf.eval hx,Instr.loadAt,Instr.sureAddr,loadVar,ht,hs,loadCells,this]
theorem Y.fieldAddr{x:Operand}{s:TypeId}{k off sz2:Nat}{ad:Addr}{cs:List Value}{fs:Array Field}{fd:Field}(h:Pt H ad cs)(ho:o.op= .fieldAddr s x k)(hu:∀w,(underlying s).run P w= .ok (.struct fs) w)(hk:fs[k]?=some fd)(hof:fd.offset=off)
 (hsz:∀w,(sizeOf fd.type).run P w= .ok sz2 w) (hz:sz2≠0) (hx:opv l x=some (.pointer (some ad))):Y P w0 n l H o (.pointer (some (ad.add off))):=by
 intro ac w hf ha;have _h:=h;simp[execOp,ho,hf.eval hx,Instr.fieldAt,Instr.sureAddr,fieldPlace,hu,hk,hof,hsz,hz]
theorem Y.slice{x:Operand}{lo hi:Option Operand}{t e:TypeId}(h:Rd F H f sz v xs)(i j:Nat)(ho:o.op= .slice t x lo hi none)(ht:∀w,(underlying t).run P w= .ok (.slice e) w)(hs:∀w,(sizeOf e).run P w= .ok sz w)(hx:opv l x=some v)
 (hlo:lo=none∧i=0∨∃p k iv,lo=some p∧opv l p=some (.int k iv)∧iv=(i:Int)) (hhi:hi=none∧j=xs.length∨∃p k iv,hi=some p∧opv l p=some (.int k iv)∧iv=(j:Int)) (hij:i≤j) (hj:j≤xs.length):
 ∃v',(∀H',Y P w0 n l H' o v')∧Rd F H f sz v' ((xs.take j).drop i):=by
 obtain⟨a,cap,rfl,h1,h2,h3⟩:=h.ex;refine⟨.slice (if cap=i then a else a.map (·.add (i*sz))) (j-i) (cap-i),?_,?_⟩
 ·intro H' ac w hf ha
  have e1:∀w,(Instr.sliceBounds true xs.length cap (lo.map ac.eval) (hi.map ac.eval) none).run P w= .ok (i,j,cap) w:=by
   intro w;have b2:j≤cap:=by omega
   rcases hlo with⟨rfl,rfl⟩|⟨p,k,iv,rfl,h1,rfl⟩<;>rcases hhi with⟨rfl,rfl⟩|⟨p2,k2,iv2,rfl,h3,rfl⟩<;>
    simp[Instr.sliceBounds,Instr.sliceBound,asIntOf,hf.eval, *]
  have hu:∀w,(underlying t).run P w= .ok (.slice e) w:=ht;simp[execOp,ho,hf.eval hx,Instr.sliceAt,Instr.slice,hu,hs,e1]
 ·have hlen:((xs.take j).drop i).length=j-i:=by simp;omega
  refine⟨_,_,by rw[hlen],by rw[hlen];omega,by omega,fun hne=>?_⟩
  have hji:i<j:=by
   apply Decidable.byContradiction;intro hc;exact hne (List.eq_nil_of_length_eq_zero (by rw[hlen];omega))
  obtain⟨ad,rfl,e2,e3,e4,e5⟩:=h3 (by intro e;subst e;simp at hj;omega);rw[if_neg (by omega)];refine⟨ad.add (i*sz),rfl,by rw[add_eq e2],by rw[add_eq e2];exact e3,by rw[add_eq e2];exact e4,fun q y hy=>?_⟩;rw[add_eq e2];rw[List.getElem?_drop,List.getElem?_take]at hy;split at hy
  ·have:=e5 (i+q) y hy
   simpa[Nat.add_mul,Nat.add_assoc]using this
  ·cases hy
end
end
end E

namespace E
section
variable {P : Program} {ops : Array Oper} {md : Region.Mode} {Q : Exit → Act → World → Prop} {S : World → Prop} {X : List Nat}
def wpAnyE(P:Program)(md:Region.Mode)(ops:Array Oper)(Q:Exit→Act→World→Prop)(S:World→Prop)(X:List Nat):Nat→Array Bool→Act→World→Prop
 |0,listed,a,w=>Region.ready md ops listed=[]∧Q .normal a w
 |fuel+1,listed,a,w=>
  (Region.ready md ops listed=[]→Q .normal a w)∧
  ∀i∈Region.ready md ops listed,wpOp P ops Q i (fun a' w'=>(X.contains i=true∨S w')∧wpAnyE P md ops Q S X fuel (listed.setIfInBounds i true) a' w') a w
theorem wpAny_of_E:∀(fuel:Nat) (listed:Array Bool) (a:Act) (w:World),wpAnyE P md ops Q S X fuel listed a w→wpAny P md ops Q fuel listed a w
 |0,_,_,_,h=>h
 |fuel+1,_,_,_,h=>⟨h.1,fun i hi=>wpOp_mono (fun a' w' h'=>wpAny_of_E fuel _ a' w' h'.2) (h.2 i hi)⟩
theorem wpAnyE_first{i:Nat}{oi:Oper}{v:Value}(hi:ops[i]?=some oi)(hsel:∀(j:Nat) (o:Oper) cs b,ops[j]?=some o→o.op≠ .select cs b)
 (hQ:∀c a w,Q (.panic c) (a.put oi.dst v) w→Q (.panic c) a w) (hX:∀j,X.contains j=true→j=i∨Region.waitsFor md ops j i=true):
 ∀(fuel:Nat) (listed:Array Bool) (a:Act) (w:World),
  (∀j oj,ops[j]?=some oj→j≠i→listed.getD j true=false→(∀e∈oj.after,Region.binds md e=true→e.on≠i)→oi.apart ops oj=true)→
  i∈Region.ready md ops listed→YieldsIf P ops S oi v a→S w→
  wpAnyE P md ops Q S X fuel (listed.setIfInBounds i true) (a.put oi.dst v) w→wpAnyE P md ops Q S X (fuel+1) listed a w:=by
 intro fuel
 induction fuel with
 |zero=>
  intro listed a w _ hr hy hS H;refine⟨fun h=>(by rw[h]at hr;cases hr),fun j hj=>?_⟩;by_cases hji:j=i
  ·subst hji;exact hy.wpOp hi hS ⟨.inr hS,H⟩
  ·have:=ready_mono hj hji
   rw[H.1]at this
   cases this
 |succ fuel ih=>
  intro listed a w hfree hr hy hS H;refine⟨fun h=>(by rw[h]at hr;cases hr),fun j hj=>?_⟩;by_cases hji:j=i
  ·subst hji;exact hy.wpOp hi hS ⟨.inr hS,H⟩
  ·have h1:=H.2 j (ready_mono hj hji)
   obtain⟨hjun,oj,hoj,hall⟩:=mem_ready.1 hj
   have hnot:∀e∈oj.after,Region.binds md e=true→e.on≠i:=fun e he hb heq=>by
    have h1:=hall e he hb;have h0:=(mem_ready.1 hr).1;rw[heq]at h1;rcases Nat.lt_or_ge i listed.size with h'|h'
    ·simp[h']at h0 h1;rw[h0]at h1;cases h1
    ·simp[Array.getElem?_eq_none h']at h1
   have hjX:¬X.contains j=true:=fun hc=>by
    rcases hX j hc with h|h
    ·exact hji h
    ·obtain⟨oj',hoj',e,he,hb,hon⟩:=Region.waitsFor_spec h
     have:oj'=oj:=Option.some.inj (hoj'.symm.trans hoj);subst this;exact hnot e he hb hon
   have h2:=wpOp_putIf hoj (hfree j oj hoj hji hjun hnot) (fun cs b=>hsel i oi cs b hi) (fun cs b=>hsel j oj cs b hoj) hQ hy h1
   have hfree':∀k ok,ops[k]?=some ok→k≠i→(listed.setIfInBounds j true).getD k true=false→
    (∀e∈ok.after,Region.binds md e=true→e.on≠i)→oi.apart ops ok=true:=fun k ok hk hki hun hno=>by
    refine hfree k ok hk hki ?_ hno;by_cases hjk:j=k
    ·subst hjk;exact hjun
    ·rw[getD_set_ne true hjk]at hun;exact hun
   refine wpOp_mono (fun a' w' h3=>?_) h2;have hS':S w':=h3.2.1.resolve_left hjX;refine⟨.inr hS',ih (listed.setIfInBounds j true) a' w' hfree' (ready_mono hr (Ne.symm hji)) h3.1 hS' ?_⟩;rw[Array.setIfInBounds_comm _ _ hji];exact h3.2.2
theorem wpAnyE_take{i:Nat}{oi:Oper}{v:Value}{fuel:Nat}{listed:Array Bool}{a:Act}{w:World}(hX:X.all (fun j=>Nat.beq j i||Region.waitsFor md ops j i)=true)(hi:ops[i]?=some oi)
 (hs:Region.noSelect ops=true) (hf:Region.free md ops listed i=true) (hr:(Region.ready md ops listed).contains i=true)
 (hQ:∀c a w,Q (.panic c) (a.put oi.dst v) w→Q (.panic c) a w) (hy:YieldsIf P ops S oi v a) (hS:S w)
 (h:wpAnyE P md ops Q S X fuel (listed.setIfInBounds i true) (a.put oi.dst v) w):wpAnyE P md ops Q S X (fuel+1) listed a w:=
 wpAnyE_first hi (Region.noSelect_spec hs) hQ (fun j hj=>by
  have:=List.all_eq_true.1 hX j (by simpa using hj);rw[Bool.or_eq_true]at this;exact this.imp Nat.eq_of_beq_eq_true id) fuel listed a w (Region.free_spec hi hf) (by simpa using hr) hy hS h
theorem wpAnyE_all{rs:List Nat}{fuel:Nat}{listed:Array Bool}{a:Act}{w:World}(hr:Region.ready md ops listed=rs)(hne:rs≠[])
 (h:∀i∈rs,wpOp P ops Q i (fun a' w'=>(X.contains i=true∨S w')∧wpAnyE P md ops Q S X fuel (listed.setIfInBounds i true) a' w') a w):wpAnyE P md ops Q S X (fuel+1) listed a w:=
 ⟨fun h0=>absurd (hr▸h0) hne,hr▸h⟩
theorem wpAnyE_done{listed:Array Bool}{a:Act}{w:World}(hr:Region.ready md ops listed=[])(h:Q .normal a w):∀fuel,wpAnyE P md ops Q S X fuel listed a w
 |0=>⟨hr,h⟩
 |_+1=>⟨fun _=>h,by rw[hr];simp⟩
end
def lst(n:Nat)(dn:List Nat):Array Bool:=dn.foldr (fun i a=>a.setIfInBounds i true) (Array.replicate n false)
def LH(P:Program)(w0:World)(ops:Array Oper)(Q:Exit→Act→World→Prop)(SH:Heap→Prop)(X:List Nat)(n k:Nat)(dn:List Nat)(l:FL)(H:Heap):Prop:=
 ∀a w,Fr n l a→At w0 H w→wpAnyE P .any ops (NoPanic Q) (fun w'=>∃H',At w0 H' w'∧SH H') X k (lst ops.size dn) a w
def LO(P:Program)(w0:World)(ops:Array Oper)(Q:Exit→Act→World→Prop)(SH:Heap→Prop)(X:List Nat)(n k i:Nat)(dn:List Nat)(l:FL)(H:Heap):Prop:=
 ∀a w,Fr n l a→At w0 H w→wpOp P ops (NoPanic Q) i (fun a' w'=>(X.contains i=true∨∃H',At w0 H' w'∧SH H')∧wpAnyE P .any ops (NoPanic Q) (fun w'=>∃H',At w0 H' w'∧SH H') X k (lst ops.size (i::dn)) a' w') a w
section
variable {P : Program} {w0 : World} {Q : Exit → Act → World → Prop} {n k i : Nat} {dn : List Nat} {l : FL} {H : Heap} {ops : Array Oper} {o : Oper} {SH : Heap → Prop} {X : List Nat}
theorem CW.region_any{id:Nat}{lo:List Oper}(SH:Heap→Prop)(X:List Nat)(hm:P.follows .mixedOrders=true)(h:LH P w0 lo.toArray Q SH X n lo.length [] l H):CW P w0 Q n l (.region id lo.toArray true) H:=by
 intro a w hf ha;refine wp_region_noPanic (wp_region_any hm (wpAny_of_E (S:=fun w'=>∃H',At w0 H' w'∧SH H') (X:=X) _ _ _ _ ?_));have:=h a _ hf ha.drew
 simpa[lst]using this
theorem LH.take{v:Value}{d:Nat}(i:Nat)(hX:X.all (fun j=>Nat.beq j i||Region.waitsFor .any ops j i)=true)(hi:ops[i]?=some o)(hs:Region.noSelect ops=true)(hfr:Region.free .any ops (lst ops.size dn) i=true)(hr:(Region.ready .any ops (lst ops.size dn)).contains i=true)
 (hy:∀H',SH H'→Y P w0 n l H' o v) (hw:Wd ops l o) (hd:o.dst=some d) (hn:Nat.blt d n=true) (hS:SH H) (h:LH P w0 ops Q SH X n k (i::dn) ((d,v)::l) H):LH P w0 ops Q SH X n (k+1) dn l H:=by
 intro a w hf ha;have hp:=hf.put hn v;rw[←hd]at hp;exact wpAnyE_take hX hi hs hfr hr (fun _ _ _ h=>h) (.inl ⟨hw n a hf,fun w' ⟨H',ha',hS'⟩=>hy H' hS' a w' hf ha'⟩) ⟨H,ha,hS⟩ (h _ w hp ha)
theorem LH.e{α:Type}{g:α→Value}{φ:α→Prop}{d:Nat}(i:Nat)(hX:X.all (fun j=>Nat.beq j i||Region.waitsFor .any ops j i)=true)(hi:ops[i]?=some o)(hs:Region.noSelect ops=true)(hfr:Region.free .any ops (lst ops.size dn) i=true)(hr:(Region.ready .any ops (lst ops.size dn)).contains i=true)
 (hy:∃x,(∀H',Y P w0 n l H' o (g x))∧φ x) (hw:Wd ops l o) (hd:o.dst=some d) (hn:Nat.blt d n=true) (hS:SH H) (h:∀x,φ x→LH P w0 ops Q SH X n k (i::dn) ((d,g x)::l) H):LH P w0 ops Q SH X n (k+1) dn l H:=
 let⟨x,h1,h2⟩:=hy
 LH.take i hX hi hs hfr hr (fun H' _=>h1 H') hw hd hn hS (h x h2)
theorem LH.gs{d j e:Nat}{b c:Bool}(i:Nat)(hX:X.all (fun j=>Nat.beq j i||Region.waitsFor .any ops j i)=true)(hi:ops[i]?=some o)(hs:Region.noSelect ops=true)(hfr:Region.free .any ops (lst ops.size dn) i=true)(hr:(Region.ready .any ops (lst ops.size dn)).contains i=true)
 (hg:o.guard=some (j,b)) (hj:(ops[j]?).bind (·.dst)=some e) (hc:lk l e=some (.bool c)) (hne:(c==b)=false) (hd:o.dst=some d) (hn:Nat.blt d n=true) (hS:SH H) (h:LH P w0 ops Q SH X n k (i::dn) ((d,undef)::l) H):LH P w0 ops Q SH X n (k+1) dn l H:=by
 intro a w hf ha
 have hw:Region.wanted o (yielded ops a.tmps)=false:=by
  have hne':c≠b:=by intro e;subst e;simp at hne
  simp[Region.wanted,hg,yielded_of hf hj hc,hne']
 have hp:=hf.put hn undef;rw[←hd]at hp;exact wpAnyE_take hX hi hs hfr hr (fun _ _ _ h=>h) (.inr ⟨hw,rfl⟩) ⟨H,ha,hS⟩ (h _ w hp ha)
theorem LH.splitp{d:Nat}{p:Prop}[Decidable p](hc:lk l d=some (.bool (decide p)))(ht:p→LH P w0 ops Q SH X n k dn ((d,.bool true)::l) H)(he:¬p→LH P w0 ops Q SH X n k dn ((d,.bool false)::l) H):LH P w0 ops Q SH X n k dn l H:=by
 intro a w hf ha;by_cases hp:p
 ·rw[decide_eq_true hp]at hc;exact ht hp a w (hf.same hc) ha
 ·rw[decide_eq_false hp]at hc;exact he hp a w (hf.same hc) ha
theorem LH.split{d:Nat}{b:Bool}(hc:lk l d=some (.bool b))(ht:b=true→LH P w0 ops Q SH X n k dn ((d,.bool true)::l) H)(he:b=false→LH P w0 ops Q SH X n k dn ((d,.bool false)::l) H):LH P w0 ops Q SH X n k dn l H:=by
 intro a w hf ha;cases b
 ·exact he rfl a w (hf.same hc) ha
 ·exact ht rfl a w (hf.same hc) ha
theorem wpAnyE_narrow{md:Region.Mode}{Q:Exit→Act→World→Prop}{S S2:World→Prop}(hS:∀w,S2 w→S w):∀(fuel:Nat) (listed:Array Bool) (a:Act) (w:World),wpAnyE P md ops Q S2 X fuel listed a w→wpAnyE P md ops Q S X fuel listed a w
 |0,_,_,_,h=>h
 |fuel+1,_,_,_,h=>⟨h.1,fun i hi=>wpOp_mono (fun a' w' h'=>⟨h'.1.imp id (hS w'),wpAnyE_narrow hS fuel _ a' w' h'.2⟩) (h.2 i hi)⟩
theorem LH.narrow{SH2:Heap→Prop}(hS:∀H',SH2 H'→SH H')(h:LH P w0 ops Q SH2 X n k dn l H):LH P w0 ops Q SH X n k dn l H:=
 fun a w hf ha=>wpAnyE_narrow (fun _ ⟨H',h1,h2⟩=>⟨H',h1,hS H' h2⟩) _ _ _ _ (h a w hf ha)
theorem LH.done(hr:Region.ready .any ops (lst ops.size dn)=[])(h:QN w0 Q n l H):LH P w0 ops Q SH X n k dn l H:=
 fun a w hf ha=>wpAnyE_done (Q:=NoPanic Q) hr (NoPanic.normal (h a w hf ha)) _
theorem LH.one{i:Nat}(hr:Region.ready .any ops (lst ops.size dn)=[i])(h:LO P w0 ops Q SH X n k i dn l H):LH P w0 ops Q SH X n (k+1) dn l H:=
 fun a w hf ha=>wpAnyE_all hr (by simp) (fun j hj=>by
  simp only[List.mem_singleton]at hj;subst hj;exact h a w hf ha)
theorem LO.z{R:Value→Heap→Prop}{d:Nat}(hi:ops[i]?=some o)(hz:Z P w0 n l H o R)(hw:Wd ops l o)(hd:o.dst=some d)(hn:Nat.blt d n=true)
 (h:∀v H',R v H'→(X.contains i=true∨SH H')∧LH P w0 ops Q SH X n k (i::dn) ((d,v)::l) H'):LO P w0 ops Q SH X n k i dn l H:=by
 intro a w hf ha;obtain⟨v,H',w',hr,ha',hR⟩:=hz a w hf ha;obtain⟨h1,h2⟩:=h v H' hR;have hp:=hf.put hn v;rw[←hd]at hp;unfold wpOp;simp only[hi];rw[if_pos (hw n a hf)];refine .inl ?_;unfold Oper.wp;rw[hr];exact⟨h1.imp id (fun h1=>⟨H',ha',h1⟩),h2 _ w' hp ha'⟩
theorem LO.v{v:Value}{d:Nat}(hi:ops[i]?=some o)(hy:Y P w0 n l H o v)(hw:Wd ops l o)(hd:o.dst=some d)(hn:Nat.blt d n=true)(hS:X.contains i=true∨SH H)
 (h:LH P w0 ops Q SH X n k (i::dn) ((d,v)::l) H):LO P w0 ops Q SH X n k i dn l H:=
 LO.z (R:=fun u H'=>u=v∧H'=H) hi (fun a w hf ha=>⟨v,H,w,hy a w hf ha,ha,rfl,rfl⟩) hw hd hn (fun u H' ⟨e1,e2⟩=>by subst e1;subst e2;exact⟨hS,h⟩)
theorem LO.s{R:Heap→Prop}(hi:ops[i]?=some o)(hz:S P w0 n l H o R)(hw:Wd ops l o)(hd:o.dst=none)
 (h:∀H',R H'→(X.contains i=true∨SH H')∧LH P w0 ops Q SH X n k (i::dn) l H'):LO P w0 ops Q SH X n k i dn l H:=by
 intro a w hf ha;obtain⟨H',w',hr,ha',hR⟩:=hz a w hf ha;obtain⟨h1,h2⟩:=h H' hR;unfold wpOp;simp only[hi];rw[if_pos (hw n a hf)];refine .inl ?_;unfold Oper.wp;rw[hr];show(fun a' w'=>(X.contains i=true∨∃H',At w0 H' w'∧SH H')∧wpAnyE P .any ops (NoPanic Q) (fun w'=>∃H',At w0 H' w'∧SH H') X k (lst ops.size (i::dn)) a' w') (a.put o.dst undef) w';rw[hd];exact⟨h1.imp id (fun h1=>⟨H',ha',h1⟩),h2 a w' hf ha'⟩
theorem LO.call{R:Value→Heap→Prop}{f d:Nat}{args:List Operand}{ats:Array TypeId}{vs:List Value}(hi:ops[i]?=some o)(ho:o.op= .call {callee:= .value (.func f),args:=args.toArray,argTypes:=ats})
 (hcall:∀(vs:Array Value) (w:World),(callFunc f vs).run P w= .ok (.enter f vs) w) (hv:opvs l args=some vs) (hw:Wd ops l o) (hd:o.dst=some d) (hn:Nat.blt d n=true) (hc:Ct P w0 f vs.toArray H R)
 (h:∀v H',R v H'→(X.contains i=true∨SH H')∧LH P w0 ops Q SH X n k (i::dn) ((d,v)::l) H'):LO P w0 ops Q SH X n k i dn l H:=by
 intro a w hf ha;have hr:=run_call (P:=P) (ρ:=a.eval) (w:=w) ho rfl hcall;rw[List.map_toArray,hf.evals hv]at hr;unfold wpOp;simp only[hi];rw[if_pos (hw n a hf)];refine .inl ?_;unfold Oper.wp;rw[hr];show Calls P f vs.toArray w _;refine(hc w ha).mono ?_;rintro e w' ⟨r,H',rfl,ha',hR⟩;obtain⟨h1,h2⟩:=h r H' hR;have hp:=hf.put hn r;rw[←hd]at hp;exact⟨h1.imp id (fun h1=>⟨H',ha',h1⟩),h2 _ w' hp ha'⟩
end
end E

namespace E
abbrev RdT{α:Type}(H:Heap)(f:α→List Value)(sz:Nat)(v:Value)(l:List α):Prop:=Rd (fun _=>True) H f sz v l
theorem Rd.any{α:Type}{F:Nat→Prop}{H:Heap}{f:α→List Value}{sz:Nat}{v:Value}{l:List α}(h:Rd F H f sz v l):RdT H f sz v l:=h.imp (fun _ _ _=>trivial)
theorem Rd.lt{α:Type}{F:Nat→Prop}{H:Heap}{f:α→List Value}{sz:Nat}{v:Value}{l:List α}(h:Rd F H f sz v l):Rd (fun b=>b<H.size) H f sz v l:=h.imp (fun _ hb _=>hb)
def Soft(fz:Nat×Nat)(n:Nat):Prop:=fz.1≤fz.2∧∀i,i<n→¬(fz.1≤i∧i<fz.2)
theorem Soft.zero(n:Nat):Soft (0,0) n:=⟨Nat.le_refl _,fun _ _ h=>absurd h.2 (Nat.not_lt_zero _)⟩
def Row(H:Heap)(g:Nat)(cur:Array Value)(e:TypeId):Prop:=∃fz,H[g]?=some (.cells cur e fz)∧Soft fz cur.size
theorem Row.lt{H:Heap}{g:Nat}{cur:Array Value}{e:TypeId}(h:Row H g cur e):g<H.size:=let⟨_,h,_⟩:=h;(Array.getElem?_eq_some_iff.1 h).1
theorem Row.up{H H':Heap}{g:Nat}{cur:Array Value}{e:TypeId}(h:Row H g cur e)(hs:H'[g]?=H[g]?):Row H' g cur e:=let⟨fz,h1,h2⟩:=h;⟨fz,by rw[hs];exact h1,h2⟩
theorem Row.cell{H:Heap}{g:Nat}{cur:Array Value}{e:TypeId}(h:Row H g cur e)(i:Nat):E.cell H ⟨g,i,none⟩=cur[i]?:=by
 obtain⟨fz,h1,_⟩:=h;simp[E.cell,h1]
theorem Row.of{H:Heap}{g:Nat}{cur:Array Value}{e:TypeId}(h:H[g]?=some (.cells cur e (0,0))):Row H g cur e:=⟨_,h,Soft.zero _⟩
structure Own {α:Type} (G:Nat→Prop) (e:TypeId) (H:Heap) (f:α→List Value) (sz:Nat) (v:Value) (l:List α):Prop where
 cells:∀x,(f x).length=sz
 one:∀x,∀u∈f x,u.oneCell'=true
 ex:(v= .slice none 0 0∧l=[])∨∃g cap cur,v= .slice (some ⟨g,0,none⟩) l.length cap∧G g∧Row H g cur e∧l.length≤cap∧cap≤maxLen∧cur.size=cap*sz∧cur.toList.take (l.length*sz)=l.flatMap f
abbrev fS(s:List UInt8):List Value:=[Str s]
abbrev fI(x:Int):List Value:=[.int .i64 x]
abbrev fB(b:UInt8):List Value:=[.int .u8 b.toNat]
structure SV where
 a:Option Addr
 len:Nat
 cap:Nat
abbrev SV.v(s:SV):Value:= .slice s.a s.len s.cap
theorem fS_len(s:List UInt8):(fS s).length=1:=rfl
theorem fS_one(s:List UInt8):∀u∈fS s,u.oneCell'=true:=by intro u hu;simp only[List.mem_singleton]at hu;subst hu;rfl
theorem fI_len(s:Int):(fI s).length=1:=rfl
theorem fI_one(s:Int):∀u∈fI s,u.oneCell'=true:=by intro u hu;simp only[List.mem_singleton]at hu;subst hu;rfl
theorem fB_len(s:UInt8):(fB s).length=1:=rfl
theorem fB_one(s:UInt8):∀u∈fB s,u.oneCell'=true:=by intro u hu;simp only[List.mem_singleton]at hu;subst hu;rfl
def blk:Value→Nat
 | .slice (some a) _ _=>a.block
 | .pointer (some a)=>a.block
 | .map (some r)=>r
 |_=>0
theorem length_flatMap{α:Type}{f:α→List Value}{sz:Nat}(hf:∀x,(f x).length=sz):∀l:List α,(l.flatMap f).length=l.length*sz
 |[]=>by simp
 |x::l=>by simp[hf x,length_flatMap hf l,Nat.add_mul,Nat.add_comm]
theorem get_flatMap{α:Type}{f:α→List Value}{sz:Nat}(hf:∀x,(f x).length=sz):∀(l:List α) (i j:Nat) (x:α) (c:Value),l[i]?=some x→(f x)[j]?=some c→(l.flatMap f)[i*sz+j]?=some c
 |[],_,_,_,_,h,_=>by simp at h
 |y::l,0,j,x,c,h,hc=>by
  simp only[List.getElem?_cons_zero,Option.some.injEq]at h;subst h;have hj:=(List.getElem?_eq_some_iff.1 hc).1;simp only[List.flatMap_cons,Nat.zero_mul,Nat.zero_add]
  rw[List.getElem?_append_left hj];exact hc
 |y::l,i+1,j,x,c,h,hc=>by
  simp only[List.getElem?_cons_succ]at h;simp only[List.flatMap_cons];rw[List.getElem?_append_right (by rw[hf y,Nat.add_mul];omega),hf y];have:=get_flatMap hf l i j x c h hc;rwa[show(i+1)*sz+j-sz=i*sz+j by rw[Nat.add_mul];omega]
theorem Own.rd{α:Type}{G:Nat→Prop}{e:TypeId}{H:Heap}{f:α→List Value}{sz:Nat}{v:Value}{l:List α}(h:Own G e H f sz v l):Rd G H f sz v l:=by
 rcases h.ex with⟨rfl,rfl⟩|⟨g,cap,cur,rfl,hg,hh,h1,h2,h3,h4⟩
 ·exact Rd.nil _ _ _ _
 ·refine⟨_,cap,rfl,h1,h2,fun _=>⟨_,rfl,rfl,hg,hh.lt,fun i x hx=>⟨rfl,fun j c hc=>?_⟩⟩⟩
  have hr:=get_flatMap h.cells l i j x c hx hc;rw[←h4,List.getElem?_take]at hr;split at hr
  ·simp only[Nat.zero_add]
   rw[hh.cell]
   simpa using hr
  ·cases hr
def toSV:Value→SV
 | .slice a l c=>⟨a,l,c⟩
 |_=>⟨none,0,0⟩
theorem Rd.sv{α:Type}{F:Nat→Prop}{H:Heap}{f:α→List Value}{sz:Nat}{v:Value}{l:List α}(h:Rd F H f sz v l):(toSV v).v=v:=by
 obtain⟨a,cap,rfl,_⟩:=h.ex;rfl
theorem Rd.oneCell{α:Type}{F:Nat→Prop}{H:Heap}{f:α→List Value}{sz:Nat}{v:Value}{l:List α}(h:Rd F H f sz v l):v.oneCell'=true:=by
 obtain⟨a,cap,rfl,_⟩:=h.ex;rfl
theorem Own.sv{α:Type}{G:Nat→Prop}{e:TypeId}{H:Heap}{f:α→List Value}{sz:Nat}{v:Value}{l:List α}(h:Own G e H f sz v l):(toSV v).v=v:=h.rd.sv
section
variable {α : Type} {G : Nat → Prop} {e : TypeId} {H H' : Heap} {f : α → List Value} {sz : Nat} {v : Value} {l : List α}
theorem Own.nil(hf:∀x,(f x).length=sz)(h1:∀x,∀u∈f x,u.oneCell'=true):Own G e H f sz (.slice none 0 0) []:=⟨hf,h1,.inl ⟨rfl,rfl⟩⟩
theorem Own.up{S:Nat→Prop}(h:Own G e H f sz v l)(s:Mo S H H')(hS:∀b,b<H.size→G b→¬S b):Own G e H' f sz v l:=by
 refine⟨h.cells,h.one,?_⟩;rcases h.ex with h|⟨g,cap,cur,hv,hg,hh,r⟩
 ·exact .inl h
 ·exact .inr ⟨g,cap,cur,hv,hg,hh.up (s.same g hh.lt (hS _ hh.lt hg)),r⟩
theorem Own.imp{G':Nat→Prop}(h:Own G e H f sz v l)(hG:∀b,b<H.size→G b→G' b):Own G' e H f sz v l:=by
 refine⟨h.cells,h.one,?_⟩;rcases h.ex with h|⟨g,cap,cur,hv,hg,hh,r⟩
 ·exact .inl h
 ·exact .inr ⟨g,cap,cur,hv,hG _ hh.lt hg,hh,r⟩
theorem Own.at{j:Nat}(h:Own G e H f sz v l)(hj:j<l.length):G (blk v)∧blk v<H.size∧∃cap,v= .slice (some ⟨blk v,0,none⟩) l.length cap:=by
 rcases h.ex with⟨rfl,rfl⟩|⟨g,cap,cur,rfl,hg,hh,r⟩
 ·simp at hj
 ·exact⟨hg,hh.lt,cap,rfl⟩
theorem Own.pt{j:Nat}(h:Own G e H f sz v l)(hj:j<l.length):Pt H ⟨blk v,j*sz,none⟩ (f l[j]):=by
 obtain⟨h1,h2,cap,h3⟩:=h.at hj;obtain⟨a,cap',hv,_,_,hr⟩:=h.rd.ex;obtain⟨ad,rfl,e2,e3,e4,e5⟩:=hr (by intro e;subst e;simp at hj);have hb:blk v=ad.block:=by rw[hv];rfl
 have:=e5 j l[j] (by simp[hj]);rw[hv]at h3;simp only[Value.slice.injEq,Option.some.injEq]at h3;have ho:ad.off=0:=by rw[h3.1]
 rw[ho,Nat.zero_add,←hb]at this;exact this
theorem set_flatMap{f:α→List Value}{sz:Nat}(hf:∀x,(f x).length=sz):∀(l:List α) (j k:Nat) (x y:α) (c:Value),l[j]?=some x→k<sz→f y=(f x).set k c→(l.set j y).flatMap f=(l.flatMap f).set (j*sz+k) c
 |[],_,_,_,_,_,h,_,_=>by simp at h
 |z::l,0,k,x,y,c,h,hk,hy=>by
  simp only[List.getElem?_cons_zero,Option.some.injEq]at h;subst h;simp only[List.set_cons_zero,List.flatMap_cons,hy,Nat.zero_mul,Nat.zero_add]
  rw[List.set_append_left _ _ (by rw[hf z];exact hk)]
 |z::l,j+1,k,x,y,c,h,hk,hy=>by
  simp only[List.getElem?_cons_succ]at h;simp only[List.set_cons_succ,List.flatMap_cons];rw[set_flatMap hf l j k x y c h hk hy,List.set_append_right _ _ (by rw[hf z,Nat.add_mul];omega),hf z];congr 2;rw[Nat.add_mul];omega
def hset(H:Heap)(b i:Nat)(c:Value):Heap:=H.modify b fun
 | .cells cs e fz=> .cells (cs.setIfInBounds i c) e fz
 |o=>o
theorem hset_mo(H:Heap)(b i:Nat)(c:Value):Mo (fun k=>k=b) H (hset H b i c):=
 ⟨by simp[hset],fun k _ hk=>by simp only[hset,Array.getElem?_modify];rw[if_neg (fun e=>hk e.symm)]⟩
theorem hset_at{b i:Nat}{c:Value}{cs:Array Value}{e:TypeId}{fz:Nat×Nat}(h:H[b]?=some (.cells cs e fz)):(hset H b i c)[b]?=some (.cells (cs.setIfInBounds i c) e fz):=by
 simp only[hset,Array.getElem?_modify,if_true,h];rfl
theorem Row.set{H:Heap}{b i:Nat}{c:Value}{cs:Array Value}{e:TypeId}(h:Row H b cs e):Row (hset H b i c) b (cs.setIfInBounds i c) e:=
 let⟨fz,h1,h2⟩:=h;⟨fz,hset_at h1,by simpa using h2⟩
theorem Own.set{j k:Nat}{y:α}{c:Value}(h:Own G e H f sz v l)(hj:j<l.length)(hk:k<sz)(hy:f y=(f l[j]).set k c):Own G e (hset H (blk v) (j*sz+k) c) f sz v (l.set j y):=by
 refine⟨h.cells,h.one,?_⟩;rcases h.ex with⟨rfl,rfl⟩|⟨g,cap,cur,rfl,hg,hh,h1,h2,h3,h4⟩
 ·simp at hj
 ·refine .inr ⟨g,cap,_,by rw[List.length_set],hg,hh.set,by rw[List.length_set];exact h1,h2,by simpa using h3,?_⟩
  have hlt:j*sz+k<l.length*sz:=by
   have:=Nat.mul_le_mul_right sz (show j+1≤l.length from hj);rw[Nat.add_mul]at this;omega
  rw[set_flatMap h.cells l j k l[j] y c (by simp[hj]) hk hy,←h4,List.length_set,Array.toList_setIfInBounds,List.take_set]
end
theorem map_zip_swap_range{α:Type}{vs:List α}{k:Nat}(hk:vs.length=k):(vs.zip (List.range' 0 vs.length)).map (fun p=>(p.2,p.1))=(List.range k).zip vs:=by
 subst hk;rw[List.range_eq_range'];generalize 0=s
 induction vs generalizing s with
 |nil=>rfl
 |cons v vs ih=>simp[List.range'_succ,ih]
section
variable {P : Program} {w0 : World} {n : Nat} {l : FL} {H : Heap} {o : Oper}
theorem At.alloc{w:World}(ha:At w0 H w)(ob:Obj):At w0 (H.push ob) (w.alloc ob):=⟨by simp[World.alloc,ha.heap],ha.os,ha.tape,ha.output,ha.dr⟩
theorem Z.alloc{t:TypeId}{z:Value}(ho:o.op= .alloc t)(hz:∀w,(zeroValue t).run P w= .ok z w):Z P w0 n l H o (fun v H'=>v= .pointer (some ⟨H.size,0,none⟩)∧H'=H.push (.cells z.cells t)):=by
 intro a w hf ha;refine⟨_,_,_,?_,ha.alloc (.cells z.cells t),rfl,rfl⟩;simp[execOp,ho,Instr.alloc,hz,newVar,newRow,ha.heap]
theorem Z.box{t:TypeId}{x:Operand}{v:Value}(ho:o.op= .box t x)(hx:opv l x=some v):Z P w0 n l H o (fun r H'=>r= .pointer (some ⟨H.size,0,none⟩)∧H'=H.push (.cells v.cells t)):=by
 intro a w hf ha;refine⟨_,_,_,?_,ha.alloc (.cells v.cells t),rfl,rfl⟩;simp[execOp,ho,hf.eval hx,Instr.box,newVar,newRow,ha.heap]
theorem run_store{w:World}{ad:Addr}{c u:Value}(h:w.cell? ad=some u)(hz:w.frozen? ad=false)(h1:c.oneCell'=true):(store ad c).run P w= .ok () (w.setCell ad c):=by
 cases c<;>first|(simp[Value.oneCell']at h1;done)|simp[store,Sem.run,h,hz]
theorem S.cell{x y:Operand}{t:TypeId}{b i:Nat}{c:Value}{cs:Array Value}{e:TypeId}(ho:o.op= .store t x y)(hx:opv l x=some (.pointer (some ⟨b,i,none⟩)))(hy:opv l y=some c)(h1:c.oneCell'=true)
 (hs:∀w,(sizeOf t).run P w= .ok 1 w) (hb0:Row H b cs e) (hi:i<cs.size):S P w0 n l H o (fun H'=>H'=hset H b i c):=by
 intro a w hf ha;obtain⟨⟨f1,f2⟩,hb,hsf⟩:=hb0;have hc:w.cell? ⟨b,i,none⟩=some cs[i]:=by rw[ha.cell];simp[E.cell,hb,hi]
 have hz:w.frozen? ⟨b,i,none⟩=false:=by have:=hsf.2 i hi;simp only at this;simp[World.frozen?,ha.heap,hb];omega
 have hcs:c.cells= #[c]:=by cases c<;>first|(simp[Value.oneCell']at h1;done)|rfl
 refine⟨hset H b i c,{w with heap:=hset H b i c},?_,ha.set,rfl⟩;have hr:=run_store (P:=P) hc hz h1
 have hw:w.setCell ⟨b,i,none⟩ c={w with heap:=hset H b i c}:=by
  simp only[World.setCell,hset,ha.heap];congr 1
 rw[hw]at hr;have ha0:(⟨b,i,none⟩:Addr).add 0=⟨b,i,none⟩:=by simp[Addr.add]
 simp[execOp,ho,hf.eval hx,hf.eval hy,Instr.storeAt,Instr.sureAddr,storeVar,hcs,hs,storeCells,hr,ha0]
section
variable {α : Type} {G F : Nat → Prop} {e : TypeId} {f : α → List Value} {sz : Nat} {v : Value} {xs ys : List α}
theorem Y.ownAddr{x i:Operand}{t:TypeId}{k:IntKind}{iv:Int}(h:Own G e H f sz v xs)(j:Nat)(ho:o.op= .indexAddr t x i)(ht:∀w,(underlying t).run P w= .ok (.slice e) w)(hs:∀w,(sizeOf e).run P w= .ok sz w)
 (hx:opv l x=some v) (hi:opv l i=some (.int k iv)) (hj:iv=j) (hlt:j<xs.length):Y P w0 n l H o (.pointer (some ⟨blk v,j*sz,none⟩)):=by
 obtain⟨h1,h2,cap,h3⟩:=h.at hlt;subst hj;intro ac w hf ha;have hx':=hf.eval hx;rw[h3]at hx';simp[execOp,ho,hx',hf.eval hi,Instr.indexAt,asIntOf,ht,hs,hlt,add_eq]
theorem S.own{x y:Operand}{t:TypeId}{c:Value}(h:Own G e H f sz v xs)(j k:Nat)(z:α)(ho:o.op= .store t x y)(hx:opv l x=some (.pointer (some ⟨blk v,j*sz+k,none⟩)))(hy:opv l y=some c)(h1:c.oneCell'=true)
 (hs:∀w,(sizeOf t).run P w= .ok 1 w) (hj:j<xs.length) (hk:k<sz) (hz:f z=(f xs[j]).set k c):S P w0 n l H o (fun H'=>Own G e H' f sz v (xs.set j z)∧Mo (fun b=>b=blk v) H H'):=by
 intro a w hf ha;rcases h.ex with⟨rfl,rfl⟩|⟨g,cap,cur,hv,hg,hh,r1,r2,r3,r4⟩
 ·simp at hj
 ·have hb:blk v=g:=by rw[hv];rfl
  have hlt:j*sz+k<cur.size:=by
   have:=Nat.mul_le_mul_right sz (show j+1≤cap by omega);rw[Nat.add_mul]at this;omega
  obtain⟨H',w',hr,ha',rfl⟩:=S.cell (P:=P) (w0:=w0) (n:=n) ho (by rw[hb]at hx;exact hx) hy h1 hs hh hlt a w hf ha;refine⟨_,w',hr,ha',?_,by rw[hb];exact hset_mo H g _ c⟩;rw[←hb];exact h.set hj hk hz
theorem Own.new{G':Nat→Prop}{w:World}{z:Value}{cap:Nat}{zs:List α}(hc:∀x,(f x).length=sz)(h1:∀x,∀u∈f x,u.oneCell'=true)(hzs:z.cells.size=sz)(hG:G' w.heap.size)(h2:zs.length≤cap)(h3:cap≤maxLen):
 Own G' e (w.alloc (.cells ((zs.flatMap f).toArray++Builtin.zeroCells z.cells (cap-zs.length)) e)).heap f sz (.slice (some ⟨w.heap.size,0,none⟩) zs.length cap) zs:=by
 refine⟨hc,h1,.inr ⟨w.heap.size,cap,_,rfl,hG,.of (heap_alloc_new w _),h2,h3,?_,?_⟩⟩
 ·simp only[Array.size_append,List.size_toArray,size_zeroCells,hzs,length_flatMap hc,←Nat.add_mul]
  congr 1;omega
 ·simp only[Array.toList_append]
  rw[←length_flatMap hc zs];exact List.take_left
theorem Rd.pts{u:Value}{a:Addr}{m c:Nat}(h:Rd F H f sz u ys)(hc:∀x,(f x).length=sz)(hu:u= .slice (some a) m c){w:World}(ha:At w0 H w):∀j d,(ys.flatMap f)[j]?=some d→w.cell? (a.add j)=some d:=by
 intro j d hd;obtain⟨ad,cap,hv,q1,q2,q3⟩:=h.ex;have hj:=(List.getElem?_eq_some_iff.1 hd).1;rw[length_flatMap hc]at hj;have hne:ys≠[]:=by intro e;subst e;simp at hj
 obtain⟨ad',e1,e2,e3,e4,e5⟩:=q3 hne
 have hsz:0<sz:=by rcases Nat.eq_zero_or_pos sz with h|h;·subst h;simp at hj
                   ·exact h
 have hdiv:j/sz<ys.length:=Nat.div_lt_of_lt_mul (by rw[Nat.mul_comm];exact hj);have hp:=e5 (j/sz) ys[j/sz] (by simp[hdiv]);have hm:j%sz<(f ys[j/sz]).length:=by rw[hc];exact Nat.mod_lt _ hsz
 have h5:=hp.cells (j%sz) (f ys[j/sz])[j%sz] (by simp[hm]);have h6:=get_flatMap hc ys (j/sz) (j%sz) _ _ (show ys[j/sz]?=some ys[j/sz]by simp[hdiv]) (show(f ys[j/sz])[j%sz]?=some (f ys[j/sz])[j%sz]by simp[hm]);have hjj:j/sz*sz+j%sz=j:=by rw[Nat.mul_comm];exact Nat.div_add_mod j sz
 rw[hjj,hd]at h6;simp only[Option.some.injEq]at h6;have haa:a=ad':=by rw[hu]at hv;simp only[Value.slice.injEq]at hv;rw[e1]at hv;exact Option.some.inj hv.1
 rw[haa,add_eq e2,ha.cell,h6];simp only at h5;rw[Nat.add_assoc,hjj]at h5;exact h5
def Inf(P:Program)(t e:TypeId)(sz bytes:Nat):Prop:=P.underlying t=some (.slice e)∧∃i z,P.info? e=some i∧i.zero=some z∧i.size=sz∧i.bytes=bytes∧z.cells.size=sz
theorem run_storeCells_soft(P:Program)(g o:Nat)(t:TypeId)(fz:Nat×Nat):∀(vs:List Value) (i:Nat) (cur:Array Value) (w:World),w.heap[g]?=some (.cells cur t fz)→Soft fz cur.size→o+i+vs.length≤cur.size→(∀v∈vs,v.oneCell'=true)→
 (storeCells ⟨g,o,none⟩ vs i).run P w= .ok () (w.setRow g (cur.toList.take (o+i)++vs++cur.toList.drop (o+i+vs.length)).toArray)
 |[],i,cur,w,hg,_,_,_=>by
  simp only[storeCells,List.append_nil,List.length_nil,Nat.add_zero,List.take_append_drop,Array.toArray_toList];rw[setRow_self w g cur t fz hg]
  rfl
 |v::rest,i,cur,w,hg,hfz,hl,h1=>by
  have hi:o+i<cur.size:=by simp at hl;omega
  have hcell:w.cell? ⟨g,o+i,none⟩=some cur[o+i]:=by simp[World.cell?,hg,hi]
  have hfro:w.frozen? ⟨g,o+i,none⟩=false:=by
   obtain⟨lo,hi'⟩:=fz;have:=hfz.2 (o+i) hi;simp only at this;simp[World.frozen?,hg];omega
  have hst:(store ((⟨g,o,none⟩:Addr).add i) v).run P w= .ok () (w.setRow g (cur.setIfInBounds (o+i) v)):=by
   rw[add_eq rfl,run_store hcell hfro (h1 v (by simp)),setCell_eq_setRow w g (o+i) cur t fz v hg]
  have ih:=run_storeCells_soft P g o t fz rest (i+1) (cur.setIfInBounds (o+i) v) (w.setRow g (cur.setIfInBounds (o+i) v)) (setRow_heap w g cur _ t _ hg) (by simpa using hfz) (by simp at hl⊢;omega) (fun x hx=>h1 x (by simp[hx]));simp only[storeCells,Sem.run_bind,hst,Result.andThen_ok,ih,setRow_setRow];congr 3;have e:=list_seg_step cur.toList (o+i) v rest (by simp at hl⊢;omega)
  simpa[Array.toList_setIfInBounds,Nat.add_assoc]using e
theorem run_append_soft{w:World}(t ty e:TypeId)(i:TypeInfo)(ht:P.underlying t=some (.slice e))(hi:P.info? e=some i)
 (g sLen sCap:Nat) (cur:Array Value) (fz:Nat×Nat) (hg:w.heap[g]?=some (.cells cur e fz)) (hfz:Soft fz cur.size)
 (a:Addr) (m c:Nat) (news:List Value) (hl:news.length=m*i.size) (hnews:∀j u,news[j]?=some u→w.cell? (a.add j)=some u) (h1:∀u∈news,u.oneCell'=true)
 (hroom:sLen+m≤sCap) (hfit:sLen*i.size+news.length≤cur.size):
 (Builtin.append_ #[t,t] ty #[.slice (some ⟨g,0,none⟩) sLen sCap,.slice (some a) m c]).run P w=
  .ok (.slice (some ⟨g,0,none⟩) (sLen+m) sCap) (w.setRow g (cur.toList.take (sLen*i.size)++news++cur.toList.drop (sLen*i.size+news.length)).toArray):=by
 have hf:=run_firstCells_some (P:=P) w i.size m a m c news hl hnews;have hst:=run_storeCells_soft P g (sLen*i.size) e fz news 0 cur w hg hfz (by simpa using hfit) h1;simp only[Nat.add_zero]at hst;simp[Builtin.append_,run_underlying ht,sizeOf,typeInfo,hi,Builtin.lenOf,hroom,hf,Addr.add_lit,hst]
theorem Z.append{s x:Operand}{t:TypeId}{u:Value}{bytes:Nat}(h:Own G e H f sz v xs)(hr:Rd F H f sz u ys)(ho:o.op= .call {callee:= .builtin .append,args:= #[s,x],argTypes:= #[t,t]})
 (hinf:Inf P t e sz bytes) (hs:opv l s=some v) (hx:opv l x=some u) (hb:(xs.length+ys.length)*bytes≤140737488355328) (hm:xs.length+ys.length≤9223372036854775807):
 Z P w0 n l H o (fun r H'=>Own (fun b=>G b∨H.size≤b) e H' f sz r (xs++ys)∧Mo G H H'):=by
 obtain⟨ht,i,z,hi,hz,hsz,hby,hzs⟩:=hinf;subst hsz;subst hby;intro a w hf ha;obtain⟨ad,cap,rfl,q1,q2,q3⟩:=id hr.ex;have hl:(ys.flatMap f).length=ys.length*i.size:=length_flatMap h.cells ys
 have h1:∀c∈ys.flatMap f,c.oneCell'=true:=by
  intro c hc;obtain⟨y,hy,hc⟩:=List.mem_flatMap.1 hc;exact h.one y c hc
 cases ad with
 |none=>
  have hys:ys=[]:=by
   apply Decidable.byContradiction;intro hne;obtain⟨ad,hn,_⟩:=q3 hne;cases hn
  subst hys;refine⟨v,H,w,?_,ha,by rw[List.append_nil];exact h.imp (fun b _ hg=> .inl hg),Mo.refl _ _⟩;rcases h.ex with⟨rfl,rfl⟩|⟨g,cap',cur,rfl,hg,hh,r1,r2,r3,r4⟩
  ·simp[execOp,ho,resolve,invoke,builtin,hf.eval hs,hf.eval hx,Builtin.append_,run_underlying ht,sizeOf,typeInfo,hi,Builtin.lenOf,Builtin.firstCells]
  ·simp[execOp,ho,resolve,invoke,builtin,hf.eval hs,hf.eval hx,Builtin.append_,run_underlying ht,sizeOf,typeInfo,hi,Builtin.lenOf,Builtin.firstCells,r1,storeCells]
 |some ad=>
  have hnews:=hr.pts h.cells rfl ha
  have grown:∀(old:Nat) (r:Value),old<xs.length+ys.length→r= .slice (some ⟨w.heap.size,0,none⟩) (xs.length+ys.length) (grownCap w (xs.length+ys.length) old e)→∀ob,ob=Obj.cells ((xs.flatMap f).toArray++(ys.flatMap f).toArray++Builtin.zeroCells z.cells (grownCap w (xs.length+ys.length) old e-(xs.length+ys.length))) e→
   At w0 (w.drew.alloc ob).heap (w.drew.alloc ob)∧Own (fun b=>G b∨H.size≤b) e (w.drew.alloc ob).heap f i.size r (xs++ys)∧Mo G H (w.drew.alloc ob).heap:=by
   rintro old r ho' rfl ob rfl;have hge:=grownCap_ge w (xs.length+ys.length) old e;have hcm:grownCap w (xs.length+ys.length) old e≤maxLen:=grownCap_le_maxLen w (xs.length+ys.length) old e (by unfold maxLen;omega);have ha2:At w0 H w.drew:=ha.drew;refine⟨⟨rfl,ha.os,ha.tape,ha.output,ha2.dr⟩,?_,?_⟩
   ·have:=Own.new (e:=e) (G':=fun b=>G b∨H.size≤b) (w:=w.drew) (z:=z) (cap:=grownCap w (xs.length+ys.length) old e) (zs:=xs++ys) h.cells h.one hzs (.inr (by rw[ha2.heap];exact Nat.le_refl _)) (by simpa using hge) hcm
    simpa using this
   ·rw[(ha2.alloc _).heap];exact Mo.push _ _ _
  rcases h.ex with⟨rfl,rfl⟩|⟨g,cap',cur,rfl,hg,hh,r1,r2,r3,r4⟩
  ·by_cases hm0:ys.length=0
   ·have hys:ys=[]:=List.eq_nil_of_length_eq_zero hm0
    subst hys;refine⟨.slice none 0 0,H,w,?_,ha,by simpa using h.imp (fun b _ hg=> .inl hg),Mo.refl _ _⟩;simp[execOp,ho,resolve,invoke,builtin,hf.eval hs,hf.eval hx,Builtin.append_,run_underlying ht,sizeOf,typeInfo,hi,Builtin.lenOf,Builtin.firstCells,loadCells,loadCellsFrom]
   ·simp only[List.length_nil,Nat.zero_add]at hb hm
    have hrun:=run_append_nil (P:=P) w t o.type e i z ht hi hz ad ys.length cap (ys.flatMap f) hl hnews (by omega) (by omega) (by omega);have:=grown 0 _ (by simp;omega) rfl _ rfl;simp only[List.length_nil,Nat.zero_add,List.flatMap_nil,List.nil_append,Array.empty_append]at this;exact⟨_,_,_,by simp[execOp,ho,resolve,invoke,builtin,hf.eval hs,hf.eval hx,hrun],this.1,this.2.1,this.2.2⟩
  ·obtain⟨fz,hh0,hsf⟩:=id hh
   have hg':w.heap[g]?=some (.cells cur e fz):=by rw[ha.heap];exact hh0
   by_cases hroom:xs.length+ys.length≤cap'
   ·have hfit:xs.length*i.size+(ys.flatMap f).length≤cur.size:=by rw[hl,r3,←Nat.add_mul];exact Nat.mul_le_mul_right _ hroom
    have hrun:=run_append_soft (P:=P) (w:=w) t o.type e i ht hi g xs.length cap' cur fz hg' hsf ad ys.length cap (ys.flatMap f) hl hnews h1 hroom hfit;refine⟨.slice (some ⟨g,0,none⟩) (xs.length+ys.length) cap',(w.setRow g (cur.toList.take (xs.length*i.size)++ys.flatMap f++cur.toList.drop (xs.length*i.size+(ys.flatMap f).length)).toArray).heap,w.setRow g (cur.toList.take (xs.length*i.size)++ys.flatMap f++cur.toList.drop (xs.length*i.size+(ys.flatMap f).length)).toArray,by simp[execOp,ho,resolve,invoke,builtin,hf.eval hs,hf.eval hx,hrun],⟨rfl,ha.os,ha.tape,ha.output,ha.dr⟩,⟨h.cells,h.one,.inr ⟨g,cap',_,by rw[List.length_append],   .inl hg,⟨fz,setRow_heap w g cur _ e _ hg',hsf.1,fun i hi=>hsf.2 i (by simp only[List.size_toArray,List.length_append,List.length_take,List.length_drop,Array.length_toList]at hi;omega)⟩,by simpa using hroom,r2,?_,?_⟩⟩,⟨by rw[←ha.heap];simp[World.setRow],fun b hb hn=>?_⟩⟩
    ·simp only[List.size_toArray,List.length_append,List.length_take,List.length_drop,Array.length_toList]
     omega
    ·have hlx:=length_flatMap h.cells xs
     rw[r4,←List.flatMap_append,List.length_append,Nat.add_mul,←hl,←hlx,←List.length_append,←List.flatMap_append];exact List.take_left
    ·rw[←ha.heap];exact setRow_other w g b _ (fun e=>hn (e▸hg))
   ·have holds:∀j c,(xs.flatMap f)[j]?=some c→w.cell? ((⟨g,0,none⟩:Addr).add j)=some c:=h.rd.pts h.cells rfl ha
    have hrun:=run_append_grow (P:=P) w t o.type e i z ht hi hz ⟨g,0,none⟩ xs.length cap' (xs.flatMap f) (length_flatMap h.cells xs) holds ad ys.length cap (ys.flatMap f) hl hnews (by omega) (by omega) (growslice_fits (by omega) hb);have:=grown cap' _ (by omega) rfl _ rfl;exact⟨_,_,_,by simp[execOp,ho,resolve,invoke,builtin,hf.eval hs,hf.eval hx,hrun],this.1,this.2.1,this.2.2⟩
theorem foldl_set(size:Nat):∀(vs:List Value) (j off:Nat) (cs:Array Value) (pre old post:List Value),cs.toList=pre++old++post→pre.length=off+j→old.length=vs.length→
 ((vs.zipIdx j).foldl (fun cs (x:Value×Nat)=>cs.setIfInBounds (off+x.2) x.1) cs).toList=pre++vs++post
 |[],j,off,cs,pre,old,post,h,_,ho=>by
  have:old=[]:=List.eq_nil_of_length_eq_zero ho;subst this
  simpa using h
 |v::vs,j,off,cs,pre,old,post,h,hp,ho=>by
  match old,ho with
  |x::old,ho=>
   simp only[List.zipIdx_cons,List.foldl_cons]
   have:=foldl_set size vs (j+1) off (cs.setIfInBounds (off+j) v) (pre++[v]) old post (by
    rw[Array.toList_setIfInBounds,h,←hp];simp) (by simp;omega) (by simpa using ho)
   simpa using this
theorem fill_row(size:Nat):∀(vs:List Value) (i:Nat) (cs:Array Value) (pre old:List Value),cs.toList=pre++old→pre.length=i*size→old.length=vs.length*size→(∀v∈vs,v.cells.size=size)→
 ∃r,Instr.fill (fun i=>some (i*size,size)) cs ((vs.zipIdx i).map (fun p=>(p.2,p.1)))=some r∧r.toList=pre++vs.flatMap (fun v=>v.cells.toList)
 |[],i,cs,pre,old,h,_,ho,_=>by
  have:old=[]:=List.eq_nil_of_length_eq_zero (by simpa using ho);subst this
  exact⟨cs,rfl,by simpa using h⟩
 |v::vs,i,cs,pre,old,h,hp,ho,hv=>by
  have hvs:=hv v (by simp);have hlen:size≤old.length:=by rw[ho];simp[Nat.add_mul]
  have hold:old=old.take size++old.drop size:=(List.take_append_drop size old).symm;have hcs:cs.toList=pre++old.take size++old.drop size:=by rw[h,List.append_assoc,←hold]
  have hsz:cs.size=pre.length+old.length:=by rw[←Array.length_toList,h,List.length_append]
  have hf:=foldl_set size v.cells.toList 0 (i*size) cs pre (old.take size) (old.drop size) hcs (by omega) (by rw[List.length_take,show v.cells.toList.length=size from by simpa using hvs];omega);simp only[List.zipIdx_cons,List.map_cons,Instr.fill];rw[if_neg (by simp[hvs];omega)]
  obtain⟨r,hr,hrl⟩:=fill_row size vs (i+1) (v.cells.zipIdx.foldl (fun cs (x:Value×Nat)=>cs.setIfInBounds (i*size+x.2) x.1) cs) (pre++v.cells.toList) (old.drop size) (by
   rw[←hf,←Array.foldl_toList,Array.toList_zipIdx]) (by simp[hvs,hp,Nat.add_mul]) (by simp[ho,Nat.add_mul]) (fun u hu=>hv u (by simp[hu]))
  exact⟨r,hr,by simpa using hrl⟩
theorem Z.lit{t:TypeId}{k bytes:Nat}{parts:List (Nat×Operand)}(vs:List Value)(zs:List α)(ho:o.op= .buildSlice t k parts.toArray)(hinf:Inf P t e sz bytes)(hp:opvs l (parts.map (·.2))=some vs)(hi:parts.map (·.1)=List.range k)(hk:vs.length=k)(hks:k*sz≤16777216)(hk16:k≤16777216)
 (hc:∀x,(f x).length=sz) (h1:∀x,∀u∈f x,u.oneCell'=true) (hz:vs.map (fun v=>v.cells.toList)=zs.map f):
 Z P w0 n l H o (fun r H'=>Own (fun b=>b=H.size) e H' f sz r zs∧Nw H H'∧∃c,H'=H.push c):=by
 obtain⟨ht,i,z,hi',hz',hsz,hby,hzs⟩:=hinf;subst hsz;intro a w hf ha;have hev:=hf.evals hp;have hzl:zs.length=k:=by have:=congrArg List.length hz;simpa[hk]using this.symm
 have hparts:(parts.toArray.map (fun(x:Nat×Operand)=>(x.1,a.eval x.2))).toList=(vs.zipIdx 0).map (fun p=>(p.2,p.1)):=by
  have e1:parts.map (fun(x:Nat×Operand)=>(x.1,a.eval x.2))=(List.range k).zip vs:=by
   rw[←hi,←hev,List.map_map];clear hi hev hp ho
   induction parts with
   |nil=>rfl
   |cons p ps ih=>simp[ih]
  rw[List.map_toArray];simp only;rw[e1,List.zipIdx_eq_zip_range',map_zip_swap_range hk]
 have hcells:∀v∈vs,v.cells.size=i.size:=by
  intro v hv;have:v.cells.toList∈zs.map f:=by rw[←hz];exact List.mem_map.2 ⟨v,hv,rfl⟩
  obtain⟨x,_,hx⟩:=List.mem_map.1 this;have:=hc x;rw[hx]at this
  simpa using this
 have hfl:vs.flatMap (fun v=>v.cells.toList)=zs.flatMap f:=by rw[List.flatMap_def,List.flatMap_def,hz]
 have hbase:∀(zc:Array Value),((Array.range (k*i.size)).map (zc[·%zc.size]!)).toList=[]++((Array.range (k*i.size)).map (zc[·%zc.size]!)).toList:=fun _=>rfl
 have hrun:∃cs:Array Value,cs.toList=zs.flatMap f∧(Instr.buildSlice t k (parts.toArray.map (fun(x:Nat×Operand)=>(x.1,a.eval x.2)))).run P w= .ok (.slice (some ⟨w.heap.size,0,none⟩) k k) (w.alloc (.cells cs e)):=by
  by_cases h0:k*i.size=0
  ·obtain⟨r,hr,hrl⟩:=fill_row i.size vs 0 #[] [] [] rfl (by simp) (by simp[hk,h0]) hcells
   refine⟨r,by rw[hrl,hfl];rfl,?_⟩;simp only[Instr.buildSlice,Sem.run_bind,run_underlying ht,Result.andThen_ok,sizeOf,typeInfo,run_program,hi',Sem.run_pure,hparts];have hz0:∀g:Nat→Value,(Array.range 0).map g= #[]:=fun g=>by simp
   simp[h0,hz0,hr,newRow]
  ·obtain⟨r,hr,hrl⟩:=fill_row i.size vs 0 ((Array.range (k*i.size)).map (z.cells[·%z.cells.size]!)) [] _ (hbase _) (by simp) (by simp[hk]) hcells
   refine⟨r,by rw[hrl,hfl];rfl,?_⟩;simp only[Instr.buildSlice,Sem.run_bind,run_underlying ht,Result.andThen_ok,sizeOf,typeInfo,run_program,hi',Sem.run_pure,hparts];have hlim:¬(k*i.size>2^24):=by simp only[Nat.reducePow];omega
   simp[h0,hlim,zeroValue,typeInfo,hi',hz',hr,newRow]
 obtain⟨cs,hcs,hrun⟩:=hrun;refine⟨.slice (some ⟨w.heap.size,0,none⟩) k k,H.push (.cells cs e),w.alloc (.cells cs e),?_,ha.alloc (.cells cs e),⟨hc,h1,.inr ⟨H.size,k,cs,?_,rfl,.of (by simp),?_,?_,?_,?_⟩⟩,Nw.pu _ _,_,rfl⟩
 ·simp only[execOp,ho,Sem.run_bind,hrun,Result.andThen_ok,Sem.run_pure]
 ·rw[hzl,ha.heap]
 ·omega
 ·unfold maxLen;omega
 ·rw[←Array.length_toList,hcs,length_flatMap hc,hzl]
 ·rw[←length_flatMap hc,List.take_of_length_le (by rw[←hcs];exact Nat.le_refl _),hcs]
theorem Y.build{t:TypeId}{parts:List (Nat×Operand)}{vs:List Value}{v:Value}(ho:o.op= .build t parts.toArray)(hp:opvs l (parts.map (·.2))=some vs)(hrun:∀w,(Instr.build t ((parts.map (·.1)).zip vs).toArray).run P w= .ok v w):Y P w0 n l H o v:=by
 intro a w hf ha;have hev:=hf.evals hp
 have e1:parts.map (fun(x:Nat×Operand)=>(x.1,a.eval x.2))=(parts.map (·.1)).zip vs:=by
  rw[←hev,List.map_map];clear hev hp ho hrun
  induction parts with
  |nil=>rfl
  |cons p ps ih=>simp[ih]
 have hr:=hrun w;rw[←e1]at hr;simp[execOp,ho,hr]
end
end
end E

namespace E
open Go.MapKept
structure MapOf {κ β:Type} (G:Nat→Prop) (H:Heap) (fk:κ→Value) (fv:β→Value) (v:Value) (m:List (κ×β)):Prop where
 ex:∃r es clock,v= .map (some r)∧G r∧H[r]?=some (.map es clock)∧Stamped es clock∧es.toList.map (fun e=>(e.key,e.val))=m.map (fun p=>(fk p.1,fv p.2))
section
variable {κ β : Type} {G : Nat → Prop} {H H' : Heap} {fk : κ → Value} {fv : β → Value} {v : Value} {m : List (κ × β)}
theorem MapOf.up{S:Nat→Prop}(h:MapOf G H fk fv v m)(s:Mo S H H')(hS:∀b,b<H.size→G b→¬S b):MapOf G H' fk fv v m:=by
 obtain⟨r,es,clock,h1,h2,h3,h4⟩:=h.ex;have hlt:=(Array.getElem?_eq_some_iff.1 h3).1;exact⟨r,es,clock,h1,h2,by rw[s.same r hlt (hS r hlt h2)];exact h3,h4⟩
theorem MapOf.nw(h:MapOf G H fk fv v m)(s:Nw H H'):MapOf G H' fk fv v m:=h.up s (fun _ _ _ e=>e)
theorem MapOf.nodup(h:MapOf G H fk fv v m):(m.map (·.1)).Nodup:=by
 obtain⟨r,es,clock,h1,h2,h3,h4,h5⟩:=h.ex;have h6:=h4.2.2
 have:es.toList.map (·.key)=(m.map (·.1)).map fk:=by
  have:=congrArg (List.map Prod.fst) h5
  simpa[Function.comp_def]using this
 rw[this,List.nodup_iff_pairwise_ne,List.pairwise_map]at h6;rw[List.nodup_iff_pairwise_ne];exact h6.imp (fun hne e=>hne (by rw[e]))
end
theorem MapOf.blk_lt{κ β:Type}{G:Nat→Prop}{H:Heap}{fk:κ→Value}{fv:β→Value}{v:Value}{m:List (κ×β)}(h:MapOf G H fk fv v m):blk v<H.size:=by
 obtain⟨r,es,clock,rfl,h2,h3,h4⟩:=h.ex;exact(Array.getElem?_eq_some_iff.1 h3).1
def mget{κ β:Type}[DecidableEq κ]:List (κ×β)→κ→Option β
 |[],_=>none
 |p::m,k=>if k=p.1 then some p.2 else mget m k
structure KeyFn {κ:Type} (d:TypeDesc) (fk:κ→Value):Prop where
 key:∀k,IsKey d (fk k)
 inj:∀a b,fk a=fk b→a=b
theorem keyStr:KeyFn .string Str:=⟨fun _=>trivial,fun a b h=>by simpa[Str]using h⟩
def mput{κ β:Type}[DecidableEq κ](m:List (κ×β))(k:κ)(b:β):List (κ×β):=if(mget m k).isSome then m.map (fun p=>if p.1=k then(p.1,b)else p)else m++[(k,b)]
section
variable {P : Program} {w0 : World} {n : Nat} {l : FL} {H : Heap} {o : Oper}
variable {κ β : Type} [DecidableEq κ] {G : Nat → Prop} {fk : κ → Value} {fv : β → Value} {v : Value} {m : List (κ × β)} {d : TypeDesc}
theorem find_entries{k:κ}(hfk:KeyFn d fk):∀(es:List MapEntry) (m:List (κ×β)) (i:Nat),es.map (fun e=>(e.key,e.val))=m.map (fun p=>(fk p.1,fv p.2))→
 (mget m k=none∧Instr.findNow d (fk k) es i=some none∧∀x∈es,x.key≠fk k)∨∃j e b,mget m k=some b∧Instr.findNow d (fk k) es i=some (some (i+j,fv b))∧es[j]?=some e∧e.key=fk k∧e.val=fv b
 |[],m,i,h=>by
  have:m=[]:=by cases m<;>simp_all
  subst this
  exact .inl ⟨rfl,rfl,by simp⟩
 |e::es,m,i,h=>by
  match m,h with
  |(a,b)::m,h=>
   simp only[List.map_cons,List.cons.injEq,Prod.mk.injEq]at h;obtain⟨⟨h1,h2⟩,h3⟩:=h;obtain⟨r,hr,hiff⟩:=sameNow_of_keys (hfk.key k) (b:=e.key) (by rw[h1];exact hfk.key a)
   cases r with
   |true=>
    have hk:k=a:=hfk.inj _ _ (by rw[hiff.1 rfl,h1]);subst hk
    exact .inr ⟨0,e,b,by simp[mget],by simp[Instr.findNow,hr,h2],rfl,h1,h2⟩
   |false=>
    have hne:k≠a:=fun q=>by subst q;have:=hiff.2 h1.symm;cases this
    rcases find_entries (k:=k) hfk es m (i+1) h3 with⟨q1,q2,q3⟩|⟨j,e',b',q1,q2,q3,q4,q5⟩
    ·refine .inl ⟨?_,by simp[Instr.findNow,hr,q2],?_⟩
     ·simp only[mget,hne,if_false];exact q1
     ·intro x hx
      cases hx with
      |head=>intro q;exact hne (hfk.inj _ _ (by rw[←q,h1]))
      |tail _ hx=>exact q3 x hx
    ·refine .inr ⟨j+1,e',b',?_,?_,by simpa using q3,q4,q5⟩
     ·simp only[mget,hne,if_false];exact q1
     ·simp[Instr.findNow,hr,q2];omega
theorem run_lookup{w:World}{t kt et:TypeId}{z:Value}{k:κ}{ok:Bool}(h:MapOf G H fk fv v m)(hfk:KeyFn d fk)(ha:At w0 H w)(hm:∀w,(underlying t).run P w= .ok (.map kt et) w)(hk:P.underlying kt=some d)(hz:∀w,(zeroValue et).run P w= .ok z w):
 (Instr.lookup t v (fk k) ok).run P w= .ok (if ok then .tuple #[(match mget m k with|some b=>fv b|none=>z),.bool (mget m k).isSome]else(match mget m k with|some b=>fv b|none=>z)) w:=by
 obtain⟨r,es,clock,rfl,h2,h3,h4,h5⟩:=h.ex;have h3':w.heap[r]?=some (.map es clock):=by rw[ha.heap];exact h3
 rcases find_entries (k:=k) hfk es.toList m 0 h5 with⟨q1,q2,q3⟩|⟨j,e',b',q1,q2,q3,q4,q5⟩
 ·simp[Instr.lookup,hm,MapKept.run_getObj_map h3',MapKept.run_checkKey hk (hfk.key k),MapKept.run_findKey hk q2,q1,hz]
 ·simp[Instr.lookup,hm,MapKept.run_getObj_map h3',MapKept.run_checkKey hk (hfk.key k),MapKept.run_findKey hk q2,q1]
theorem modify_entries{k:κ}{b:β}{key:Value}(hfk:KeyFn d fk)(hkey:key=fk k):∀(es:List MapEntry) (m:List (κ×β)) (j:Nat) (e:MapEntry),es.map (fun e=>(e.key,e.val))=m.map (fun p=>(fk p.1,fv p.2))→(es.map (·.key)).Nodup→es[j]?=some e→e.key=fk k→
 (es.modify j (fun e=>{e with key:=key,val:=fv b})).map (fun e=>(e.key,e.val))=(m.map (fun p=>if p.1=k then(p.1,b)else p)).map (fun p=>(fk p.1,fv p.2))
 |[],_,_,_,_,_,h,_=>by simp at h
 |x::es,m,j,e,h,hn,hj,he=>by
  match m,h with
  |(a,c)::m,h=>
   simp only[List.map_cons,List.cons.injEq,Prod.mk.injEq]at h;obtain⟨⟨h1,h2⟩,h3⟩:=h;simp only[List.map_cons,List.nodup_cons]at hn
   cases j with
   |zero=>
    simp only[List.getElem?_cons_zero,Option.some.injEq]at hj;subst hj;have hak:a=k:=hfk.inj _ _ (by rw[←h1,he]);subst hak;simp only[List.modify_zero_cons,List.map_cons,if_true,hkey];congr 1;rw[h3,List.map_map];apply List.map_congr_left;intro p hp
    have:p.1≠a:=by
     intro e;apply hn.1;have:(fk p.1,fv p.2)∈es.map (fun e=>(e.key,e.val)):=by rw[h3];exact List.mem_map.2 ⟨p,hp,rfl⟩
     obtain⟨y,hy,hye⟩:=List.mem_map.1 this;simp only[Prod.mk.injEq]at hye;exact List.mem_map.2 ⟨y,hy,by rw[hye.1,e,h1]⟩
    simp[this]
   |succ j=>
    simp only[List.getElem?_cons_succ]at hj
    have hak:a≠k:=by
     intro q;subst q;apply hn.1;rw[h1,←he];exact List.mem_map.2 ⟨e,List.mem_of_getElem? hj,rfl⟩
    simp only[List.modify_succ_cons,List.map_cons,hak,if_false,h1,h2];rw[modify_entries hfk hkey es m j e h3 hn.2 hj he]
theorem S.mapUpdate{t kt et:TypeId}{x i y:Operand}{k:κ}{b:β}(h:MapOf G H fk fv v m)(hfk:KeyFn d fk)(ho:o.op= .mapUpdate t x i y)(hm:∀w,(underlying t).run P w= .ok (.map kt et) w)(hk:P.underlying kt=some d)
 (hx:opv l x=some v) (hi:opv l i=some (fk k)) (hy:opv l y=some (fv b)):S P w0 n l H o (fun H'=>MapOf G H' fk fv v (mput m k b)∧Mo (fun c=>c=blk v) H H'):=by
 intro ac w hf ha;obtain⟨r,es,clock,hv,h2,h3,h4,h5⟩:=h.ex;have h3':w.heap[r]?=some (.map es clock):=by rw[ha.heap];exact h3
 have hblk:blk v=r:=by rw[hv];rfl
 have hlt:=(Array.getElem?_eq_some_iff.1 h3).1;have hmo:∀ob,Mo (fun c=>c=blk v) H (H.setIfInBounds r ob):=fun ob=>⟨by simp,fun b hb hne=>by rw[hblk]at hne;simp[Ne.symm hne]⟩;have hget:∀ob,(H.setIfInBounds r ob)[r]?=some ob:=fun ob=>by simp[hlt]
 rcases find_entries (k:=k) hfk es.toList m 0 h5 with⟨q1,q2,q3⟩|⟨j,e',b',q1,q2,q3,q4,q5⟩
 ·refine⟨H.setIfInBounds r (.map (es.push {key:=fk k,val:=fv b,born:=clock}) (clock+1)),{w with heap:=H.setIfInBounds r (.map (es.push {key:=fk k,val:=fv b,born:=clock}) (clock+1))},?_,ha.set,⟨r,_,_,hv,h2,hget _,stamped_push h4 q3,?_⟩,hmo _⟩
  ·simp[execOp,ho,hf.eval hx,hf.eval hi,hf.eval hy,hv,Instr.mapUpdate,hm,MapKept.run_getObj_map h3',MapKept.run_checkKey hk (hfk.key k),MapKept.run_findKey hk q2,MapKept.run_setObj_map _ h3',ha.heap]
  ·simp[mput,q1,h5]
 ·have hj:es[j]?=some e':=by simpa using q3
  have hkey:∀e,es[j]?=some e→({e with key:=fk k,val:=fv b}:MapEntry).key=e.key:=fun e he=>by rw[hj]at he;cases he;exact q4.symm
  refine⟨H.setIfInBounds r (.map (es.modify j fun e=>{e with key:=fk k,val:=fv b}) clock),{w with heap:=H.setIfInBounds r (.map (es.modify j fun e=>{e with key:=fk k,val:=fv b}) clock)},?_,ha.set,⟨r,_,_,hv,h2,hget _,stamped_modify h4 _ _ (fun _ _=>rfl) (fun e _ he=>hkey e he),?_⟩,hmo _⟩
  ·simp[execOp,ho,hf.eval hx,hf.eval hi,hf.eval hy,hv,Instr.mapUpdate,hm,MapKept.run_getObj_map h3',MapKept.run_checkKey hk (hfk.key k),MapKept.run_findKey hk q2,hj,q4,MapKept.run_keyThatStays (hfk.key k),MapKept.run_setObj_map _ h3',ha.heap]
  ·have:=modify_entries (fv:=fv) (b:=b) hfk rfl es.toList m j e' h5 h4.2.2 q3 q4
   rw[Array.toList_modify,this];simp[mput,q1]
theorem Z.makeSlice{α:Type}{f:α→List Value}{sz bytes:Nat}{t e:TypeId}{x c:Operand}{kl kc:IntKind}{lv:Int}{z:Value}(k:Nat)(z0:α)(ho:o.op= .makeSlice t x c)(hinf:Inf P t e sz bytes)(hz:∀w,(zeroValue e).run P w= .ok z w)(hz0:f z0=z.cells.toList)
 (hc:∀x,(f x).length=sz) (h1:∀x,∀u∈f x,u.oneCell'=true) (hx:opv l x=some (.int kl lv)) (hcc:opv l c=some (.int kc lv)) (hk:lv=k) (hb:(bytes:Int)*k≤281474976710656) (hk2:k≤9223372036854775807):
 Z P w0 n l H o (fun r H'=>Own (fun b=>b=H.size) e H' f sz r (List.replicate k z0)∧Nw H H'∧∃ob,H'=H.push ob):=by
 obtain⟨ht,i,z',hi,hz',hsz,hby,hzs⟩:=hinf;intro ac w hf ha;subst hk
 have hzz:z'=z:=by
  have h1:=hz w;simp[zeroValue,typeInfo,hi,hz']at h1;exact h1
 subst hzz;have hr:=run_make (P:=P) w t e i z' ht hi hz' kl kc (k:Int) k (by omega) (by omega) (by rw[hby];exact hb) (by omega);simp only[Int.toNat_natCast,hsz]at hr;refine⟨.slice (some ⟨w.heap.size,0,none⟩) k k,H.push (.cells (madeCells z'.cells (k*sz)) e),w.alloc (.cells (madeCells z'.cells (k*sz)) e),?_,ha.alloc _,⟨hc,h1,.inr ⟨w.heap.size,k,madeCells z'.cells (k*sz),by simp,ha.heap▸rfl,.of (by rw[ha.heap];simp),by simp,by unfold maxLen;omega,size_madeCells _ _,?_⟩⟩,Nw.pu _ _,_,rfl⟩
 ·simp[execOp,ho,hf.eval hx,hf.eval hcc,hr]
 ·rw[List.length_replicate,List.take_of_length_le (by simp[size_madeCells])]
  apply List.ext_getElem?;intro q;by_cases hq:q<k*sz
  ·have hszp:0<sz:=by rcases Nat.eq_zero_or_pos sz with h|h;·subst h;simp at hq
                      ·exact h
   have hdiv:q/sz<k:=Nat.div_lt_of_lt_mul (by rw[Nat.mul_comm];exact hq);have hmod:=Nat.mod_lt q hszp;have hg:=get_flatMap hc (List.replicate k z0) (q/sz) (q%sz) z0 (z'.cells[q%sz]'(by rw[hzs];exact hmod)) (by simp[hdiv]) (by rw[hz0];simp[hzs,hmod]);have hqq:q/sz*sz+q%sz=q:=by rw[Nat.mul_comm];exact Nat.div_add_mod q sz
   rw[hqq]at hg;rw[hg];simp only[madeCells,hzs,Array.getElem?_toList];rw[Array.getElem?_map,Array.getElem?_range,if_pos hq];simp[hzs,hmod]
  ·rw[List.getElem?_eq_none (by simp[size_madeCells];omega),List.getElem?_eq_none (by rw[length_flatMap hc,List.length_replicate];omega)]
end
end E

namespace E
structure Var (e:TypeId) (H:Heap) (b:Nat) (cs:List Value):Prop where
 row:Row H b cs.toArray e
theorem Var.lt{e:TypeId}{H:Heap}{b:Nat}{cs:List Value}(h:Var e H b cs):b<H.size:=h.row.lt
theorem Var.up{e:TypeId}{H H':Heap}{b:Nat}{cs:List Value}{S:Nat→Prop}(h:Var e H b cs)(s:Mo S H H')(hS:¬S b):Var e H' b cs:=⟨h.row.up (s.same b h.lt hS)⟩
theorem Var.nw{e:TypeId}{H H':Heap}{b:Nat}{cs:List Value}(h:Var e H b cs)(s:Nw H H'):Var e H' b cs:=h.up s (fun e=>e)
theorem Var.pt{e:TypeId}{H:Heap}{b:Nat}{cs:List Value}(h:Var e H b cs):Pt H ⟨b,0,none⟩ cs:=
 ⟨rfl,fun j c hc=>by simp only[Nat.zero_add];rw[h.row.cell];simpa using hc⟩
theorem Var.new(H:Heap)(cs:Array Value)(t:TypeId):Var t (H.push (.cells cs t)) H.size cs.toList:=⟨.of (by simp)⟩
def splice(cs:List Value)(i:Nat)(vs:List Value):List Value:=cs.take i++vs++cs.drop (i+vs.length)
section
variable {P : Program} {w0 : World} {n : Nat} {l : FL} {H : Heap} {o : Oper}
theorem Z.allocv{t:TypeId}{z:Value}(ho:o.op= .alloc t)(hz:∀w,(zeroValue t).run P w= .ok z w):Z P w0 n l H o (fun v H'=>v= .pointer (some ⟨H.size,0,none⟩)∧Var t H' H.size z.cells.toList∧Nw H H'∧∃ob,H'=H.push ob):=by
 intro a w hf ha;obtain⟨v,H',w',h1,h2,h3,h4⟩:=Z.alloc (P:=P) (w0:=w0) (n:=n) (l:=l) (H:=H) ho hz a w hf ha;subst h4;exact⟨v,_,w',h1,h2,h3,Var.new _ _ _,Nw.pu _ _,_,rfl⟩
theorem Z.boxv{t:TypeId}{x:Operand}{v:Value}(ho:o.op= .box t x)(hx:opv l x=some v):Z P w0 n l H o (fun r H'=>r= .pointer (some ⟨H.size,0,none⟩)∧Var t H' H.size v.cells.toList∧Nw H H'∧∃ob,H'=H.push ob):=by
 intro a w hf ha;obtain⟨v,H',w',h1,h2,h3,h4⟩:=Z.box (P:=P) (w0:=w0) (n:=n) (H:=H) ho hx a w hf ha;subst h4;exact⟨v,_,w',h1,h2,h3,Var.new _ _ _,Nw.pu _ _,_,rfl⟩
theorem cells_one{v:Value}(h:v.oneCell'=true):v.cells.toList=[v]:=by cases v<;>first|(simp[Value.oneCell']at h;done)|rfl
theorem Z.boxv1{t:TypeId}{x:Operand}{v:Value}(ho:o.op= .box t x)(hx:opv l x=some v)(h1:v.oneCell'=true):Z P w0 n l H o (fun r H'=>r= .pointer (some ⟨H.size,0,none⟩)∧Var t H' H.size [v]∧Nw H H'∧∃ob,H'=H.push ob):=by
 intro a w hf ha;obtain⟨r,H',w',q1,q2,q3,q4,q5,q6⟩:=Z.boxv (P:=P) (w0:=w0) (n:=n) (H:=H) ho hx a w hf ha;rw[cells_one h1]at q4;exact⟨r,H',w',q1,q2,q3,q4,q5,q6⟩
theorem At.row{w:World}(ha:At w0 H w)(g:Nat)(c:Array Value):At w0 (w.setRow g c).heap (w.setRow g c):=⟨rfl,ha.os,ha.tape,ha.output,ha.dr⟩
theorem setRow_mo{w:World}(ha:At w0 H w)(g:Nat)(c:Array Value):Mo (fun b=>b=g) H (w.setRow g c).heap:=
 ⟨by rw[←ha.heap];simp[World.setRow],fun b hb hn=>by rw[←ha.heap];exact setRow_other w g b _ (fun e=>hn e)⟩
theorem setRow_row{w:World}(ha:At w0 H w){g:Nat}{cur c:Array Value}{e:TypeId}(h:Row H g cur e)(hc:c.size=cur.size):Row (w.setRow g c).heap g c e:=by
 obtain⟨fz,h1,h2⟩:=h;exact⟨fz,setRow_heap w g cur _ e _ (by rw[ha.heap];exact h1),by rw[hc];exact h2⟩
theorem S.cells{x y:Operand}{t:TypeId}{b i k:Nat}{c:Value}{cs:Array Value}{e:TypeId}(ho:o.op= .store t x y)(hx:opv l x=some (.pointer (some ⟨b,i,none⟩)))(hy:opv l y=some c)(h1:∀u∈c.cells.toList,u.oneCell'=true)
 (hs:∀w,(sizeOf t).run P w= .ok k w) (hk:c.cells.size=k) (hb:Row H b cs e) (hi:i+k≤cs.size):S P w0 n l H o (fun H'=>Row H' b (splice cs.toList i c.cells.toList).toArray e∧Mo (fun g=>g=b) H H'):=by
 intro a w hf ha;obtain⟨fz,hb1,hb2⟩:=id hb;have hr:=run_storeCells_soft P b i e fz c.cells.toList 0 cs w (by rw[ha.heap];exact hb1) hb2 (by simp[hk];omega) h1;simp only[Nat.add_zero]at hr;refine⟨_,w.setRow b (splice cs.toList i c.cells.toList).toArray,?_,ha.row _ _,setRow_row ha hb (by simp[splice,hk];omega),setRow_mo ha _ _⟩;simp[execOp,ho,hf.eval hx,hf.eval hy,Instr.storeAt,Instr.sureAddr,storeVar,hk,hs,hr,splice]
theorem S.var{x y:Operand}{t:TypeId}{b i k:Nat}{c:Value}{cs:List Value}{e:TypeId}(h:Var e H b cs)(vs cs':List Value)(ho:o.op= .store t x y)(hx:opv l x=some (.pointer (some ⟨b,i,none⟩)))(hy:opv l y=some c)(hc:c.cells.toList=vs)(h1:∀u∈vs,u.oneCell'=true)
 (hs:∀w,(sizeOf t).run P w= .ok k w) (hk:vs.length=k) (hi:i+k≤cs.length) (hz:splice cs i vs=cs'):S P w0 n l H o (fun H'=>Var e H' b cs'∧Mo (fun g=>g=b) H H'):=by
 subst hc hz;intro a w hf ha;obtain⟨H',w',q1,q2,q3,q4⟩:=S.cells (P:=P) (w0:=w0) (n:=n) ho hx hy h1 hs (by simpa using hk) h.row (by simpa using hi) a w hf ha;exact⟨H',w',q1,q2,⟨q3⟩,q4⟩
theorem splice_one{cs:List Value}{i:Nat}{c:Value}(h:i<cs.length):splice cs i [c]=cs.set i c:=by
 simp[splice,List.set_eq_take_append_cons_drop,h]
theorem S.var1{x y:Operand}{t:TypeId}{b:Nat}{c:Value}{cs:List Value}{e:TypeId}(h:Var e H b cs)(i:Nat)(cs':List Value)(ho:o.op= .store t x y)(hx:opv l x=some (.pointer (some ⟨b,i,none⟩)))(hy:opv l y=some c)(h1:c.oneCell'=true)
 (hs:∀w,(sizeOf t).run P w= .ok 1 w) (hi:i<cs.length) (hz:cs.set i c=cs'):S P w0 n l H o (fun H'=>Var e H' b cs'∧Mo (fun g=>g=b) H H'):=
 S.var h [c] cs' ho hx hy (cells_one h1) (by simpa using h1) hs rfl (by omega) ((splice_one hi).trans hz)
section
variable {α : Type} {G F : Nat → Prop} {e : TypeId} {f : α → List Value} {sz : Nat} {v : Value} {xs ys : List α}
theorem Own.front{cap:Nat}{ad:Option Addr}{k:Nat}(h:Own G e H f sz (.slice ad xs.length cap) xs)(hk:k≤xs.length)(hne:xs≠[]):Own G e H f sz (.slice ad k cap) (xs.take k):=by
 refine⟨h.cells,h.one,?_⟩;rcases h.ex with⟨_,rfl⟩|⟨g,cap',cur,hv,hg,hh,r1,r2,r3,r4⟩
 ·exact absurd rfl hne
 ·simp only[Value.slice.injEq,true_and]at hv
  obtain⟨rfl,rfl⟩:=hv;have hl:(xs.take k).length=k:=by simp;omega
  refine .inr ⟨g,cap,cur,by rw[hl],hg,hh,by omega,r2,r3,?_⟩;rw[hl]
  have:(xs.take k).flatMap f=(xs.flatMap f).take (k*sz):=by
   have h2:xs.flatMap f=(xs.take k).flatMap f++(xs.drop k).flatMap f:=by rw[←List.flatMap_append,List.take_append_drop]
   rw[h2,←hl,←length_flatMap h.cells (xs.take k),hl];rw[List.take_left]
  rw[this,←r4,List.take_take];congr 1;exact(Nat.min_eq_left (Nat.mul_le_mul_right _ hk)).symm
end
theorem fold_push(l:List UInt8):∀acc:List UInt8,(l.map (fun b=>(b.toNat:Int))).foldl (fun r n=>r.push (UInt8.ofNat n.toNat)) (ByteArray.mk acc.toArray)=ByteArray.mk (acc++l).toArray:=by
 induction l with
 |nil=>intro acc;simp
 |cons b l ih=>
  intro acc;rw[List.map_cons,List.foldl_cons]
  have:(ByteArray.mk acc.toArray).push (UInt8.ofNat ((b.toNat:Int)).toNat)=ByteArray.mk (acc++[b]).toArray:=by
   simp[ByteArray.push]
  rw[this,ih];simp
theorem flatMap_fB(l:List UInt8):l.flatMap fB=l.map (fun b=>Value.int .u8 b.toNat):=by
 induction l with
 |nil=>rfl
 |cons b l ih=>simp[ih]
theorem data_map(s:List UInt8):Array.map (fun b:UInt8=>Value.int .u8 (b.toNat:Int)) s.toArray=(s.flatMap fB).toArray:=by
 rw[flatMap_fB];simp
theorem Y.bstr{F:Nat→Prop}{x:Operand}{t u e:TypeId}{v:Value}{xs:List UInt8}(h:Rd F H fB 1 v xs)(ho:o.op= .convert t u x)(ht:P.underlying t=some (.slice e))(hu:P.underlying u=some .string)(he:P.underlying e=some (.int .u8))(hx:opv l x=some v):Y P w0 n l H o (Str xs):=by
 intro a w hf ha;obtain⟨ad,cap,rfl,_,_,h3⟩:=id h.ex;have hc:=run_convert_bytes_string (P:=P) w t u e ad xs.length cap ht he hu
 cases ad with
 |none=>
  have hxs:xs=[]:=by
   apply Decidable.byContradiction;intro hne;obtain⟨ad,hn,_⟩:=h3 hne;cases hn
  subst hxs
  have hc':(convert t u (.slice none 0 cap)).run P w= .ok (Str []) w:=by
   rw[show(0:Nat)=([]:List UInt8).length from rfl,hc];rfl
  simp[execOp,ho,hf.eval hx,hc']
 |some ad=>
  have hnews:=h.pts fB_len rfl ha;have hl:=run_loadCells_list (P:=P) w ad (xs.flatMap fB) hnews;have hlen:(xs.flatMap fB).length=xs.length:=by rw[length_flatMap fB_len,Nat.mul_one]
  have hb:=run_bytesToString (P:=P) w ad xs.length cap (xs.map (fun b=>(b.toNat:Int))) (by
   rw[hlen]at hl;rw[hl,flatMap_fB,List.map_map];rfl)
  have hfp:=fold_push xs [];simp only[List.nil_append]at hfp;have hemp:ByteArray.empty=ByteArray.mk ([]:List UInt8).toArray:=rfl;rw[hemp,hfp]at hb;simp[execOp,ho,hf.eval hx,hc,hb,Str]
theorem Z.strb{x:Operand}{t u e:TypeId}{ut:TypeDesc}{s:List UInt8}(ho:o.op= .convert t u x)(ht:P.underlying t=some ut)(hu:P.underlying u=some (.slice e))(he:P.underlying e=some (.int .u8))(hx:opv l x=some (Str s))(hb:s.length≤9223372036854775807):
 Z P w0 n l H o (fun r H'=>Own (fun b=>b=H.size) e H' fB 1 r s∧Nw H H'∧H'.size=H.size+1):=by
 intro a w hf ha;have hr:=Lib.run_convert_string_bytes (P:=P) w t u e (ByteArray.mk s.toArray) ht hu he;have hsz:=str_size s;have hge:=grownCap_ge w s.length 0 e;have hcm:grownCap w s.length 0 e≤maxLen:=grownCap_le_maxLen w s.length 0 e (by unfold maxLen;omega)
 have hcs:(Lib.bytesCells w e (ByteArray.mk s.toArray)).size=grownCap w s.length 0 e:=by
  simp only[Lib.bytesCells,hsz,data_map,Array.size_append,List.size_toArray,length_flatMap fB_len,Array.size_replicate,Nat.mul_one];omega
 refine⟨_,(Lib.bytesWorld w e (ByteArray.mk s.toArray)).heap,Lib.bytesWorld w e (ByteArray.mk s.toArray),by simp[execOp,ho,hf.eval hx,hr,Str];rfl,⟨rfl,?_,?_,?_,?_⟩,⟨fB_len,fB_one,.inr ⟨w.heap.size,grownCap w s.length 0 e,_,by rw[hsz],ha.heap▸rfl,⟨_,Lib.bytesWorld_at_new w e _,?_⟩,hge,hcm,?_,?_⟩⟩,⟨?_,?_⟩,?_⟩
 ·have:=ha.os;simp only[Lib.bytesWorld,World.freeze];exact this
 ·have:=ha.tape;simp only[Lib.bytesWorld,World.freeze];exact this
 ·have:=ha.output;simp only[Lib.bytesWorld,World.freeze];exact this
 ·have:=ha.dr;simp only[Lib.bytesWorld,World.freeze];first|exact this|exact Nat.le_succ_of_le this
 ·refine⟨by simp only;omega,?_⟩;intro i hi hc;simp only at hc;omega
 ·rw[hcs,Nat.mul_one]
 ·simp only[Lib.bytesCells,data_map,Array.toList_append]
  rw[←length_flatMap fB_len s];exact List.take_left
 ·rw[Lib.bytesWorld_size,ha.heap];omega
 ·intro b hb _;rw[←ha.heap]at hb⊢;exact Lib.bytesWorld_at_old w e _ b hb
 ·rw[Lib.bytesWorld_size,ha.heap]
end
end E

namespace E
theorem Rd.cells1{α:Type}{F:Nat→Prop}{H:Heap}{f:α→List Value}{sz:Nat}{v:Value}{l:List α}(h:Rd F H f sz v l):v.cells.toList=[v]:=by
 obtain⟨a,cap,rfl,_⟩:=h.ex;rfl
structure Ow {α:Type} (k:Nat) (e:TypeId) (H:Heap) (f:α→List Value) (sz:Nat) (v:Value) (l:List α):Prop where
 own:Own (fun b=>b+1=k) e H f sz v l
 le:k≤H.size
section
variable {α : Type} {k : Nat} {e : TypeId} {H H' : Heap} {f : α → List Value} {sz : Nat} {v : Value} {l : List α}
theorem Ow.rd(h:Ow k e H f sz v l):Rd (fun b=>b+1=k) H f sz v l:=h.own.rd
theorem Ow.sv(h:Ow k e H f sz v l):(toSV v).v=v:=h.own.sv
theorem Ow.up{S:Nat→Prop}(h:Ow k e H f sz v l)(s:Mo S H H')(hS:∀b,b<H.size→b+1=k→¬S b):Ow k e H' f sz v l:=⟨h.own.up s hS,Nat.le_trans h.le s.size⟩
theorem Ow.nw(h:Ow k e H f sz v l)(s:Nw H H'):Ow k e H' f sz v l:=h.up s (fun _ _ _ e=>e)
theorem Ow.nil(hf:∀x,(f x).length=sz)(h1:∀x,∀u∈f x,u.oneCell'=true):Ow 0 e H f sz (.slice none 0 0) ([]:List α):=⟨Own.nil hf h1,Nat.zero_le _⟩
theorem Ow.of{G:Nat→Prop}(h:Own G e H f sz v l):∃k,Ow k e H f sz v l∧(k=0∨∃g,k=g+1∧G g):=by
 rcases h.ex with⟨rfl,rfl⟩|⟨g,cap,cur,hv,hg,hh,r⟩
 ·exact⟨0,⟨⟨h.cells,h.one,.inl ⟨rfl,rfl⟩⟩,Nat.zero_le _⟩,.inl rfl⟩
 ·exact⟨g+1,⟨⟨h.cells,h.one,.inr ⟨g,cap,cur,hv,rfl,hh,r⟩⟩,hh.lt⟩,.inr ⟨g,rfl,hg⟩⟩
theorem Ow.at{j:Nat}(h:Ow k e H f sz v l)(hj:j<l.length):blk v+1=k:=(h.own.at hj).1
theorem Ow.pt{j:Nat}(h:Ow k e H f sz v l)(hj:j<l.length):Pt H ⟨blk v,j*sz,none⟩ (f l[j]):=h.own.pt hj
end
def Dj(a b:Nat):Prop:=∀c,c+1=a→c+1≠b
def Nx(k h k2:Nat):Prop:=k2=0∨k2=k∨h<k2
def Ms(ks:List Nat):Nat→Prop:=fun c=>c+1∈ks
def DL(a:Nat)(ks:List Nat):Prop:=∀k∈ks,Dj a k
def DF(F:Nat→Prop)(k:Nat):Prop:=∀b,F b→b+1≠k
def BF(F:Nat→Prop)(h:Nat):Prop:=∀b,F b→b<h
def DFL(F:Nat→Prop)(ks:List Nat):Prop:=∀k∈ks,DF F k
def MI(ks:List Nat)(h k:Nat):Prop:=∀b,b<h→b+1=k→Ms ks b
def MIL(ks:List Nat)(h:Nat)(js:List Nat):Prop:=∀k∈js,MI ks h k
section
variable {a b k k2 k3 h h2 : Nat} {ks js : List Nat} {F : Nat → Prop}
theorem Dj.symm(d:Dj a b):Dj b a:=fun c h1 h2=>d c h2 h1
theorem Dj.new(ha:a≤h):Dj a (h+1):=fun c h1 h2=>by omega
theorem Dj.z:Dj a 0:=fun c h1 h2=>by omega
theorem Dj.z2:Dj 0 a:=fun c h1 h2=>by omega
theorem Dj.app(d:Dj a k)(ha:a≤h)(hk:Nx k h k2):Dj a k2:=fun c h1 h2=>by
 rcases hk with rfl|rfl|hk
 ·omega
 ·exact d c h1 h2
 ·omega
theorem Dj.ne(d:Dj (a+1) (b+1)):a≠b:=fun e=>d a rfl (by rw[e])
theorem Dj.of(d:a≠b):Dj (a+1) (b+1):=fun c h1 h2=>by omega
theorem Nx.refl(k h:Nat):Nx k h k:= .inr (.inl rfl)
theorem Nx.new(hh:h≤h2):Nx 0 h (h2+1):= .inr (.inr (by omega))
theorem Nx.tr(x:Nx k h k2)(y:Nx k2 h2 k3)(hh:h≤h2):Nx k h k3:=by
 unfold Nx at*;omega
theorem DL.nil:DL a []:=fun k hk=>by cases hk
theorem DL.cons(d:Dj a k)(e:DL a ks):DL a (k::ks):=fun j hj=>by
 rcases List.mem_cons.1 hj with rfl|hj
 ·exact d
 ·exact e j hj
theorem DFL.nil:DFL F []:=fun k hk=>by cases hk
theorem DFL.cons(d:DF F k)(e:DFL F ks):DFL F (k::ks):=fun j hj=>by
 rcases List.mem_cons.1 hj with rfl|hj
 ·exact d
 ·exact e j hj
theorem DF.new(hb:BF F h):DF F (h+1):=fun b h1 h2=>by have:=hb b h1;omega
theorem DF.z:DF F 0:=fun b h1 h2=>by omega
theorem DF.app(d:DF F k)(hb:BF F h)(hk:Nx k h k2):DF F k2:=fun b h1 h2=>by
 have:=hb b h1;rcases hk with rfl|rfl|hk
 ·omega
 ·exact d b h1 h2
 ·omega
theorem BF.of(le:k≤h):BF (fun b=>b+1=k) h:=fun b e=>by simp only at e;omega
theorem DF.of(d:Dj a k):DF (fun b=>b+1=a) k:=fun b e=>d (b+1-1) (by simp only at e;omega)
theorem BF.mono(hb:BF F h)(hh:h≤h2):BF F h2:=fun b h1=>Nat.lt_of_lt_of_le (hb b h1) hh
theorem MI.root(hm:k∈ks):MI ks h k:=fun b _ h2=>by unfold Ms;rw[h2];exact hm
theorem MI.z:MI ks h 0:=fun b h1 h2=>by omega
theorem MI.new(hh:h≤h2):MI ks h (h2+1):=fun b h1 h3=>by omega
theorem MI.app(x:MI ks h k)(hk:Nx k h2 k2)(hh:h≤h2):MI ks h k2:=fun b h1 h3=>by
 rcases hk with rfl|rfl|hk
 ·omega
 ·exact x b h1 h3
 ·omega
theorem MIL.nil:MIL ks h []:=fun k hk=>by cases hk
theorem MIL.cons(d:MI ks h k)(e:MIL ks h js):MIL ks h (k::js):=fun j hj=>by
 rcases List.mem_cons.1 hj with rfl|hj
 ·exact d
 ·exact e j hj
theorem Mo.md{H H':Heap}(s:Mo (fun b=>b+1=k) H H'):Mo (Ms [k]) H H':=s.weaken (fun b _ e=>by unfold Ms;simp;exact e)
theorem Mo.md1{H H':Heap}(s:Mo (fun g=>g=b) H H'):Mo (Ms [b+1]) H H':=s.weaken (fun c _ e=>by unfold Ms;simp;exact e)
theorem Mo.mdn{H H':Heap}(s:Nw H H')(ks:List Nat):Mo (Ms ks) H H':=s.weaken (fun c _ e=>e.elim)
theorem Mo.nil{H H':Heap}(s:Mo (Ms []) H H'):Nw H H':=s.weaken (fun c _ e=>by cases e)
theorem Mo.trL{H0 H H':Heap}(x:Mo (Ms ks) H0 H)(s:Mo (Ms js) H H')(d:MIL ks H0.size js):Mo (Ms ks) H0 H':=
 Mo.trans x s (fun _ _ e=>e) (fun b hb e=>d (b+1) e b hb rfl)
theorem Mo.trN{H0 H H':Heap}(x:Mo (Ms ks) H0 H)(s:Nw H H'):Mo (Ms ks) H0 H':=Mo.trans x s (fun _ _ e=>e) (fun _ _ e=>e.elim)
theorem Ow.upL{α:Type}{e:TypeId}{H H':Heap}{f:α→List Value}{sz:Nat}{v:Value}{l:List α}(x:Ow a e H f sz v l)(s:Mo (Ms ks) H H')(d:DL a ks):Ow a e H' f sz v l:=
 x.up s (fun b _ h1 h2=>d (b+1) h2 b h1 rfl)
theorem Var.upL{e:TypeId}{H H':Heap}{cs:List Value}(x:Var e H b cs)(s:Mo (Ms ks) H H')(d:DL (b+1) ks):Var e H' b cs:=x.up s (fun h2=>d (b+1) h2 b rfl rfl)
theorem Rd.bnd{α:Type}{H:Heap}{f:α→List Value}{sz:Nat}{v:Value}{l:List α}(x:Rd F H f sz v l):Rd (fun b=>F b∧b<H.size) H f sz v l:=x.imp (fun b hb h=>⟨h,hb⟩)
theorem Rd.bf{α:Type}{H:Heap}{f:α→List Value}{sz:Nat}{v:Value}{l:List α}{G:Nat→Prop}(x:Rd (fun b=>G b∧b<h) H f sz v l):BF (fun b=>G b∧b<h) h:=fun b e=>e.2
theorem Rd.upL{α:Type}{H H':Heap}{f:α→List Value}{sz:Nat}{v:Value}{l:List α}(x:Rd F H f sz v l)(s:Mo (Ms ks) H H')(d:DFL F ks):Rd F H' f sz v l:=
 x.up s (fun b _ h1 h2=>d (b+1) h2 b h1 rfl)
end
structure Qr {α:Type} (k:Nat) (H:Heap) (f:α→List Value) (sz:Nat) (v:Value) (l:List α):Prop where
 rd:Rd (fun b=>b+1=k) H f sz v l
 le:k≤H.size
section
variable {α : Type} {k : Nat} {ks : List Nat} {e : TypeId} {H H' : Heap} {f : α → List Value} {sz : Nat} {v : Value} {l : List α}
theorem Qr.nw(h:Qr k H f sz v l)(s:Nw H H'):Qr k H' f sz v l:=⟨h.rd.nw s,Nat.le_trans h.le s.size⟩
theorem Qr.upL(h:Qr k H f sz v l)(s:Mo (Ms ks) H H')(d:DL k ks):Qr k H' f sz v l:=⟨h.rd.up s (fun b _ h1 h2=>d (b+1) h2 b h1 rfl),Nat.le_trans h.le s.size⟩
theorem Ow.q(h:Ow k e H f sz v l):Qr k H f sz v l:=⟨h.rd,h.le⟩
end
section
variable {P : Program} {w0 : World} {n : Nat} {l : FL} {H : Heap} {o : Oper} {α : Type} {k : Nat} {e : TypeId} {f : α → List Value} {sz : Nat} {v : Value} {xs ys : List α}
theorem Y.cast{v v2:Value}(h:Y P w0 n l H o v)(e:v=v2):Y P w0 n l H o v2:=e▸h
theorem LR.gsu{Q:Exit→Act→World→Prop}{ops:Array Oper}{rest:List Oper}{m:Bool}{d j e2:Nat}{b:Bool}(hg:o.guard=some (j,b))(hj:(ops[j]?).bind (·.dst)=some e2)(hc:lk l e2=some undef)
 (hd:o.dst=some d) (hn:Nat.blt d n=true) (h:LR m P w0 ops Q n ((d,undef)::l) rest H):LR m P w0 ops Q n l (o::rest) H:=by
 intro a w hf ha
 have hw:Region.wanted o (yielded ops a.tmps)=false:=by
  have h1:=hf.get e2 _ hc;have h2:(ops[j]?).bind (fun o=>o.dst)=some e2:=hj
  have h3:yielded ops a.tmps j=none:=by
   unfold yielded;rw[h2];simp[h1,undef]
  simp[Region.wanted,hg,h3]
 have hp:=hf.put hn undef;rw[←hd]at hp;have hh:=h _ w hp ha;cases m
 ·simp only[Md]at hh⊢
  unfold wpList;rw[if_neg (by simp[hw])];exact hh
 ·simp only[Md]at hh⊢
  unfold wpStill;rw[if_neg (by simp[hw])];exact hh
theorem Z.mono{R R':Value→Heap→Prop}(h:Z P w0 n l H o R)(hr:∀v H',R v H'→R' v H'):Z P w0 n l H o R':=by
 intro a w hf ha;obtain⟨v,H',w',h1,h2,h3⟩:=h a w hf ha;exact⟨v,H',w',h1,h2,hr _ _ h3⟩
theorem S.mono{R R':Heap→Prop}(h:S P w0 n l H o R)(hr:∀H',R H'→R' H'):S P w0 n l H o R':=by
 intro a w hf ha;obtain⟨H',w',h1,h2,h3⟩:=h a w hf ha;exact⟨H',w',h1,h2,hr _ h3⟩
theorem Z.apnd{F:Nat→Prop}{s x:Operand}{t:TypeId}{u:Value}{bytes:Nat}(h:Ow k e H f sz v xs)(hr:Rd F H f sz u ys)(ho:o.op= .call {callee:= .builtin .append,args:= #[s,x],argTypes:= #[t,t]})
 (hinf:Inf P t e sz bytes) (hs:opv l s=some v) (hx:opv l x=some u) (hb:(xs.length+ys.length)*bytes≤140737488355328) (hm:xs.length+ys.length≤9223372036854775807):
 Z P w0 n l H o (fun r H'=>∃k',Ow k' e H' f sz r (xs++ys)∧(k'=0∨k'=k∨H.size<k')∧Mo (fun b=>b+1=k) H H'):=
 (Z.append h.own hr ho hinf hs hx hb hm).mono fun r H' ⟨h1,h2⟩=>by
  obtain⟨k',h3,h4⟩:=Ow.of h1;refine⟨k',h3,?_,h2⟩;rcases h4 with rfl|⟨g,rfl,h5⟩
  ·exact .inl rfl
  ·omega
theorem Ow.new{G:Nat→Prop}{H':Heap}{c:Obj}(hG:∀b,G b→b=H.size)(h:Own G e H' f sz v xs)(hc:H'=H.push c):Ow (H.size+1) e H' f sz v xs:=
 ⟨h.imp (fun b _ hb=>by rw[hG b hb]),by rw[hc];simp⟩
theorem Z.litw{t:TypeId}{k bytes:Nat}{parts:List (Nat×Operand)}(vs:List Value)(zs:List α)(ho:o.op= .buildSlice t k parts.toArray)(hinf:Inf P t e sz bytes)(hp:opvs l (parts.map (·.2))=some vs)(hi:parts.map (·.1)=List.range k)(hk:vs.length=k)(hks:k*sz≤16777216)(hk16:k≤16777216)
 (hc:∀x,(f x).length=sz) (h1:∀x,∀u∈f x,u.oneCell'=true) (hz:vs.map (fun v=>v.cells.toList)=zs.map f):
 Z P w0 n l H o (fun r H'=>Ow (H.size+1) e H' f sz r zs∧Nw H H'∧∃c,H'=H.push c):=
 (Z.lit vs zs ho hinf hp hi hk hks hk16 hc h1 hz).mono fun r H' ⟨h1,h2,c,h3⟩=>⟨Ow.new (fun _ e=>e) h1 h3,h2,c,h3⟩
theorem Z.makew{t e:TypeId}{bytes:Nat}{x c:Operand}{kl kc:IntKind}{lv:Int}{z:Value}(k:Nat)(z0:α)(ho:o.op= .makeSlice t x c)(hinf:Inf P t e sz bytes)(hz:∀w,(zeroValue e).run P w= .ok z w)(hz0:f z0=z.cells.toList)
 (hc:∀x,(f x).length=sz) (h1:∀x,∀u∈f x,u.oneCell'=true) (hx:opv l x=some (.int kl lv)) (hcc:opv l c=some (.int kc lv)) (hk:lv=k) (hb:(bytes:Int)*k≤281474976710656) (hk2:k≤9223372036854775807):
 Z P w0 n l H o (fun r H'=>Ow (H.size+1) e H' f sz r (List.replicate k z0)∧Nw H H'∧∃ob,H'=H.push ob):=
 (Z.makeSlice k z0 ho hinf hz hz0 hc h1 hx hcc hk hb hk2).mono fun r H' ⟨h1,h2,c,h3⟩=>⟨Ow.new (fun _ e=>e) h1 h3,h2,c,h3⟩
theorem Z.strbw{x:Operand}{t u e:TypeId}{ut:TypeDesc}{s:List UInt8}(ho:o.op= .convert t u x)(ht:P.underlying t=some ut)(hu:P.underlying u=some (.slice e))(he:P.underlying e=some (.int .u8))(hx:opv l x=some (Str s))(hb:s.length≤9223372036854775807):
 Z P w0 n l H o (fun r H'=>Ow (H.size+1) e H' fB 1 r s∧Nw H H'∧H'.size=H.size+1):=
 (Z.strb ho ht hu he hx hb).mono fun r H' ⟨h1,h2,h3⟩=>⟨⟨h1.imp (fun b _ hb=>by rw[hb]),by rw[h3];exact Nat.le_refl _⟩,h2,h3⟩
theorem Y.owAddr{x i:Operand}{t:TypeId}{k2:IntKind}{iv:Int}(h:Ow k e H f sz v xs)(j:Nat)(ho:o.op= .indexAddr t x i)(ht:∀w,(underlying t).run P w= .ok (.slice e) w)(hs:∀w,(sizeOf e).run P w= .ok sz w)
 (hx:opv l x=some v) (hi:opv l i=some (.int k2 iv)) (hj:iv=j) (hlt:j<xs.length):Y P w0 n l H o (.pointer (some ⟨blk v,j*sz,none⟩)):=Y.ownAddr h.own j ho ht hs hx hi hj hlt
theorem Y.owFront{x hi:Operand}{t e2:TypeId}{k2:IntKind}{iv:Int}(h:Ow k e H f sz v xs)(j:Nat)(ho:o.op= .slice t x none (some hi) none)(ht:∀w,(underlying t).run P w= .ok (.slice e2) w)(hs:∀w,(sizeOf e2).run P w= .ok sz w)
 (hx:opv l x=some v) (hi2:opv l hi=some (.int k2 iv)) (hjv:iv=j) (hj:j≤xs.length):∃v',(∀H',Y P w0 n l H' o v')∧Ow k e H f sz v' (xs.take j):=by
 have run:∀(a:Option Addr) (len cap:Nat),v= .slice a len cap→j≤len→len≤cap→(∀ad,a=some ad→ad.spot=none)→∀H',Y P w0 n l H' o (.slice a j cap):=by
  rintro a len cap rfl h1 h2 h3 H' ac w hf ha
  have e1:∀w,(Instr.sliceBounds true len cap none (some (ac.eval hi)) none).run P w= .ok (0,j,cap) w:=by
   intro w;have b2:j≤cap:=by omega
   subst hjv;simp[Instr.sliceBounds,Instr.sliceBound,asIntOf,hf.eval hi2, *]
  have e3:(if cap=0 then a else a.map (·.add (0*sz)))=a:=by
   cases a with
   |none=>simp
   |some ad=>simp[add_eq (h3 ad rfl)];intro _;obtain⟨b,o,s⟩:=ad;have:=h3 _ rfl;simp at this;rw[this]
  have e4:=e3;simp only[Nat.zero_mul]at e4;simp[execOp,ho,hf.eval hx,Instr.sliceAt,Instr.slice,ht,hs,e1,e4]
 rcases h.own.ex with⟨rfl,rfl⟩|⟨g,cap,cur,hv,hg,hh,r1,r2,r3,r4⟩
 ·refine⟨.slice none j 0,run none 0 0 rfl (by simpa using hj) (Nat.le_refl _) (fun ad e=>by cases e),?_⟩
  have:j=0:=by simpa using hj
  subst this
  simpa using h
 ·refine⟨.slice (some ⟨g,0,none⟩) j cap,run _ _ _ hv hj r1 (fun ad e=>by rw[←Option.some.inj e]),⟨?_,h.le⟩⟩
  by_cases hne:xs=[]
  ·subst hne
   have hj0:j=0:=by simpa using hj
   subst hj0;have:=h.own;rw[hv]at this
   simpa using this
  ·have h2:=h.own
   rw[hv]at h2;exact h2.front hj hne
theorem S.oww{x y:Operand}{t:TypeId}{c:Value}(h:Ow k e H f sz v xs)(j i:Nat)(z:α)(ho:o.op= .store t x y)(hx:opv l x=some (.pointer (some ⟨blk v,j*sz+i,none⟩)))(hy:opv l y=some c)(h1:c.oneCell'=true)
 (hs:∀w,(sizeOf t).run P w= .ok 1 w) (hj:j<xs.length) (hk:i<sz) (hz:f z=(f xs[j]).set i c):S P w0 n l H o (fun H'=>Ow k e H' f sz v (xs.set j z)∧Mo (fun b=>b+1=k) H H'):=
 (S.own h.own j i z ho hx hy h1 hs hj hk hz).mono fun H' ⟨h1,h2⟩=>⟨⟨h1,Nat.le_trans h.le h2.size⟩,h2.weaken (fun b _ e=>by have:=h.at hj;omega)⟩
theorem Y.peq{x y:Operand}{t u:TypeId}{p:Option Addr}(ho:o.op= .binOp .eql t x y u)(ht:P.underlying t=some (.pointer (P.pointee t)))(hm:P.eqGuardType P.depth t=false)(hx:opv l x=some (.pointer p))(hy:opv l y=some (.pointer none)):Y P w0 n l H o (.bool p.isNone):=by
 intro a w hf ha;have h:=run_equal_pointer_nil (w:=w) t p ht;simp[execOp,ho,hf.eval hx,hf.eval hy,binOp,eqGuard,h]
theorem Y.pne{x y:Operand}{t u:TypeId}{p:Option Addr}(ho:o.op= .binOp .neq t x y u)(ht:P.underlying t=some (.pointer (P.pointee t)))(hm:P.eqGuardType P.depth t=false)(hx:opv l x=some (.pointer p))(hy:opv l y=some (.pointer none)):Y P w0 n l H o (.bool p.isSome):=by
 intro a w hf ha;have h:=run_equal_pointer_nil (w:=w) t p ht;simp[execOp,ho,hf.eval hx,hf.eval hy,binOp,eqGuard,h]
theorem Y.sleq{x y:Operand}{t u e:TypeId}{p:Option Addr}{k c:Nat}(ho:o.op= .binOp .eql t x y u)(ht:P.underlying t=some (.slice e))(hx:opv l x=some (.slice p k c))(hy:opv l y=some (.slice none 0 0)):Y P w0 n l H o (.bool p.isNone):=by
 intro a w hf ha;have h:=run_equal_slice_nil (w:=w) t e p k c ht;simp[execOp,ho,hf.eval hx,hf.eval hy,binOp,eqGuard,h]
theorem Z.bconst{k2:Nat}{x:Operand}{t e:TypeId}{v:Value}{xs:List UInt8}(h:Ow k2 e H fB 1 v xs)(hne:xs≠[])(ho:o.op= .convert t t x)(ht:P.underlying t=some (.slice e))(he:P.underlying e=some (.int .u8))(hx:opv l x=some v):
 Z P w0 n l H o (fun r H'=>r=v∧Ow k2 e H' fB 1 v xs∧Mo (fun b=>b+1=k2) H H'):=by
 intro a w hf ha;rcases h.own.ex with⟨rfl,rfl⟩|⟨g,cap,cur,hv,hg,hh,r1,r2,r3,r4⟩
 ·exact absurd rfl hne
 ·obtain⟨⟨lo,hi⟩,hh,hs1,hs2⟩:=hh
  simp only at hs1 hs2;have hw:w.heap[g]?=some (.cells cur e (lo,hi)):=by rw[ha.heap];exact hh
  have hsh:w.shape? g=some (e,cur.size):=by unfold World.shape?;rw[hw]
  have hrun:(execOp a.eval o).run P w= .ok (.value v) (w.freeze ⟨g,cur.size,none⟩ 1):=by
   simp[execOp,ho,hf.eval hx,hv,convert,run_underlying ht,run_underlying he,markStringish,hsh]
  have hfr:(w.freeze ⟨g,cur.size,none⟩ 1).heap[g]?=some (.cells cur e (if lo==hi then(cur.size,cur.size+1)else(min lo cur.size,max hi (cur.size+1)))):=by
   unfold World.freeze;rw[if_neg (by decide)];simp[Array.getElem?_modify,hw]
  have hmo:Mo (fun b=>b+1=k2) H (w.freeze ⟨g,cur.size,none⟩ 1).heap:=by
   unfold World.freeze;rw[if_neg (by decide)];refine⟨by simp[ha.heap],fun b hb hne2=>?_⟩;simp only[Array.getElem?_modify,ha.heap];rw[if_neg (by omega)]
  have hsz:(w.freeze ⟨g,cur.size,none⟩ 1).heap.size=H.size:=by
   unfold World.freeze;rw[if_neg (by decide)];simp[ha.heap]
  refine⟨v,_,_,hrun,⟨rfl,?_,?_,?_,?_⟩,rfl,⟨⟨h.own.cells,h.own.one,.inr ⟨g,cap,cur,hv,hg,⟨_,hfr,?_⟩,r1,r2,r3,r4⟩⟩,by rw[hsz];exact h.le⟩,hmo⟩
  ·have:=ha.os;unfold World.freeze;rw[if_neg (by decide)];exact this
  ·have:=ha.tape;unfold World.freeze;rw[if_neg (by decide)];exact this
  ·have:=ha.output;unfold World.freeze;rw[if_neg (by decide)];exact this
  ·have:=ha.dr;unfold World.freeze;rw[if_neg (by decide)];exact this
  ·by_cases hlh:lo=hi
   ·subst hlh
    simp only[beq_self_eq_true,if_true];refine⟨by simp only;omega,fun i hi2 hc=>?_⟩;simp only at hc;omega
   ·rw[if_neg (by simpa using hlh)]
    refine⟨by simp only;omega,fun i hi2 hc=>?_⟩;simp only at hc;have:=hs2 lo;by_cases hl:lo<cur.size
    ·have:=hs2 lo hl;omega
    ·omega
end
section
variable {m a b : Nat} {F S : Nat → Prop} {α : Type} {e : TypeId} {H0 H H' : Heap} {f : α → List Value} {sz : Nat} {v : Value} {l : List α} {cs : List Value}
theorem DF.above{k n:Nat}(hF:∀b,F b→n≤b)(hk:k≤n):DF F k:=fun b h e=>by have:=hF b h;omega
end
section
variable {P : Program} {w0 : World} {n : Nat} {l : FL} {H : Heap} {o : Oper} {α : Type} {e : TypeId} {f : α → List Value} {sz : Nat}
end
structure PtF (F:Nat→Prop) (H:Heap) (ad:Addr) (cs:List Value):Prop where
 pt:Pt H ad cs
 f:F ad.block
section
variable {F : Nat → Prop} {H H' : Heap} {ad : Addr} {cs : List Value} {ks : List Nat} {m : Nat}
theorem PtF.nw(h:PtF F H ad cs)(s:Nw H H'):PtF F H' ad cs:=⟨h.pt.nw s,h.f⟩
theorem PtF.upL(h:PtF F H ad cs)(s:Mo (Ms ks) H H')(d:DFL F ks):PtF F H' ad cs:=⟨h.pt.up s (fun e=>d _ e _ h.f rfl),h.f⟩
end
section
variable {P : Program} {w0 : World} {n : Nat} {l : FL} {H : Heap} {o : Oper} {α : Type} {F : Nat → Prop} {f : α → List Value} {sz : Nat} {v : Value} {xs : List α}
theorem Y.indexAddrF{x i:Operand}{t e:TypeId}{k:IntKind}{iv:Int}(h:Rd F H f sz v xs)(j:Nat)(ho:o.op= .indexAddr t x i)(ht:∀w,(underlying t).run P w= .ok (.slice e) w)(hs:∀w,(sizeOf e).run P w= .ok sz w)
 (hx:opv l x=some v) (hi:opv l i=some (.int k iv)) (hj:iv=j) (hlt:j<xs.length):∃ad,(∀H',Y P w0 n l H' o (.pointer (some ad)))∧PtF F H ad (f xs[j]):=by
 obtain⟨a,cap,rfl,h1,h2,h3⟩:=h.ex;obtain⟨ad,rfl,e2,e3,e4,e5⟩:=h3 (by intro e;subst e;simp at hlt);subst hj;refine⟨_,?_,e5 j xs[j] (by simp[hlt]),by first|exact e3|exact e4⟩;intro H' ac w hf ha;simp[execOp,ho,hf.eval hx,hf.eval hi,Instr.indexAt,asIntOf,ht,hs,hlt,add_eq e2]
end
end E

namespace E
section
variable {P : Program} {w0 : World} {Q : Exit → Act → World → Prop} {n : Nat} {l : FL} {H : Heap} {ops : Array Oper} {rest : List Oper} {o : Oper} {m : Bool}
theorem LR.v1{v:Value}{d:Nat}(hy:Y P w0 n l H o v)(h:LR m P w0 ops Q n ((d,v)::l) rest H)(hw:Wd ops l o:=by exact Wd.u rfl)(hd:o.dst=some d:=by exact rfl)(hn:Nat.blt d n=true:=by exact rfl):LR m P w0 ops Q n l (o::rest) H:=LR.v hy hw hd hn h
theorem LR.m1{x:Operand}{v:Value}{d:Nat}(h:LR m P w0 ops Q n ((d,v)::l) rest H)(ho:o.op= .move x:=by exact rfl)(hx:opv l x=some v:=by exact rfl)(hw:Wd ops l o:=by exact Wd.u rfl)(hd:o.dst=some d:=by exact rfl)(hn:Nat.blt d n=true:=by exact rfl):LR m P w0 ops Q n l (o::rest) H:=LR.v (Y.move ho hx) hw hd hn h
theorem LR.a1{x:Operand}{v:Value}{d:Nat}(h:LR m P w0 ops Q n ((d,v)::l) rest H)(ho:o.op= .assign x:=by exact rfl)(hx:opv l x=some v:=by exact rfl)(hw:Wd ops l o:=by exact Wd.u rfl)(hd:o.dst=some d:=by exact rfl)(hn:Nat.blt d n=true:=by exact rfl):LR m P w0 ops Q n l (o::rest) H:=LR.v (Y.assign ho hx) hw hd hn h
theorem Y.FA{x:Operand}{s:TypeId}{k off sz2:Nat}{ad:Addr}{cs:List Value}{fs:Array Field}{fd:Field}(h:Pt H ad cs)(ho:o.op= .fieldAddr s x k)(hu:∀w,(underlying s).run P w= .ok (.struct fs) w)(hk:fs[k]?=some fd)(hsz:∀w,(sizeOf fd.type).run P w= .ok sz2 w)
 (hof:fd.offset=off:=by exact rfl) (hz:sz2≠0:=by decide) (hx:opv l x=some (.pointer (some ad)):=by exact rfl):Y P w0 n l H o (.pointer (some (ad.add off))):=Y.fieldAddr h ho hu hk hof hsz hz hx
theorem LR.g1{d j e:Nat}{b c:Bool}(h:LR m P w0 ops Q n ((d,undef)::l) rest H)(hg:o.guard=some (j,b):=by exact rfl)(hj:(ops[j]?).bind (·.dst)=some e:=by exact rfl)(hc:lk l e=some (.bool c):=by exact rfl)(hne:(c==b)=false:=by exact rfl)(hd:o.dst=some d:=by exact rfl)(hn:Nat.blt d n=true:=by exact rfl):LR m P w0 ops Q n l (o::rest) H:=LR.gs hg hj hc hne hd hn h
theorem LR.w1{v:Value}{d j e:Nat}{b:Bool}(hy:Y P w0 n l H o v)(h:LR m P w0 ops Q n ((d,v)::l) rest H)(hg:o.guard=some (j,b):=by exact rfl)(hj:(ops[j]?).bind (·.dst)=some e:=by exact rfl)(hc:lk l e=some (.bool b):=by exact rfl)(hd:o.dst=some d:=by exact rfl)(hn:Nat.blt d n=true:=by exact rfl):LR m P w0 ops Q n l (o::rest) H:=LR.v hy (Wd.g hg hj hc) hd hn h
theorem CW.s1{x y:Code}(h:∀{K:Exit→Act→World→Prop},(∀l' H',CW P w0 Q n l' y H'→QN w0 K n l' H')→CW P w0 K n l x H):CW P w0 Q n l (.seq x y) H:=CW.seq (fun _ hK _=>h hK)
theorem CW.s2{x y:Code}(h:∀{K:Exit→Act→World→Prop},(∀l' H',CW P w0 Q n l' y H'→QN w0 K n l' H')→(∀e,e≠ .normal→∀l' H',QE w0 Q e n l' H'→QE w0 K e n l' H')→CW P w0 K n l x H):CW P w0 Q n l (.seq x y) H:=CW.seq (fun _ hK hE=>h hK hE)
theorem Y.iF{α:Type}{F:Nat→Prop}{f:α→List Value}{sz:Nat}{v:Value}{xs:List α}{x i:Operand}{t e:TypeId}{k:IntKind}{iv:Int}(h:Rd F H f sz v xs)(j:Nat)(ho:o.op= .indexAddr t x i)(ht:∀w,(underlying t).run P w= .ok (.slice e) w)(hs:∀w,(sizeOf e).run P w= .ok sz w)
 (hx:opv l x=some v) (hi:opv l i=some (.int k iv)) (hj:iv=j:=by first|rfl|omega) (hlt:j<xs.length:=by first|omega|(simp;omega)|(simp;done)):∃ad,(∀H',Y P w0 n l H' o (.pointer (some ad)))∧PtF F H ad (f xs[j]):=Y.indexAddrF h j ho ht hs hx hi hj hlt
theorem LR.z1{R:Value→Heap→Prop}{d:Nat}(hz:E.Z P w0 n l H o R)(h:∀v H',R v H'→LR false P w0 ops Q n ((d,v)::l) rest H')(hw:Wd ops l o:=by exact Wd.u rfl)(hd:o.dst=some d:=by exact rfl)(hn:Nat.blt d n=true:=by exact rfl):LR false P w0 ops Q n l (o::rest) H:=LR.z hz hw hd hn h
theorem LR.s1{R:Heap→Prop}(hz:E.S P w0 n l H o R)(h:∀H',R H'→LR false P w0 ops Q n l rest H')(hw:Wd ops l o:=by exact Wd.u rfl)(hd:o.dst=none:=by exact rfl):LR false P w0 ops Q n l (o::rest) H:=LR.s hz hw hd h
theorem LR.e1{α:Type}{g:α→Value}{φ:α→Prop}{d:Nat}(hy:∃x,(∀H',Y P w0 n l H' o (g x))∧φ x)(h:∀x,φ x→LR m P w0 ops Q n ((d,g x)::l) rest H)(hw:Wd ops l o:=by exact Wd.u rfl)(hd:o.dst=some d:=by exact rfl)(hn:Nat.blt d n=true:=by exact rfl):LR m P w0 ops Q n l (o::rest) H:=LR.e hy hw hd hn h
theorem CW.sr{id:Nat}{lo:List Oper}{y:Code}(h:∀{K:Exit→Act→World→Prop},(∀l' H',CW P w0 Q n l' y H'→QN w0 K n l' H')→LR false P w0 lo.toArray K n l lo H):CW P w0 Q n l (.seq (.region id lo.toArray false) y) H:=CW.seq (fun _ hK _=>CW.region (h hK))
theorem LR.an{x:Operand}{v:Value}{d:Nat}(h:QN w0 Q n ((d,v)::l) H)(ho:o.op= .assign x:=by exact rfl)(hx:opv l x=some v:=by exact rfl)(hw:Wd ops l o:=by exact Wd.u rfl)(hd:o.dst=some d:=by exact rfl)(hn:Nat.blt d n=true:=by exact rfl):LR m P w0 ops Q n l [o] H:=LR.v (Y.assign ho hx) hw hd hn (LR.nil h)
theorem LR.n1{x:Operand}{ad:Addr}{d:Nat}(h:LR m P w0 ops Q n ((d,.pointer (some ad))::l) rest H)(ho:o.op= .nilCheck x:=by exact rfl)(hx:opv l x=some (.pointer (some ad)):=by exact rfl)(hw:Wd ops l o:=by exact Wd.u rfl)(hd:o.dst=some d:=by exact rfl)(hn:Nat.blt d n=true:=by exact rfl):LR m P w0 ops Q n l (o::rest) H:=LR.v (Y.nilCheck ho hx) hw hd hn h
theorem LR.pt{c x y:Operand}{v:Value}{d:Nat}(h:LR m P w0 ops Q n ((d,v)::l) rest H)(ho:o.op= .pick c x y:=by exact rfl)(hc:opv l c=some (.bool true):=by exact rfl)(hx:opv l x=some v:=by exact rfl)(hw:Wd ops l o:=by exact Wd.u rfl)(hd:o.dst=some d:=by exact rfl)(hn:Nat.blt d n=true:=by exact rfl):LR m P w0 ops Q n l (o::rest) H:=LR.v (Y.pick_t ho hc hx) hw hd hn h
theorem LR.pf{c x y:Operand}{v:Value}{d:Nat}(h:LR m P w0 ops Q n ((d,v)::l) rest H)(ho:o.op= .pick c x y:=by exact rfl)(hc:opv l c=some (.bool false):=by exact rfl)(hx:opv l y=some v:=by exact rfl)(hw:Wd ops l o:=by exact Wd.u rfl)(hd:o.dst=some d:=by exact rfl)(hn:Nat.blt d n=true:=by exact rfl):LR m P w0 ops Q n l (o::rest) H:=LR.v (Y.pick_f ho hc hx) hw hd hn h
theorem LR.wm{x:Operand}{v:Value}{d j e:Nat}{b:Bool}(h:LR m P w0 ops Q n ((d,v)::l) rest H)(ho:o.op= .move x:=by exact rfl)(hx:opv l x=some v:=by exact rfl)(hg:o.guard=some (j,b):=by exact rfl)(hj:(ops[j]?).bind (·.dst)=some e:=by exact rfl)(hc:lk l e=some (.bool b):=by exact rfl)(hd:o.dst=some d:=by exact rfl)(hn:Nat.blt d n=true:=by exact rfl):LR m P w0 ops Q n l (o::rest) H:=LR.v (Y.move ho hx) (Wd.g hg hj hc) hd hn h
end
section
variable {P : Program} {w0 : World} {Q : Exit → Act → World → Prop} {n k : Nat} {dn : List Nat} {l : FL} {H : Heap} {ops : Array Oper} {o : Oper} {SH : Heap → Prop} {X : List Nat}
theorem LH.t1{v:Value}{d:Nat}(i:Nat)(hi:ops[i]?=some o)(hy:∀H',SH H'→Y P w0 n l H' o v)(hS:SH H)(h:LH P w0 ops Q SH X n k (i::dn) ((d,v)::l) H)
 (hX:X.all (fun j=>Nat.beq j i||Region.waitsFor .any ops j i)=true:=by kernel_rfl) (hs:Region.noSelect ops=true:=by kernel_rfl) (hfr:Region.free .any ops (lst ops.size dn) i=true:=by kernel_rfl) (hr:(Region.ready .any ops (lst ops.size dn)).contains i=true:=by kernel_rfl)
 (hw:Wd ops l o:=by exact Wd.u rfl) (hd:o.dst=some d:=by exact rfl) (hn:Nat.blt d n=true:=by exact rfl):LH P w0 ops Q SH X n (k+1) dn l H:=LH.take i hX hi hs hfr hr hy hw hd hn hS h
theorem LH.m1{x:Operand}{v:Value}{d:Nat}(i:Nat)(hi:ops[i]?=some o)(hS:SH H)(h:LH P w0 ops Q SH X n k (i::dn) ((d,v)::l) H)(ho:o.op= .move x:=by exact rfl)(hx:opv l x=some v:=by exact rfl)
 (hX:X.all (fun j=>Nat.beq j i||Region.waitsFor .any ops j i)=true:=by kernel_rfl) (hs:Region.noSelect ops=true:=by kernel_rfl) (hfr:Region.free .any ops (lst ops.size dn) i=true:=by kernel_rfl) (hr:(Region.ready .any ops (lst ops.size dn)).contains i=true:=by kernel_rfl)
 (hw:Wd ops l o:=by exact Wd.u rfl) (hd:o.dst=some d:=by exact rfl) (hn:Nat.blt d n=true:=by exact rfl):LH P w0 ops Q SH X n (k+1) dn l H:=LH.take i hX hi hs hfr hr (fun _ _=>Y.move ho hx) hw hd hn hS h
theorem LH.n1{x:Operand}{ad:Addr}{d:Nat}(i:Nat)(hi:ops[i]?=some o)(hS:SH H)(h:LH P w0 ops Q SH X n k (i::dn) ((d,.pointer (some ad))::l) H)(ho:o.op= .nilCheck x:=by exact rfl)(hx:opv l x=some (.pointer (some ad)):=by exact rfl)
 (hX:X.all (fun j=>Nat.beq j i||Region.waitsFor .any ops j i)=true:=by kernel_rfl) (hs:Region.noSelect ops=true:=by kernel_rfl) (hfr:Region.free .any ops (lst ops.size dn) i=true:=by kernel_rfl) (hr:(Region.ready .any ops (lst ops.size dn)).contains i=true:=by kernel_rfl)
 (hw:Wd ops l o:=by exact Wd.u rfl) (hd:o.dst=some d:=by exact rfl) (hn:Nat.blt d n=true:=by exact rfl):LH P w0 ops Q SH X n (k+1) dn l H:=LH.take i hX hi hs hfr hr (fun _ _=>Y.nilCheck ho hx) hw hd hn hS h
theorem LH.u1{v:Value}{d:Nat}(i:Nat)(hi:ops[i]?=some o)(hy:∀H',SH H'→Y P w0 n l H' o v)(hw:Wd ops l o)(hS:SH H)(h:LH P w0 ops Q SH X n k (i::dn) ((d,v)::l) H)
 (hX:X.all (fun j=>Nat.beq j i||Region.waitsFor .any ops j i)=true:=by kernel_rfl) (hs:Region.noSelect ops=true:=by kernel_rfl) (hfr:Region.free .any ops (lst ops.size dn) i=true:=by kernel_rfl) (hr:(Region.ready .any ops (lst ops.size dn)).contains i=true:=by kernel_rfl)
 (hd:o.dst=some d:=by exact rfl) (hn:Nat.blt d n=true:=by exact rfl):LH P w0 ops Q SH X n (k+1) dn l H:=LH.take i hX hi hs hfr hr hy hw hd hn hS h
theorem LH.g1{d j e:Nat}{b c:Bool}(i:Nat)(hi:ops[i]?=some o)(hg:o.guard=some (j,b))(hj:(ops[j]?).bind (·.dst)=some e)(hc:lk l e=some (.bool c))(hS:SH H)(h:LH P w0 ops Q SH X n k (i::dn) ((d,undef)::l) H)
 (hX:X.all (fun j=>Nat.beq j i||Region.waitsFor .any ops j i)=true:=by kernel_rfl) (hs:Region.noSelect ops=true:=by kernel_rfl) (hfr:Region.free .any ops (lst ops.size dn) i=true:=by kernel_rfl) (hr:(Region.ready .any ops (lst ops.size dn)).contains i=true:=by kernel_rfl)
 (hne:(c==b)=false:=by exact rfl) (hd:o.dst=some d:=by exact rfl) (hn:Nat.blt d n=true:=by exact rfl):LH P w0 ops Q SH X n (k+1) dn l H:=LH.gs i hX hi hs hfr hr hg hj hc hne hd hn hS h
theorem LH.o1(i:Nat)(h:LO P w0 ops Q SH X n k i dn l H)(hr:Region.ready .any ops (lst ops.size dn)=[i]:=by kernel_rfl):LH P w0 ops Q SH X n (k+1) dn l H:=LH.one hr h
end
theorem MI.q{ks:List Nat}{h k2:Nat}(x:Nx 0 h k2):MI ks h k2:=MI.app MI.z x (Nat.le_refl _)
theorem MI.r{ks:List Nat}{h k k2:Nat}(x:Nx k h k2)(hm:k∈ks:=by simp):MI ks h k2:=MI.app (MI.root hm) x (Nat.le_refl _)
theorem MIL.o{ks:List Nat}{h k:Nat}(d:MI ks h k):MIL ks h [k]:=MIL.cons d MIL.nil
theorem DL.o{a k:Nat}(d:Dj a k):DL a [k]:=DL.cons d DL.nil
theorem DFL.o{F:Nat→Prop}{k:Nat}(d:DF F k):DFL F [k]:=DFL.cons d DFL.nil
theorem Mo.tq{js:List Nat}{H0 H H':Heap}(x:Nw H0 H)(s:Mo (Ms js) H H')(d:MIL [] H0.size js):Nw H0 H':=(Mo.trL (ks:=[]) (x.mdn []) s d).nil
def a'3:= @Tryz.isAgg3
def a'4:= @Tryz.isAgg4
def a'5:= @Tryz.isAgg5
def a'9:= @Tryz.isAgg9
def a'22:= @Tryz.isAgg22
def a'26:= @Tryz.isAgg26
def a'30:= @Tryz.isAgg30
def a'34:= @Tryz.isAgg34
def a'39:= @Tryz.isAgg39
def a'45:= @Tryz.isAgg45
def a'52:= @Tryz.isAgg52
def a'60:= @Tryz.isAgg60
def a'66:= @Tryz.isAgg66
def a'79:= @Tryz.isAgg79
def a'87:= @Tryz.isAgg87
def a'94:= @Tryz.isAgg94
def a'97:= @Tryz.isAgg97
def a'101:= @Tryz.isAgg101
def a'103:= @Tryz.isAgg103
def a'110:= @Tryz.isAgg110
def a'120:= @Tryz.isAgg120
def a'121:= @Tryz.isAgg121
def a'122:= @Tryz.isAgg122
def a'127:= @Tryz.isAgg127
def a'129:= @Tryz.isAgg129
def a'130:= @Tryz.isAgg130
def a'149:= @Tryz.isAgg149
def a'151:= @Tryz.isAgg151
def a'162:= @Tryz.isAgg162
def a'165:= @Tryz.isAgg165
def a'185:= @Tryz.isAgg185
def a'186:= @Tryz.isAgg186
def a'187:= @Tryz.isAgg187
def a'211:= @Tryz.isAgg211
def c'6:= @Tryz.call6
def c'7:= @Tryz.call7
def c'8:= @Tryz.call8
def c'9:= @Tryz.call9
def c'10:= @Tryz.call10
def c'11:= @Tryz.call11
def c'12:= @Tryz.call12
def c'13:= @Tryz.call13
def c'14:= @Tryz.call14
def c'15:= @Tryz.call15
def c'16:= @Tryz.call16
def c'17:= @Tryz.call17
def c'18:= @Tryz.call18
def c'19:= @Tryz.call19
def c'20:= @Tryz.call20
def c'21:= @Tryz.call21
def c'22:= @Tryz.call22
def c'23:= @Tryz.call23
def c'24:= @Tryz.call24
def c'25:= @Tryz.call25
def c'26:= @Tryz.call26
def c'27:= @Tryz.call27
def c'28:= @Tryz.call28
def c'29:= @Tryz.call29
def c'30:= @Tryz.call30
def c'31:= @Tryz.call31
def c'32:= @Tryz.call32
def c'33:= @Tryz.call33
def c'34:= @Tryz.call34
def c'35:= @Tryz.call35
def c'36:= @Tryz.call36
def c'37:= @Tryz.call37
def c'38:= @Tryz.call38
def c'39:= @Tryz.call39
def c'40:= @Tryz.call40
def c'41:= @Tryz.call41
def c'42:= @Tryz.call42
def c'43:= @Tryz.call43
def c'44:= @Tryz.call44
def c'45:= @Tryz.call45
def c'46:= @Tryz.call46
def c'47:= @Tryz.call47
def c'48:= @Tryz.call48
def c'49:= @Tryz.call49
def c'50:= @Tryz.call50
def c'51:= @Tryz.call51
def c'52:= @Tryz.call52
def c'53:= @Tryz.call53
def c'54:= @Tryz.call54
def c'55:= @Tryz.call55
def c'56:= @Tryz.call56
def c'57:= @Tryz.call57
def c'58:= @Tryz.call58
def c'59:= @Tryz.call59
def c'60:= @Tryz.call60
def c'61:= @Tryz.call61
def c'62:= @Tryz.call62
def c'63:= @Tryz.call63
def c'64:= @Tryz.call64
def c'65:= @Tryz.call65
def c'66:= @Tryz.call66
def c'67:= @Tryz.call67
def c'68:= @Tryz.call68
def c'69:= @Tryz.call69
def c'70:= @Tryz.call70
def c'71:= @Tryz.call71
def c'72:= @Tryz.call72
def c'73:= @Tryz.call73
def c'74:= @Tryz.call74
def c'75:= @Tryz.call75
def c'76:= @Tryz.call76
def c'77:= @Tryz.call77
def c'78:= @Tryz.call78
def c'82:= @Tryz.call82
def c'83:= @Tryz.call83
def c'84:= @Tryz.call84
def c'85:= @Tryz.call85
def c'86:= @Tryz.call86
def c'87:= @Tryz.call87
def c'88:= @Tryz.call88
def c'89:= @Tryz.call89
def c'90:= @Tryz.call90
def c'91:= @Tryz.call91
def c'92:= @Tryz.call92
def c'93:= @Tryz.call93
def c'94:= @Tryz.call94
def c'95:= @Tryz.call95
def c'96:= @Tryz.call96
def c'97:= @Tryz.call97
def c'98:= @Tryz.call98
def c'99:= @Tryz.call99
def c'100:= @Tryz.call100
def c'111:= @Tryz.call111
def c'112:= @Tryz.call112
def c'113:= @Tryz.call113
def c'114:= @Tryz.call114
def c'115:= @Tryz.call115
def c'118:= @Tryz.call118
def c'119:= @Tryz.call119
def c'120:= @Tryz.call120
def c'121:= @Tryz.call121
def c'128:= @Tryz.call128
def c'129:= @Tryz.call129
def c'130:= @Tryz.call130
def c'149:= @Tryz.call149
def c'158:= @Tryz.call158
def c'159:= @Tryz.call159
def c'160:= @Tryz.call160
def c'162:= @Tryz.call162
def s'2:= @Tryz.sizeOf2
def s'3:= @Tryz.sizeOf3
def s'4:= @Tryz.sizeOf4
def s'5:= @Tryz.sizeOf5
def s'9:= @Tryz.sizeOf9
def s'22:= @Tryz.sizeOf22
def s'26:= @Tryz.sizeOf26
def s'34:= @Tryz.sizeOf34
def s'39:= @Tryz.sizeOf39
def s'45:= @Tryz.sizeOf45
def s'52:= @Tryz.sizeOf52
def s'60:= @Tryz.sizeOf60
def s'66:= @Tryz.sizeOf66
def s'71:= @Tryz.sizeOf71
def s'79:= @Tryz.sizeOf79
def s'87:= @Tryz.sizeOf87
def s'94:= @Tryz.sizeOf94
def s'96:= @Tryz.sizeOf96
def s'97:= @Tryz.sizeOf97
def s'101:= @Tryz.sizeOf101
def s'103:= @Tryz.sizeOf103
def s'109:= @Tryz.sizeOf109
def s'110:= @Tryz.sizeOf110
def s'120:= @Tryz.sizeOf120
def s'121:= @Tryz.sizeOf121
def s'122:= @Tryz.sizeOf122
def s'127:= @Tryz.sizeOf127
def s'129:= @Tryz.sizeOf129
def s'130:= @Tryz.sizeOf130
def s'149:= @Tryz.sizeOf149
def s'151:= @Tryz.sizeOf151
def s'162:= @Tryz.sizeOf162
def s'165:= @Tryz.sizeOf165
def s'185:= @Tryz.sizeOf185
def s'186:= @Tryz.sizeOf186
def s'187:= @Tryz.sizeOf187
def s'209:= @Tryz.sizeOf209
def s'211:= @Tryz.sizeOf211
def u'3:= @Tryz.runUnderlying3
def u'5:= @Tryz.runUnderlying5
def u'9:= @Tryz.runUnderlying9
def u'22:= @Tryz.runUnderlying22
def u'34:= @Tryz.runUnderlying34
def u'39:= @Tryz.runUnderlying39
def u'44:= @Tryz.runUnderlying44
def u'52:= @Tryz.runUnderlying52
def u'60:= @Tryz.runUnderlying60
def u'62:= @Tryz.runUnderlying62
def u'64:= @Tryz.runUnderlying64
def u'66:= @Tryz.runUnderlying66
def u'71:= @Tryz.runUnderlying71
def u'73:= @Tryz.runUnderlying73
def u'76:= @Tryz.runUnderlying76
def u'86:= @Tryz.runUnderlying86
def u'87:= @Tryz.runUnderlying87
def u'94:= @Tryz.runUnderlying94
def u'96:= @Tryz.runUnderlying96
def u'97:= @Tryz.runUnderlying97
def u'99:= @Tryz.runUnderlying99
def u'103:= @Tryz.runUnderlying103
def u'109:= @Tryz.runUnderlying109
def u'110:= @Tryz.runUnderlying110
def u'112:= @Tryz.runUnderlying112
def u'121:= @Tryz.runUnderlying121
def u'122:= @Tryz.runUnderlying122
def u'124:= @Tryz.runUnderlying124
def u'129:= @Tryz.runUnderlying129
def u'130:= @Tryz.runUnderlying130
def u'132:= @Tryz.runUnderlying132
def u'145:= @Tryz.runUnderlying145
def u'146:= @Tryz.runUnderlying146
def u'149:= @Tryz.runUnderlying149
def u'151:= @Tryz.runUnderlying151
def u'162:= @Tryz.runUnderlying162
def u'165:= @Tryz.runUnderlying165
def u'185:= @Tryz.runUnderlying185
def u'186:= @Tryz.runUnderlying186
def u'187:= @Tryz.runUnderlying187
def u'209:= @Tryz.runUnderlying209
def u'211:= @Tryz.runUnderlying211
def z'5:= @Tryz.zeroValue5
def z'9:= @Tryz.zeroValue9
def z'52:= @Tryz.zeroValue52
def z'92:= @Tryz.zeroValue92
def z'101:= @Tryz.zeroValue101
def z'103:= @Tryz.zeroValue103
def z'149:= @Tryz.zeroValue149
def z'162:= @Tryz.zeroValue162
def z'165:= @Tryz.zeroValue165
def z'186:= @Tryz.zeroValue186
def z'187:= @Tryz.zeroValue187
end E

namespace E
section
variable {P : Program} {w0 : World} {n : Nat} {l : FL} {H : Heap} {o : Oper}
theorem Y.ext{f:FuncId}{fn:Func}{e:Array Value→Sem Value}{args:List Operand}{ats:Array TypeId}{vs:List Value}{v:Value}(ho:o.op= .call {callee:= .value (.func f),args:=args.toArray,argTypes:=ats})(hf:P.funcs[f]?=some fn)
 (hname:(fn.name== "runtime.NumGoroutine")=false) (hb:fn.body.isNone=true) (hn:Extern.findNext fn=none) (he:Extern.find fn=some e) (hv:opvs l args=some vs) (hr:∀w,At w0 H w→(e vs.toArray).run P w= .ok v w):Y P w0 n l H o v:=by
 intro a w hfr ha;have h1:a.eval (.func f)= .func (.func f) #[] #[]:=rfl;have h2:=hfr.evals hv;have h3:=run_callFunc_extern (P:=P) hf hname hb hn he vs.toArray w;rw[hr w ha]at h3;simp only[Result.andThen]at h3;simp[execOp,ho,resolve,Deferred.ofValue,h1,invoke,h2,h3]
end
end E

namespace E
section
variable {P : Program} {w0 : World} {n : Nat} {l : FL} {H : Heap} {o : Oper}
theorem wrap_u8(n:Int):IntKind.u8.wrap n=n%256:=by
 have h1:IntKind.u8.signed=false:=rfl;have h2:(2^IntKind.u8.bits:Int)=256:=by decide
 simp only[IntKind.wrap,h1,h2,Bool.false_and,Bool.false_eq_true,if_false]
theorem wnat_u8(a:Nat):IntKind.u8.wrap (a:Int)=((UInt8.ofNat a).toNat:Int):=by
 rw[wrap_u8,UInt8.toNat_ofNat'];omega
theorem Y.conv_u8{x:Operand}{s d:TypeId}{k:IntKind}{a:Nat}{ds:TypeDesc}(ho:o.op= .convert s d x)(hs:∀w,(underlying s).run P w= .ok ds w)(hd:∀w,(underlying d).run P w= .ok (.int .u8) w)(hx:opv l x=some (.int k a)):Y P w0 n l H o (.int .u8 (UInt8.ofNat a).toNat):=by
 have h:=Y.conv (P:=P) (w0:=w0) (n:=n) (H:=H) ho hs hd hx
 rwa[wnat_u8]at h
theorem wrap_u32(n:Int):IntKind.u32.wrap n=n%4294967296:=by
 have h1:IntKind.u32.signed=false:=rfl;have h2:(2^IntKind.u32.bits:Int)=4294967296:=by decide
 simp only[IntKind.wrap,h1,h2,Bool.false_and,Bool.false_eq_true,if_false]
theorem wadd_u32(x y:UInt32):IntKind.u32.wrap ((x.toNat:Int)+y.toNat)=((x+y).toNat:Int):=by
 rw[wrap_u32,UInt32.toNat_add];omega
theorem wnat_u32(a:Nat):IntKind.u32.wrap (a:Int)=((UInt32.ofNat a).toNat:Int):=by
 rw[wrap_u32,UInt32.toNat_ofNat'];omega
theorem wbv_u32(x:UInt32):BitVec.ofInt IntKind.u32.bits (x.toNat:Int)=x.toBitVec:=by
 apply BitVec.eq_of_toNat_eq;have:=x.toNat_lt;show(BitVec.ofInt 32 (x.toNat:Int)).toNat=x.toNat;rw[BitVec.toNat_ofInt];omega
theorem wback_u32(x:UInt32):IntKind.u32.wrap (x.toBitVec.toNat:Int)=(x.toNat:Int):=by
 have:=x.toNat_lt;rw[wrap_u32];show((x.toNat:Nat):Int)%_=_;omega
theorem Y.add_u32{x y:Operand}{t u:TypeId}{a b:UInt32}(ho:o.op= .binOp .add t x y u)(hx:opv l x=some (.int .u32 a.toNat))(hy:opv l y=some (.int .u32 b.toNat)):Y P w0 n l H o (.int .u32 (a+b).toNat):=Y.addk ho hx hy (wadd_u32 a b)
def shlw_u32(x:UInt32)(j:Nat):UInt32:=UInt32.ofNat (x.toNat*2^j)
def shrw_u32(x:UInt32)(j:Nat):UInt32:=UInt32.ofNat (x.toNat/2^j)
theorem shrw_u32_toNat(x:UInt32)(j:Nat):(shrw_u32 x j).toNat=x.toNat/2^j:=by
 have:=x.toNat_lt;rw[shrw_u32,UInt32.toNat_ofNat'];exact Nat.mod_eq_of_lt (Nat.lt_of_le_of_lt (Nat.div_le_self _ _) this)
theorem Y.shl_u32{x y:Operand}{t u:TypeId}{k2:IntKind}{a:UInt32}{iv:Int}(j:Nat)(ho:o.op= .binOp .shl t x y u)(hx:opv l x=some (.int .u32 a.toNat))(hy:opv l y=some (.int k2 iv))(hj:iv=j)(hlt:j≤32):Y P w0 n l H o (.int .u32 (shlw_u32 a j).toNat):=by
 have h:=Y.shl (P:=P) (w0:=w0) (n:=n) (H:=H) ho hx hy (by omega);rw[hj,Int.toNat_natCast,show min j IntKind.u32.bits=j from Nat.min_eq_left hlt]at h;rw[show IntKind.u32.wrap ((a.toNat:Int)*2^j)=((shlw_u32 a j).toNat:Int)by rw[shlw_u32,←wnat_u32];congr 1]at h;exact h
theorem Y.shr_u32{x y:Operand}{t u:TypeId}{k2:IntKind}{a:UInt32}{iv:Int}(j:Nat)(ho:o.op= .binOp .shr t x y u)(hx:opv l x=some (.int .u32 a.toNat))(hy:opv l y=some (.int k2 iv))(hj:iv=j)(hlt:j≤32):Y P w0 n l H o (.int .u32 (shrw_u32 a j).toNat):=by
 have h:=Y.shr (P:=P) (w0:=w0) (n:=n) (H:=H) ho hx hy (by omega);rw[hj,Int.toNat_natCast,show min j IntKind.u32.bits=j from Nat.min_eq_left hlt]at h
 rw[show(a.toNat:Int).fdiv (2^j)=((shrw_u32 a j).toNat:Int)by
  rw[shrw_u32_toNat,Int.fdiv_eq_ediv_of_nonneg _ (by exact Int.le_of_lt (Int.pow_pos (by decide)))];simp]at h
 exact h
theorem Y.not_u32{x:Operand}{t:TypeId}{a:UInt32}(ho:o.op= .unOp .xor t x)(hx:opv l x=some (.int .u32 a.toNat)):Y P w0 n l H o (.int .u32 (~~~a).toNat):=by
 intro ac w hf ha;have h1:(if IntKind.u32.signed then(-1:Int)else IntKind.u32.max)=((UInt32.ofNat 4294967295).toNat:Int):=by decide
 have h2:(BitVec.ofInt IntKind.u32.bits (if IntKind.u32.signed then(-1:Int)else IntKind.u32.max))^^^(BitVec.ofInt IntKind.u32.bits (a.toNat:Int))=(~~~a).toBitVec:=by
  rw[h1,wbv_u32,wbv_u32];show BitVec.ofNat 32 4294967295^^^a.toBitVec= ~~~a.toBitVec;rw[show BitVec.ofNat 32 4294967295=BitVec.allOnes 32 by decide,BitVec.allOnes_xor]
 simp only[execOp,ho,hf.eval hx,Op.unary,Op.intBits,h2,Sem.run_bind,Sem.run_pure,Result.andThen_ok];exact congrArg (fun v=>Result.ok (Next.value (Value.int .u32 v)) w) (wback_u32 (~~~a))
theorem Y.and_u32{x y:Operand}{t u:TypeId}{a b:UInt32}(ho:o.op= .binOp .and t x y u)(hx:opv l x=some (.int .u32 a.toNat))(hy:opv l y=some (.int .u32 b.toNat)):Y P w0 n l H o (.int .u32 (a&&&b).toNat):=
 Y.bits .and _ ho hx hy (by simp) (fun w=>by
  simp only[Op.intBits,wbv_u32];show(pure (Value.int .u32 (IntKind.u32.wrap ((a&&&b).toBitVec.toNat:Int))):Sem Value).run P w=_;rw[wback_u32];rfl)
theorem Y.or_u32{x y:Operand}{t u:TypeId}{a b:UInt32}(ho:o.op= .binOp .or t x y u)(hx:opv l x=some (.int .u32 a.toNat))(hy:opv l y=some (.int .u32 b.toNat)):Y P w0 n l H o (.int .u32 (a|||b).toNat):=
 Y.bits .or _ ho hx hy (by simp) (fun w=>by
  simp only[Op.intBits,wbv_u32];show(pure (Value.int .u32 (IntKind.u32.wrap ((a|||b).toBitVec.toNat:Int))):Sem Value).run P w=_;rw[wback_u32];rfl)
theorem Y.xor_u32{x y:Operand}{t u:TypeId}{a b:UInt32}(ho:o.op= .binOp .xor t x y u)(hx:opv l x=some (.int .u32 a.toNat))(hy:opv l y=some (.int .u32 b.toNat)):Y P w0 n l H o (.int .u32 (a^^^b).toNat):=
 Y.bits .xor _ ho hx hy (by simp) (fun w=>by
  simp only[Op.intBits,wbv_u32];show(pure (Value.int .u32 (IntKind.u32.wrap ((a^^^b).toBitVec.toNat:Int))):Sem Value).run P w=_;rw[wback_u32];rfl)
theorem Y.conv_u32{x:Operand}{s d:TypeId}{k:IntKind}{a:Nat}{ds:TypeDesc}(ho:o.op= .convert s d x)(hs:∀w,(underlying s).run P w= .ok ds w)(hd:∀w,(underlying d).run P w= .ok (.int .u32) w)(hx:opv l x=some (.int k a)):Y P w0 n l H o (.int .u32 (UInt32.ofNat a).toNat):=by
 have h:=Y.conv (P:=P) (w0:=w0) (n:=n) (H:=H) ho hs hd hx
 rwa[wnat_u32]at h
theorem wrap_u64(n:Int):IntKind.u64.wrap n=n%18446744073709551616:=by
 have h1:IntKind.u64.signed=false:=rfl;have h2:(2^IntKind.u64.bits:Int)=18446744073709551616:=by decide
 simp only[IntKind.wrap,h1,h2,Bool.false_and,Bool.false_eq_true,if_false]
theorem wadd_u64(x y:UInt64):IntKind.u64.wrap ((x.toNat:Int)+y.toNat)=((x+y).toNat:Int):=by
 rw[wrap_u64,UInt64.toNat_add];omega
theorem wsub_u64(x y:UInt64):IntKind.u64.wrap ((x.toNat:Int)-y.toNat)=((x-y).toNat:Int):=by
 have:=x.toNat_lt;have:=y.toNat_lt;rw[wrap_u64,UInt64.toNat_sub];omega
theorem wmul_u64(x y:UInt64):IntKind.u64.wrap ((x.toNat:Int)*y.toNat)=((x*y).toNat:Int):=by
 rw[wrap_u64,UInt64.toNat_mul];rfl
theorem wnat_u64(a:Nat):IntKind.u64.wrap (a:Int)=((UInt64.ofNat a).toNat:Int):=by
 rw[wrap_u64,UInt64.toNat_ofNat'];omega
theorem wbv_u64(x:UInt64):BitVec.ofInt IntKind.u64.bits (x.toNat:Int)=x.toBitVec:=by
 apply BitVec.eq_of_toNat_eq;have:=x.toNat_lt;show(BitVec.ofInt 64 (x.toNat:Int)).toNat=x.toNat;rw[BitVec.toNat_ofInt];omega
theorem wback_u64(x:UInt64):IntKind.u64.wrap (x.toBitVec.toNat:Int)=(x.toNat:Int):=by
 have:=x.toNat_lt;rw[wrap_u64];show((x.toNat:Nat):Int)%_=_;omega
theorem Y.add_u64{x y:Operand}{t u:TypeId}{a b:UInt64}(ho:o.op= .binOp .add t x y u)(hx:opv l x=some (.int .u64 a.toNat))(hy:opv l y=some (.int .u64 b.toNat)):Y P w0 n l H o (.int .u64 (a+b).toNat):=Y.addk ho hx hy (wadd_u64 a b)
theorem Y.sub_u64{x y:Operand}{t u:TypeId}{a b:UInt64}(ho:o.op= .binOp .sub t x y u)(hx:opv l x=some (.int .u64 a.toNat))(hy:opv l y=some (.int .u64 b.toNat)):Y P w0 n l H o (.int .u64 (a-b).toNat):=Y.subk ho hx hy (wsub_u64 a b)
theorem Y.mul_u64{x y:Operand}{t u:TypeId}{a b:UInt64}(ho:o.op= .binOp .mul t x y u)(hx:opv l x=some (.int .u64 a.toNat))(hy:opv l y=some (.int .u64 b.toNat)):Y P w0 n l H o (.int .u64 (a*b).toNat):=Y.mulk ho hx hy (wmul_u64 a b)
def shlw_u64(x:UInt64)(j:Nat):UInt64:=UInt64.ofNat (x.toNat*2^j)
def shrw_u64(x:UInt64)(j:Nat):UInt64:=UInt64.ofNat (x.toNat/2^j)
theorem shrw_u64_toNat(x:UInt64)(j:Nat):(shrw_u64 x j).toNat=x.toNat/2^j:=by
 have:=x.toNat_lt;rw[shrw_u64,UInt64.toNat_ofNat'];exact Nat.mod_eq_of_lt (Nat.lt_of_le_of_lt (Nat.div_le_self _ _) this)
theorem Y.shl_u64{x y:Operand}{t u:TypeId}{k2:IntKind}{a:UInt64}{iv:Int}(j:Nat)(ho:o.op= .binOp .shl t x y u)(hx:opv l x=some (.int .u64 a.toNat))(hy:opv l y=some (.int k2 iv))(hj:iv=j)(hlt:j≤64):Y P w0 n l H o (.int .u64 (shlw_u64 a j).toNat):=by
 have h:=Y.shl (P:=P) (w0:=w0) (n:=n) (H:=H) ho hx hy (by omega);rw[hj,Int.toNat_natCast,show min j IntKind.u64.bits=j from Nat.min_eq_left hlt]at h;rw[show IntKind.u64.wrap ((a.toNat:Int)*2^j)=((shlw_u64 a j).toNat:Int)by rw[shlw_u64,←wnat_u64];congr 1]at h;exact h
theorem Y.shr_u64{x y:Operand}{t u:TypeId}{k2:IntKind}{a:UInt64}{iv:Int}(j:Nat)(ho:o.op= .binOp .shr t x y u)(hx:opv l x=some (.int .u64 a.toNat))(hy:opv l y=some (.int k2 iv))(hj:iv=j)(hlt:j≤64):Y P w0 n l H o (.int .u64 (shrw_u64 a j).toNat):=by
 have h:=Y.shr (P:=P) (w0:=w0) (n:=n) (H:=H) ho hx hy (by omega);rw[hj,Int.toNat_natCast,show min j IntKind.u64.bits=j from Nat.min_eq_left hlt]at h
 rw[show(a.toNat:Int).fdiv (2^j)=((shrw_u64 a j).toNat:Int)by
  rw[shrw_u64_toNat,Int.fdiv_eq_ediv_of_nonneg _ (by exact Int.le_of_lt (Int.pow_pos (by decide)))];simp]at h
 exact h
theorem Y.and_u64{x y:Operand}{t u:TypeId}{a b:UInt64}(ho:o.op= .binOp .and t x y u)(hx:opv l x=some (.int .u64 a.toNat))(hy:opv l y=some (.int .u64 b.toNat)):Y P w0 n l H o (.int .u64 (a&&&b).toNat):=
 Y.bits .and _ ho hx hy (by simp) (fun w=>by
  simp only[Op.intBits,wbv_u64];show(pure (Value.int .u64 (IntKind.u64.wrap ((a&&&b).toBitVec.toNat:Int))):Sem Value).run P w=_;rw[wback_u64];rfl)
theorem Y.conv_u64{x:Operand}{s d:TypeId}{k:IntKind}{a:Nat}{ds:TypeDesc}(ho:o.op= .convert s d x)(hs:∀w,(underlying s).run P w= .ok ds w)(hd:∀w,(underlying d).run P w= .ok (.int .u64) w)(hx:opv l x=some (.int k a)):Y P w0 n l H o (.int .u64 (UInt64.ofNat a).toNat):=by
 have h:=Y.conv (P:=P) (w0:=w0) (n:=n) (H:=H) ho hs hd hx
 rwa[wnat_u64]at h
theorem Pt.at{ad:Addr}{cs:List Value}{c:Value}(h:Pt H ad cs)(j:Nat)(hc:cs[j]?=some c):Pt H ⟨ad.block,ad.off+j,none⟩ [c]:=
 ⟨rfl,fun i d hd=>by
  match i,hd with
  |0,hd=>simp only[List.getElem?_cons_zero,Option.some.injEq]at hd;subst hd;exact h.cells j _ hc⟩
theorem Y.arrAddr{x i:Operand}{t e:TypeId}{len:Nat}{k:IntKind}{iv:Int}{ad:Addr}{cs:List Value}(h:Pt H ad cs)(j:Nat)(ho:o.op= .indexAddr t x i)(ht:∀w,(underlying t).run P w= .ok (.array len e) w)(hs:∀w,(sizeOf e).run P w= .ok 1 w)
 (hx:opv l x=some (.pointer (some ad))) (hi:opv l i=some (.int k iv)) (hj:iv=j) (hlt:j<len):Y P w0 n l H o (.pointer (some ⟨ad.block,ad.off+j,none⟩)):=by
 subst hj;intro ac w hf ha;have:=add_eq h.spot j;simp[execOp,ho,hf.eval hx,hf.eval hi,Instr.indexAt,asIntOf,Instr.sureAddr,ht,hs,hlt,this]
theorem Y.arrIndex{x i:Operand}{t e:TypeId}{len:Nat}{k:IntKind}{iv:Int}{cs:Array Value}{c:Value}(j:Nat)(ho:o.op= .index t x i)(ht:∀w,(underlying t).run P w= .ok (.array len e) w)(hs:∀w,(sizeOf e).run P w= .ok 1 w)(hg:∀w,(isAgg e).run P w= .ok false w)
 (hx:opv l x=some (.agg cs)) (hi:opv l i=some (.int k iv)) (hj:iv=j) (hlt:j<len) (hc:cs[j]?=some c):Y P w0 n l H o c:=by
 subst hj;intro ac w hf ha;simp[execOp,ho,hf.eval hx,hf.eval hi,Instr.index,asIntOf,ht,hs,hg,hlt,part,hc]
theorem Y.sliceArr{α:Type}{F:Nat→Prop}{f:α→List Value}{x:Operand}{lo hi:Option Operand}{t e:TypeId}{len:Nat}{ad:Addr}{cs:List Value}{xs:List α}(h:Pt H ad cs)(hF:F ad.block)(hb:ad.block<H.size)(hxs:xs.length=len)(hcs:∀(i:Nat) (x:α),xs[i]?=some x→cs[i]?=(f x)[0]?∧(f x).length=1)(i j:Nat)
 (ho:o.op= .slice t x lo hi none) (ht:∀w,(underlying t).run P w= .ok (.array len e) w∨∃t',(underlying t).run P w= .ok (.pointer t') w∧(underlying t').run P w= .ok (.array len e) w) (hs:∀w,(sizeOf e).run P w= .ok 1 w) (hx:opv l x=some (.pointer (some ad)))
 (hlo:lo=none∧i=0∨∃p k iv,lo=some p∧opv l p=some (.int k iv)∧iv=(i:Int)) (hhi:hi=none∧j=len∨∃p k iv,hi=some p∧opv l p=some (.int k iv)∧iv=(j:Int)) (hij:i≤j) (hj:j≤len) (hm:len≤maxLen):
 (∀H',Y P w0 n l H' o (.slice (some (if len=i then ad else⟨ad.block,ad.off+i,none⟩)) (j-i) (len-i)))∧Rd F H f 1 (.slice (some (if len=i then ad else⟨ad.block,ad.off+i,none⟩)) (j-i) (len-i)) ((xs.take j).drop i):=by
 constructor
 ·intro H' ac w hf ha
  have e1:∀w,(Instr.sliceBounds false len len (lo.map ac.eval) (hi.map ac.eval) none).run P w= .ok (i,j,len) w:=by
   intro w
   rcases hlo with⟨rfl,rfl⟩|⟨p,k,iv,rfl,h1,rfl⟩<;>rcases hhi with⟨rfl,rfl⟩|⟨p2,k2,iv2,rfl,h3,rfl⟩<;>
    simp[Instr.sliceBounds,Instr.sliceBound,asIntOf,hf.eval, *]
  have hadd:=add_eq h.spot i;rcases ht w with ht|⟨t',ht,ht'⟩
  ·simp[execOp,ho,hf.eval hx,Instr.sliceAt,Instr.sureAddr,ht,hs,e1,hadd]
  ·simp[execOp,ho,hf.eval hx,Instr.sliceAt,Instr.slice,asAddr,ht,ht',hs,e1,hadd]
 ·have hlen:((xs.take j).drop i).length=j-i:=by simp;omega
  refine⟨_,_,by rw[hlen],by rw[hlen];omega,by omega,fun hne=>?_⟩
  have hji:i<j:=by
   apply Decidable.byContradiction;intro hc;exact hne (List.eq_nil_of_length_eq_zero (by rw[hlen];omega))
  rw[if_neg (by omega)];refine⟨_,rfl,rfl,hF,hb,fun q y hy=>⟨rfl,fun r c hr=>?_⟩⟩;rw[List.getElem?_drop,List.getElem?_take]at hy;split at hy
  ·obtain⟨h1,h2⟩:=hcs (i+q) y hy
   have hr0:r=0:=by have:=(List.getElem?_eq_some_iff.1 hr).1;omega
   subst hr0;have:=h.cells (i+q) c (by rw[h1];exact hr)
   simpa[Nat.add_assoc]using this
  ·cases hy
theorem Y.sliceArrE{α:Type}{F:Nat→Prop}{f:α→List Value}{x:Operand}{lo hi:Option Operand}{t e:TypeId}{len:Nat}{ad:Addr}{cs:List Value}{xs:List α}(h:Pt H ad cs)(hF:F ad.block)(hb:ad.block<H.size)(hxs:xs.length=len)(hcs:∀(i:Nat) (x:α),xs[i]?=some x→cs[i]?=(f x)[0]?∧(f x).length=1)(i j:Nat)
 (ho:o.op= .slice t x lo hi none) (ht:∀w,(underlying t).run P w= .ok (.array len e) w∨∃t',(underlying t).run P w= .ok (.pointer t') w∧(underlying t').run P w= .ok (.array len e) w) (hs:∀w,(sizeOf e).run P w= .ok 1 w) (hx:opv l x=some (.pointer (some ad)))
 (hlo:lo=none∧i=0∨∃p k iv,lo=some p∧opv l p=some (.int k iv)∧iv=(i:Int)) (hhi:hi=none∧j=len∨∃p k iv,hi=some p∧opv l p=some (.int k iv)∧iv=(j:Int)) (hij:i≤j) (hj:j≤len) (hm:len≤maxLen):
 ∃v',(∀H',Y P w0 n l H' o v')∧Rd F H f 1 v' ((xs.take j).drop i):=
 ⟨_,Y.sliceArr h hF hb hxs hcs i j ho ht hs hx hlo hhi hij hj hm⟩
end
section
variable {P : Program} {w0 : World} {n : Nat} {l : FL} {H : Heap} {o : Oper}
theorem Z.copy{α:Type}{F:Nat→Prop}{f:α→List Value}{d x:Operand}{t t2 e e':TypeId}{b off dlen dcap:Nat}{u:Value}{cs:List Value}{ys:List α}(hv:Var e H b cs)(hr:Rd F H f 1 u ys)(hf1:∀x,(f x).length=1)(ho1:∀x,∀u∈f x,u.oneCell'=true)(ho:o.op= .call {callee:= .builtin .copy,args:= #[d,x],argTypes:= #[t,t2]})
 (ht:P.underlying t=some (.slice e')) (hs:∀w,(sizeOf e').run P w= .ok 1 w) (hd:opv l d=some (.slice (some ⟨b,off,none⟩) dlen dcap)) (hx:opv l x=some u) (hfit:off+dlen≤cs.length) (k:Nat) (hk:k=min ys.length dlen):
 Z P w0 n l H o (fun r H'=>r= .int .i64 k∧Var e H' b (splice cs off ((ys.take k).flatMap f))∧Mo (fun g=>g=b) H H'):=by
 intro a w hf ha;obtain⟨fz,hb1,hb2⟩:=id hv.row;have hlen:((ys.take k).flatMap f).length=k:=by rw[length_flatMap hf1,Nat.mul_one,List.length_take];omega
 have h1:∀c∈(ys.take k).flatMap f,c.oneCell'=true:=by
  intro c hc;obtain⟨y,_,hy⟩:=List.mem_flatMap.1 hc;exact ho1 y c hy
 obtain⟨ad,cap,rfl,_,_,h3⟩:=id hr.ex;have hkk:Nat.min ys.length dlen=k:=hk.symm
 have hfc:(Builtin.firstCells 1 k (.slice ad ys.length cap)).run P w= .ok ((ys.take k).flatMap f).toArray w:=by
  cases ad with
  |none=>
   have hys:ys=[]:=by
    apply Decidable.byContradiction;intro hne;obtain⟨ad,hn,_⟩:=h3 hne;cases hn
   subst hys
   simp[Builtin.firstCells]
  |some ad=>
   have hp:=hr.pts hf1 rfl ha
   exact run_firstCells_some (P:=P) w 1 k ad ys.length cap _ (by rw[hlen,Nat.mul_one]) (fun j v hj=>hp j v (by
    have hys:ys.flatMap f=(ys.take k).flatMap f++(ys.drop k).flatMap f:=by rw[←List.flatMap_append,List.take_append_drop]
    rw[hys,List.getElem?_append_left (List.getElem?_eq_some_iff.1 hj).1];exact hj))
 have hst:=run_storeCells_soft P b off e fz ((ys.take k).flatMap f) 0 cs.toArray w (by rw[ha.heap];exact hb1) hb2 (by rw[hlen];simp;omega) h1;simp only[Nat.add_zero]at hst;refine⟨_,_,w.setRow b (splice cs off ((ys.take k).flatMap f)).toArray,?_,ha.row _ _,rfl,⟨setRow_row ha hv.row (by simp[splice,hlen];omega)⟩,setRow_mo ha _ _⟩;simp[execOp,ho,hf.eval hd,hf.eval hx,resolve,invoke,builtin,Builtin.copy_,run_underlying ht,Builtin.lenOf,hs,hkk,hfc,hst,splice,goInt]
end
section
variable {P : Program} {w0 : World} {H : Heap} {n : Nat} {l : FL}
theorem run_loadPt{ty:TypeId}{ad:Addr}{cs:List Value}{k:Nat}{w:World}(ha:At w0 H w)(h:Pt H ad cs)(ht:∀w,(isAgg ty).run P w= .ok true w)(hs:∀w,(sizeOf ty).run P w= .ok k w)(hk:cs.length=k):(loadVar ty ad).run P w= .ok (.agg cs.toArray) w:=by
 have:=run_loadCellsFrom (P:=P) (w:=w) h.spot k 0 cs #[] hk (fun j c e=>by rw[ha.cell];simpa using h.cells j c e);simp[loadVar,ht,hs,loadCells,this]
theorem resC{fn:Func}{p:Nat}{ty:TypeId}{ad:Addr}{cs:List Value}{k:Nat}(h:fn.results= #[.cell p ty])(e:lk l p=some (.pointer (some ad)))(hp:Pt H ad cs)(ht:∀w,(isAgg ty).run P w= .ok true w)(hs:∀w,(sizeOf ty).run P w= .ok k w)(hk:cs.length=k):
 ∀a w,Fr n l a→At w0 H w→(results fn a.tmps).run P w= .ok (.agg cs.toArray) w:=by
 intro a w hf ha;have h1:=hf.get p _ e;have h2:=run_loadPt (P:=P) ha hp ht hs hk;simp only[results,h];simp[h1,asAddr,h2]
end
end E

namespace E
def Clo(P:Program)(w0:World)(v:Value)(args:List Value)(H:Heap)(R:Value→Heap→Prop):Prop:=
 ∃f caps,v= .func (.func f) #[] caps∧(∀(vs:Array Value) (w:World),(callFunc f vs).run P w= .ok (.enter f vs) w)∧Ct P w0 f (args.toArray++caps) H R
section
variable {P : Program} {w0 : World} {Q : Exit → Act → World → Prop} {n : Nat} {l : FL} {H : Heap} {ops : Array Oper} {rest : List Oper} {o : Oper}
theorem Clo.of{f:FuncId}{caps:List Value}{args:List Value}{R:Value→Heap→Prop}(hcall:∀(vs:Array Value) (w:World),(callFunc f vs).run P w= .ok (.enter f vs) w)(h:Ct P w0 f (args++caps).toArray H R):Clo P w0 (.func (.func f) #[] caps.toArray) args H R:=
 ⟨f,caps.toArray,rfl,hcall,by simpa using h⟩
theorem LR.calld{R:Value→Heap→Prop}{d:Nat}{c:Operand}{cv:Value}{args:List Operand}{ats:Array TypeId}{vs:List Value}(ho:o.op= .call {callee:= .value c,args:=args.toArray,argTypes:=ats})
 (hcv:opv l c=some cv) (hv:opvs l args=some vs) (hw:Wd ops l o) (hd:o.dst=some d) (hn:Nat.blt d n=true) (hc:Clo P w0 cv vs H R)
 (h:∀v H',R v H'→LR false P w0 ops Q n ((d,v)::l) rest H'):LR false P w0 ops Q n l (o::rest) H:=by
 intro a w hf ha;simp only[Md];obtain⟨f,caps,rfl,hcall,hct⟩:=hc
 have hr:(execOp a.eval o).run P w= .ok (.enter f (vs.toArray++caps)) w:=by
  have h2:=hf.evals hv;have h3:(args.toArray.map a.eval)=vs.toArray:=by rw[List.map_toArray,h2]
  simp[execOp,ho,resolve,Deferred.ofValue,hf.eval hcv,invoke,hcall,h2]
 unfold wpList;rw[if_pos (hw n a hf)];refine .inl ?_;unfold Oper.wp;rw[hr];show Calls P f (vs.toArray++caps) w _;refine(hct w ha).mono ?_;rintro e w' ⟨r,H',rfl,ha',hR⟩;have hp:=hf.put hn r;rw[←hd]at hp;exact h r H' hR _ w' hp ha'
theorem Y.makeFunc{f:FuncId}{caps:List Operand}{vs:List Value}(ho:o.op= .makeFunc (.func f) #[] caps.toArray)(hv:opvs l caps=some vs):Y P w0 n l H o (.func (.func f) #[] vs.toArray):=by
 intro a w hf ha;have h2:=hf.evals hv;simp[execOp,ho,Instr.makeFunc,h2]
theorem Y.shln{x y:Operand}{t u:TypeId}{k2:IntKind}{a:Nat}{iv:Int}(j:Nat)(ho:o.op= .binOp .shl t x y u)(hx:opv l x=some (.int .i64 a))(hy:opv l y=some (.int k2 iv))(hj:iv=j)(hlt:j≤64)(hb:a*2^j≤9223372036854775807):Y P w0 n l H o (.int .i64 ((a*2^j:Nat):Int)):=by
 have h:=Y.shl (P:=P) (w0:=w0) (n:=n) (H:=H) ho hx hy (by omega);rw[hj,Int.toNat_natCast,show min j IntKind.i64.bits=j from Nat.min_eq_left hlt]at h;rw[show((a:Int)*2^j)=((a*2^j:Nat):Int)by simp,IntWalk.i64_in _ (by omega)]at h;exact h
theorem Y.conv8i{x:Operand}{s d:TypeId}{b:UInt8}{ds:TypeDesc}(ho:o.op= .convert s d x)(hs:∀w,(underlying s).run P w= .ok ds w)(hd:∀w,(underlying d).run P w= .ok (.int .i64) w)(hx:opv l x=some (.int .u8 b.toNat)):Y P w0 n l H o (.int .i64 (b.toNat:Nat)):=
 Y.convi ho hs hd hx (IntWalk.i64_in _ (by have:=b.toNat_lt;omega))
theorem ofInt_nat{a:Nat}(h:a≤9223372036854775807):(BitVec.ofInt IntKind.i64.bits (a:Int)).toNat=a:=by
 show(BitVec.ofInt 64 (a:Int)).toNat=a;rw[BitVec.toNat_ofInt];omega
theorem Y.orn{x y:Operand}{t u:TypeId}{a b:Nat}(ho:o.op= .binOp .or t x y u)(hx:opv l x=some (.int .i64 a))(hy:opv l y=some (.int .i64 b))(h1:a≤9223372036854775807)(h2:b≤9223372036854775807):Y P w0 n l H o (.int .i64 ((a|||b:Nat):Int)):=by
 refine Y.bits .or _ ho hx hy (by simp) (fun w=>?_);have h3:a|||b<2^63:=Nat.or_lt_two_pow (by omega) (by omega)
 have e:(BitVec.ofInt IntKind.i64.bits (a:Int)|||BitVec.ofInt IntKind.i64.bits (b:Int)).toNat=a|||b:=by
  rw[BitVec.toNat_or,ofInt_nat h1,ofInt_nat h2]
 show(pure (Value.int .i64 (IntKind.i64.wrap ((BitVec.ofInt IntKind.i64.bits (a:Int)|||BitVec.ofInt IntKind.i64.bits (b:Int)).toNat:Int))):Sem Value).run P w=_;rw[e,IntWalk.i64_in _ (by omega)];rfl
end
end E

namespace Num
open E Go.RowKit
set_option maxRecDepth 100000 in
theorem inf34:Inf Tryz.prog 34 5 1 1:=⟨Tryz.underlying34,_,_,rfl,rfl,rfl,rfl,rfl⟩
def numL:Nat→UInt64→List UInt8
 |0,_=>[]
 |j+1,x=>UInt8.ofNat (shrw_u64 x (8*j)).toNat::numL j x
theorem numL_len:∀(n:Nat) (x:UInt64),(numL n x).length=n
 |0,_=>rfl
 |n+1,x=>by rw[numL,List.length_cons,numL_len]
theorem num_ct(k:Nat)(v:Value)(xs:List UInt8)(n:Nat)(x:UInt64)(w0:World)(H0:Heap)
 (how:Ow k 5 H0 fB 1 v xs) (hn:n≤8) (hx:xs.length≤1099511627776):
 Ct Tryz.prog w0 97 #[v,.int .i64 n,.int .u64 x.toNat] H0 (fun r H2=>∃v2:Value,∃k2:Nat,r=v2∧(Ow k2 5 H2 fB 1 v2 (xs++numL n x))∧(Nx k H0.size k2)∧Mo (Ms [k]) H0 H2):=by
 refine Ct.enter (args:=[v,.int .i64 n,.int .u64 x.toNat]) Tryz.func97 rfl rfl rfl ?_;intro Q0 hret;have hm0:Mo (Ms [k]) H0 H0:=Mo.refl _ _;have aa:=Nx.refl k H0.size;have ad:=how.le;refine CW.sr (fun ar=>?_);refine LR.an ?_;refine ar _ _ (CW.s1 (fun au=>CW.sr (fun av=>?_)));refine LR.m1 ?_;refine LR.v1 (Y.subi rfl rfl rfl (by omega)) ?_;refine LR.an ?_;refine av _ _ (CW.block (fun _ _ aw _=>?_))
 refine CW.loop (fun(s_:(Nat)×(Value)×(Nat)×(List UInt8))=>match s_ with|(j,v',k',ys)=>[(0,v'),(2,.int .u64 x.toNat),(7,.int .i64 ((j:Int)-1))])
  (fun(j,v',k',ys) (H:Heap)=>(j≤n)∧(Ow k' 5 H fB 1 v' ys)∧(ys++numL j x=xs++numL n x)∧(Nx k H0.size (k'))∧Mo (Ms [k]) H0 H)
  (fun(j,v',k',ys)=>j) (n,v,k,xs) ⟨rfl,rfl,rfl,trivial⟩ ?_ ?_
 ·
  exact⟨(by omega),how,rfl,Nx.refl _ _,Mo.refl _ _⟩
 rintro⟨j,v',k',ys⟩ ax ay K5 az aA;obtain⟨hj,how,hys,ac,ab⟩:=ay;have aB:Nx k H0.size (k'):=Nx.tr (aa) ac hm0.size;replace hm0:=hm0.trL ab (MIL.o (MI.r aa));have aN:=ab.size;have ad:=how.le;have ao:=ac;have hyl:ys.length+j=xs.length+n:=by have:=congrArg List.length hys;simpa[numL_len]using this
 refine CW.s2 (fun aC aD=>CW.sr (fun aE=>?_));refine LR.m1 ?_;refine LR.v1 (Y.geq rfl rfl rfl) (LR.nil (aE _ _ ?_));refine CW.condp rfl (fun aF=>?_) (fun aF=>?_)
 ·
  obtain⟨j,rfl⟩:∃q,j=q+1:=⟨j-1,by omega⟩;refine CW.skip (aC _ _ (CW.s1 (fun aG=>CW.block (fun _ aH _ _=>CW.region ?_))));refine LR.m1 ?_;refine LR.m1 ?_;refine LR.m1 ?_;refine LR.v1 (Y.muli rfl rfl rfl (by omega)) ?_;refine LR.v1 (Y.shr_u64 (8*j) rfl rfl rfl (by first|rfl|omega) (by omega)) ?_;refine LR.v1 (Y.conv_u8 rfl u'151 u'5 rfl) ?_;refine LR.z1 (Z.litw _ ([UInt8.ofNat (shrw_u64 x (8*j)).toNat]) rfl inf34 rfl rfl rfl (by decide) (by decide) fB_len fB_one (rfl)) fun aO ap aI=>?_;obtain⟨aj,af,aJ,ak⟩:=aI;have aq:ap.size=ax.size+1:=by rw[ak];simp
  replace how:=how.nw af;replace ab:=ab.trN af;have aP:=af.size;refine LR.z1 (Z.apnd how aj.rd rfl inf34 rfl rfl (by first|omega|(simp;omega)) (by first|omega|(simp;omega))) fun aK aQ aL=>?_;obtain⟨al,ah,ag,ae⟩:=aL;replace ag:Nx (k') ap.size al:=ag;replace ae:=ae.md;have aM:Nx k H0.size al:=Nx.tr (ao) ag ab.size;replace ab:=ab.trL ae (MIL.o (MI.r ao));have aR:=ae.size;have ai:=ah.le;refine LR.an ?_;refine aH _ _ (aG _ _ (CW.region ?_));refine LR.m1 ?_;refine LR.v1 (Y.subi rfl rfl rfl (by omega)) ?_;refine LR.an ?_;refine QN.sub (az (j,aK,al,ys++[UInt8.ofNat (shrw_u64 x (8*j)).toNat]) _ ?_ ?_) ⟨rfl,(iv (by omega)),(iv (by omega)),trivial⟩
  ·exact⟨(by omega),ah,by rw[←hys,List.append_assoc];rfl,aM,ab⟩
  ·first|omega|(simp only;omega)|(simp;omega)
 ·
  obtain rfl:j=0:=by omega
  rw[numL,List.append_nil]at hys;subst hys;refine CW.exit (aD (.exit 0) nofun _ _ (aA (.exit 0) nofun _ _ (aw _ _ ?_)));refine au _ _ (CW.sr (fun am=>?_));refine LR.m1 ?_;refine LR.an ?_;refine am _ _ ?_;refine CW.ret (hret .ret (.inr rfl) _ _ _ (res1 rfl rfl) ?_);exact⟨v',k',rfl,how,aB,hm0⟩
end Num

namespace DelA
open E Go.RowKit Num
def be32(n:Nat):List UInt8:=[UInt8.ofNat (n/2^24),UInt8.ofNat (n/2^16),UInt8.ofNat (n/2^8),UInt8.ofNat n]
def bev(v:Nat)(l:List UInt8):Nat:=l.foldl (fun v x=>v*256+x.toNat) v
theorem be32_len(n:Nat):(be32 n).length=4:=rfl
theorem num_be32(n:Nat)(h:n<18446744073709551616):numL 4 (UInt64.ofNat n)=be32 n:=by
 have e:∀j,(shrw_u64 (UInt64.ofNat n) j).toNat=n/2^j:=fun j=>by rw[shrw_u64_toNat,UInt64.toNat_ofNat',Nat.mod_eq_of_lt h]
 simp only[numL,e,be32];simp
theorem bev_snoc(v:Nat)(l:List UInt8)(x:UInt8):bev v (l++[x])=bev v l*256+x.toNat:=by simp[bev]
theorem bev_lt:∀(l:List UInt8) (v:Nat),bev v l<(v+1)*256^l.length
 |[],v=>by simp[bev]
 |x::l,v=>by
  have hx:=x.toNat_lt;have:=bev_lt l (v*256+x.toNat);have e:bev v (x::l)=bev (v*256+x.toNat) l:=rfl;rw[e,List.length_cons,Nat.pow_succ];refine Nat.lt_of_lt_of_le this ?_;have:v*256+x.toNat+1≤(v+1)*256:=by omega
  calc (v*256+x.toNat+1)*256^l.length≤((v+1)*256)*256^l.length:=Nat.mul_le_mul_right _ this
   _=(v+1)*(256^l.length*256):=by rw[Nat.mul_assoc,Nat.mul_comm 256]
theorem bev4(l:List UInt8)(h:l.length≤4):bev 0 l<4294967296:=by
 have:=bev_lt l 0;have h2:256^l.length≤256^4:=Nat.pow_le_pow_right (by decide) h;omega
theorem or256(a:Nat)(x:UInt8):a*2^8|||x.toNat=a*256+x.toNat:=by
 rw[Nat.mul_comm,←Nat.two_pow_add_eq_or_of_lt x.toNat_lt]
theorem td_succ(b:List UInt8)(a i:Nat)(h:a+i<b.length):(b.drop a).take (i+1)=(b.drop a).take i++[b[a+i]]:=by
 rw[List.take_succ_eq_append_getElem (by simp;omega),List.getElem_drop]
theorem bev_be32(n:Nat)(h:n<4294967296):bev 0 (be32 n)=n:=by
 simp only[bev,be32,List.foldl_cons,List.foldl_nil,UInt8.toNat_ofNat'];omega
theorem get_ct(v:Value)(b:List UInt8)(a n:Nat)(w0:World)(H0:Heap)
 (hr:RdT H0 fB 1 v b) (hn:n≤4) (ha:a+n≤b.length):
 Ct Tryz.prog w0 93 #[v,.int .i64 a,.int .i64 n] H0 (fun r H2=>r= .int .i64 (bev 0 ((b.drop a).take n):Nat)∧Nw H0 H2):=by
 refine Ct.enter (args:=[v,.int .i64 a,.int .i64 n]) Tryz.func93 rfl rfl rfl ?_;intro Q0 hret;have hm0:Nw H0 H0:=Mo.refl _ _;replace hr:=hr.bnd;have hbl:=hr.len;refine CW.sr (fun af=>?_);refine LR.an ?_;refine af _ _ (CW.sr (fun ag=>?_));refine LR.an ?_;refine ag _ _ (CW.s1 (fun ah=>CW.sr (fun ai=>?_)));refine LR.an ?_;refine ai _ _ (CW.block (fun _ _ aj _=>?_))
 refine CW.loop (fun(i:(Nat))=>[(0,v),(1,.int .i64 a),(2,.int .i64 n),(7,.int .i64 (bev 0 ((b.drop a).take i):Nat)),(8,.int .i64 i)])
  (fun(i:(Nat)) (H:Heap)=>(i≤n)∧Nw H0 H)
  (fun(i:(Nat))=>n-i) 0 ⟨rfl,rfl,rfl,rfl,rfl,trivial⟩ ?_ ?_
 ·
  exact⟨(by omega),Mo.refl _ _⟩
 intro i aw ak K6 al am;obtain⟨hi,aa⟩:=ak;replace hr:=hr.nw aa;replace hm0:=hm0.tr aa;have ax:=aa.size;have hb4:=bev4 ((b.drop a).take i) (by simp;omega);refine CW.s2 (fun ao ap=>CW.sr (fun aq=>?_));refine LR.m1 ?_;refine LR.m1 ?_;refine LR.v1 (Y.lss rfl rfl rfl) (LR.nil (aq _ _ ?_));refine CW.condp rfl (fun ar=>?_) (fun ar=>?_)
 ·
  refine CW.skip (ao _ _ (CW.s1 (fun au=>CW.block (fun _ ab _ _=>CW.region ?_))));refine LR.m1 ?_;refine LR.v1 (Y.shln (8) rfl rfl rfl (by first|rfl|omega) (by omega) (by have:=bev_lt ((b.drop a).take i) 0;have h2:256^((b.drop a).take i).length≤256^4:=Nat.pow_le_pow_right (by decide) (by simp;omega);omega)) ?_;refine LR.m1 ?_;refine LR.m1 ?_;refine LR.m1 ?_;refine LR.v1 (Y.addi rfl rfl rfl (by omega)) ?_;refine LR.e1 (g:=fun ad=> .pointer (some ad)) (Y.iF hr (a+i) rfl u'34 s'5 rfl rfl) fun av ac=>?_;refine LR.v1 (Y.load1 ac.pt rfl a'5 rfl) ?_;refine LR.v1 (Y.conv8i rfl u'5 u'3 rfl) ?_;refine LR.v1 (Y.orn rfl rfl rfl (by omega) (by have:=(b[a+i]).toNat_lt;omega)) ?_;refine LR.an ?_;refine ab _ _ (au _ _ (CW.region ?_));refine LR.m1 ?_;refine LR.v1 (Y.addi rfl rfl rfl (by omega)) ?_;refine LR.an ?_;refine QN.sub (al (i+1) _ ?_ ?_) ⟨rfl,(iv (by omega)),(iv (by omega)),(by rw[td_succ b a i (by omega),bev_snoc,←or256];rfl),(iv (by omega)),trivial⟩
  ·exact⟨(by omega),aa⟩
  ·first|omega|(simp only;omega)|(simp;omega)
 ·
  obtain rfl:i=n:=by omega
  refine CW.exit (ap (.exit 0) nofun _ _ (am (.exit 0) nofun _ _ (aj _ _ ?_)));refine ah _ _ (CW.sr (fun ae=>?_));refine LR.m1 ?_;refine LR.an ?_;refine ae _ _ ?_;refine CW.ret (hret .ret (.inr rfl) _ _ _ (res1 rfl rfl) ?_);exact⟨rfl,hm0⟩
end DelA

namespace SumA
open E Go.RowKit
def rotr(x:UInt32)(j:Nat):UInt32:=shrw_u32 x j|||shlw_u32 x (32-j)
theorem and31:∀j:Nat,j<32→0<j→(UInt64.ofNat (18446744073709551616-j)&&&UInt64.ofNat 31)=UInt64.ofNat (32-j):=by decide+kernel
theorem rotl_ct(x:UInt32)(j:Nat)(w0:World)(H0:Heap)
 (h0:0<j) (h1:j<32):
 Ct Tryz.prog w0 162 #[.int .u32 x.toNat,.int .i64 (-(j:Int))] H0 (fun r H2=>r= .int .u32 (rotr x j).toNat∧H2=H0):=by
 refine Ct.enter (args:=[.int .u32 x.toNat,.int .i64 (-(j:Int))]) Tryz.func162 rfl rfl rfl ?_;intro Q0 hret;refine CW.sr (fun aa=>?_);refine LR.an ?_;refine aa _ _ (CW.sr (fun ab=>?_));refine LR.m1 ?_;refine LR.v1 (Y.conv rfl u'3 u'145 rfl) ?_;rw[show IntKind.u64.wrap (-(j:Int))=((UInt64.ofNat (18446744073709551616-j)).toNat:Int)by rw[wrap_u64,UInt64.toNat_ofNat'];omega];refine LR.v1 (Y.and_u64 (b:=(UInt64.ofNat 31)) rfl rfl rfl) ?_;rw[and31 j h1 h0];refine LR.an ?_;refine ab _ _ (CW.sr (fun ac=>?_));refine LR.m1 ?_;refine LR.m1 ?_;refine LR.v1 (Y.shl_u32 (32-j) rfl rfl rfl (by rw[UInt64.toNat_ofNat'];omega) (by omega)) ?_;refine LR.m1 ?_;refine LR.m1 ?_;refine LR.v1 (Y.sub_u64 (a:=(UInt64.ofNat 32)) rfl rfl rfl) ?_;rw[show UInt64.ofNat 32-UInt64.ofNat (32-j)=UInt64.ofNat j from UInt64.toNat_inj.1 (by rw[UInt64.toNat_sub,UInt64.toNat_ofNat',UInt64.toNat_ofNat',UInt64.toNat_ofNat'];omega)];refine LR.v1 (Y.shr_u32 (j) rfl rfl rfl (by rw[UInt64.toNat_ofNat'];omega) (by omega)) ?_;refine LR.v1 (Y.or_u32 rfl rfl rfl) ?_;refine LR.an ?_;refine ac _ _ ?_;refine CW.ret (hret .ret (.inr rfl) _ _ _ (res1 rfl rfl) ?_);exact⟨by rw[rotr,UInt32.or_comm],rfl⟩
theorem turn_ct(x:UInt32)(j:Nat)(w0:World)(H0:Heap)
 (h0:0<j) (h1:j<32):
 Ct Tryz.prog w0 159 #[.int .u32 x.toNat,.int .i64 j] H0 (fun r H2=>r= .int .u32 (rotr x j).toNat∧H2=H0):=by
 refine Ct.enter (args:=[.int .u32 x.toNat,.int .i64 j]) Tryz.func159 rfl rfl rfl ?_;intro Q0 hret;refine CW.sr (fun aa=>?_);refine LR.an ?_;refine aa _ _ (CW.sr (fun ab=>?_));refine LR.m1 ?_;refine LR.m1 ?_;refine LR.v1 (Y.neg rfl rfl) ?_;rw[IntWalk.i64_in _ (by omega),Int.zero_sub];refine LR.call rfl c'162 rfl (Wd.u rfl) rfl rfl (rotl_ct x j w0 H0 h0 h1) ?_;rintro v8 H8 ⟨rfl,rfl⟩;refine LR.an ?_;refine ab _ _ ?_;refine CW.ret (hret .ret (.inr rfl) _ _ _ (res1 rfl rfl) ?_);exact⟨rfl,rfl⟩
theorem rturn_ct(x:UInt32)(j:Nat)(w0:World)(H0:Heap)
 (h0:0<j) (h1:j<32):
 Ct Tryz.prog w0 121 #[.int .u32 x.toNat,.int .i64 j] H0 (fun r H2=>r= .int .u32 (rotr x j).toNat∧H2=H0):=by
 refine Ct.enter (args:=[.int .u32 x.toNat,.int .i64 j]) Tryz.func121 rfl rfl rfl ?_;intro Q0 hret;refine CW.sr (fun aa=>?_);refine LR.an ?_;refine aa _ _ (CW.s1 (fun ab=>?_));refine CW.region_draw rfl (by kernel_rfl) ?_;refine LR.m1 ?_;refine LR.m1 ?_;refine LR.v1 (Y.shr_u32 (j) rfl rfl rfl (by first|rfl|omega) (by omega)) ?_;refine LR.m1 ?_;refine LR.m1 ?_;refine LR.v1 (Y.subi rfl rfl rfl (by omega)) ?_;refine LR.v1 (Y.shl_u32 (32-j) rfl rfl rfl (by first|rfl|omega) (by omega)) ?_;refine LR.v1 (Y.or_u32 rfl rfl rfl) ?_;refine LR.an ?_;refine ab _ _ ?_;refine CW.ret (hret .ret (.inr rfl) _ _ _ (res1 rfl rfl) ?_);exact⟨rfl,rfl⟩
def word4(a b c d:UInt8):UInt32:=shlw_u32 (UInt32.ofNat a.toNat) 24|||shlw_u32 (UInt32.ofNat b.toNat) 16|||shlw_u32 (UInt32.ofNat c.toNat) 8|||UInt32.ofNat d.toNat
theorem word_ct(v:Value)(l:List UInt8)(w0:World)(H0:Heap)
 (hv:RdT H0 fB 1 v l) (hl:4≤l.length):
 Ct Tryz.prog w0 158 #[v] H0 (fun r H2=>r= .int .u32 (word4 l[0] l[1] l[2] l[3]).toNat∧H2=H0):=by
 refine Ct.enter (args:=[v]) Tryz.func158 rfl rfl rfl ?_;intro Q0 hret;refine CW.sr (fun ac=>?_);refine LR.an ?_;refine ac _ _ (CW.s1 (fun ae=>?_));refine CW.region_draw rfl (by kernel_rfl) ?_;refine LR.m1 ?_;refine LR.e1 (g:=fun ad=> .pointer (some ad)) (Y.indexAddr hv (0) rfl u'34 s'5 rfl rfl (by first|rfl|omega) (by first|omega|(simp;omega)|(simp;done))) fun aj af=>?_;refine LR.v1 (Y.load1 af rfl a'5 rfl) ?_;refine LR.v1 (Y.conv_u32 rfl u'5 u'185 rfl) ?_;refine LR.v1 (Y.shl_u32 (24) rfl rfl rfl (by first|rfl|omega) (by omega)) ?_;refine LR.m1 ?_;refine LR.e1 (g:=fun ad=> .pointer (some ad)) (Y.indexAddr hv (1) rfl u'34 s'5 rfl rfl (by first|rfl|omega) (by first|omega|(simp;omega)|(simp;done))) fun ak ag=>?_;refine LR.v1 (Y.load1 ag rfl a'5 rfl) ?_;refine LR.v1 (Y.conv_u32 rfl u'5 u'185 rfl) ?_;refine LR.v1 (Y.shl_u32 (16) rfl rfl rfl (by first|rfl|omega) (by omega)) ?_;refine LR.v1 (Y.or_u32 rfl rfl rfl) ?_;refine LR.m1 ?_;refine LR.e1 (g:=fun ad=> .pointer (some ad)) (Y.indexAddr hv (2) rfl u'34 s'5 rfl rfl (by first|rfl|omega) (by first|omega|(simp;omega)|(simp;done))) fun ah aa=>?_;refine LR.v1 (Y.load1 aa rfl a'5 rfl) ?_;refine LR.v1 (Y.conv_u32 rfl u'5 u'185 rfl) ?_;refine LR.v1 (Y.shl_u32 (8) rfl rfl rfl (by first|rfl|omega) (by omega)) ?_;refine LR.v1 (Y.or_u32 rfl rfl rfl) ?_;refine LR.m1 ?_;refine LR.e1 (g:=fun ad=> .pointer (some ad)) (Y.indexAddr hv (3) rfl u'34 s'5 rfl rfl (by first|rfl|omega) (by first|omega|(simp;omega)|(simp;done))) fun ai ab=>?_;refine LR.v1 (Y.load1 ab rfl a'5 rfl) ?_;refine LR.v1 (Y.conv_u32 rfl u'5 u'185 rfl) ?_;refine LR.v1 (Y.or_u32 rfl rfl rfl) ?_;refine LR.an ?_;refine ae _ _ ?_;refine CW.ret (hret .ret (.inr rfl) _ _ _ (res1 rfl rfl) ?_);exact⟨rfl,rfl⟩
end SumA

namespace SumB
open E Go.RowKit SumA
abbrev V32(x:UInt32):Value:= .int .u32 x.toNat
abbrev V8(x:UInt8):Value:= .int .u8 x.toNat
structure S8 where
 a:UInt32
 b:UInt32
 c:UInt32
 d:UInt32
 e:UInt32
 f:UInt32
 g:UInt32
 h:UInt32
abbrev S8.list(s:S8):List UInt32:=[s.a,s.b,s.c,s.d,s.e,s.f,s.g,s.h]
abbrev S8.cells(s:S8):List Value:=[V32 s.a,V32 s.b,V32 s.c,V32 s.d,V32 s.e,V32 s.f,V32 s.g,V32 s.h]
def oneS(s:S8)(k w:UInt32):UInt32:=s.h+(rotr s.e 6^^^rotr s.e 11^^^rotr s.e 25)+(s.e&&&s.f^^^ ~~~s.e&&&s.g)+k+w
def two(s:S8):UInt32:=(rotr s.a 2^^^rotr s.a 13^^^rotr s.a 22)+(s.a&&&s.b^^^s.a&&&s.c^^^s.b&&&s.c)
def rnd(s:S8)(k w:UInt32):S8:=⟨oneS s k w+two s,s.a,s.b,s.c,s.d+oneS s k w,s.e,s.f,s.g⟩
def grow(w:List UInt32):List UInt32:=w++[w.getD (w.length-16) 0+(rotr (w.getD (w.length-15) 0) 7^^^rotr (w.getD (w.length-15) 0) 18^^^shrw_u32 (w.getD (w.length-15) 0) 3)+w.getD (w.length-7) 0+(rotr (w.getD (w.length-2) 0) 17^^^rotr (w.getD (w.length-2) 0) 19^^^shrw_u32 (w.getD (w.length-2) 0) 10)]
def schedL(w0:List UInt32):Nat→List UInt32
 |0=>w0
 |n+1=>grow (schedL w0 n)
def first16(b:List UInt8)(n:Nat):List UInt32:=(List.range n).map (fun i=>word4 (b.getD (4*i) 0) (b.getD (4*i+1) 0) (b.getD (4*i+2) 0) (b.getD (4*i+3) 0))
def KS:List UInt32:=[0x428a2f98,0x71374491,0xb5c0fbcf,0xe9b5dba5,0x3956c25b,0x59f111f1,0x923f82a4,0xab1c5ed5,0xd807aa98,0x12835b01,0x243185be,0x550c7dc3,0x72be5d74,0x80deb1fe,0x9bdc06a7,0xc19bf174,0xe49b69c1,0xefbe4786,0xfc19dc6,0x240ca1cc,0x2de92c6f,0x4a7484aa,0x5cb0a9dc,0x76f988da,0x983e5152,0xa831c66d,0xb00327c8,0xbf597fc7,0xc6e00bf3,0xd5a79147,0x6ca6351,0x14292967,0x27b70a85,0x2e1b2138,0x4d2c6dfc,0x53380d13,0x650a7354,0x766a0abb,0x81c2c92e,0x92722c85,0xa2bfe8a1,0xa81a664b,0xc24b8b70,0xc76c51a3,0xd192e819,0xd6990624,0xf40e3585,0x106aa070,0x19a4c116,0x1e376c08,0x2748774c,0x34b0bcb5,0x391c0cb3,0x4ed8aa4a,0x5b9cca4f,0x682e6ff3,0x748f82ee,0x78a5636f,0x84c87814,0x8cc70208,0x90befffa,0xa4506ceb,0xbef9a3f7,0xc67178f2]
def rndN(s:S8)(w:List UInt32):Nat→S8
 |0=>s
 |n+1=>rnd (rndN s w n) (KS.getD n 0) (w.getD n 0)
def add8(s t:S8):S8:=⟨s.a+t.a,s.b+t.b,s.c+t.c,s.d+t.d,s.e+t.e,s.f+t.f,s.g+t.g,s.h+t.h⟩
def compress(s:S8)(b:List UInt8):S8:=add8 s (rndN s (schedL (first16 b 16) 48) 64)
theorem rounds_ct (w0:World)(H0:Heap)
 :
 Ct Tryz.prog w0 160 #[] H0 (fun r H2=>r= .agg (KS.map V32).toArray∧Nw H0 H2):=by
 refine Ct.enter (args:=[]) Tryz.func160 rfl rfl rfl ?_;intro Q0 hret;refine CW.sr (fun ab=>?_);refine LR.z1 (Z.allocv rfl z'186) ?_;rintro vz0 Hz0 ⟨rfl,vaz0,hsz0,obz0,hHz0⟩;replace vaz0:Var 186 Hz0 H0.size (List.replicate 64 (V32 0)):=vaz0;refine LR.nil (ab _ _ (CW.sr (fun ac=>?_)));refine LR.v1 (Y.build (v:= .agg (KS.map V32).toArray) rfl rfl (by intro w;kernel_rfl)) ?_;refine LR.s1 (S.var vaz0 (KS.map V32) (KS.map V32) rfl rfl rfl rfl (by intro u hu;obtain⟨x,_,rfl⟩:=List.mem_map.1 hu;rfl) s'186 (rfl) (Nat.le_of_ble_eq_true rfl) (by kernel_rfl)) fun ad aa=>?_;obtain⟨vaz0,hst⟩:=aa;refine LR.nil (ac _ _ ?_);refine CW.ret (hret .ret (.inr rfl) _ _ _ (resC rfl rfl vaz0.pt a'186 s'186 (by first|rfl|simp)) ?_);exact⟨rfl,hsz0.trans hst (fun _ _ e=>e) (fun b hb e=>by omega)⟩
end SumB

namespace SumC
open E Go.RowKit SumA SumB
theorem map_get(w:List UInt32)(j:Nat)(h:j<w.length):(w.map V32)[j]?=some (V32 (w.getD j 0)):=by simp[h]
theorem map_set(w:List UInt32)(j:Nat)(x:UInt32):(w.map V32).set (0+j) (V32 x)=(w.set j x).map V32:=by rw[Nat.zero_add,List.map_set]
theorem take_set_succ{α:Type}(w:List α)(j:Nat)(x:α)(h:j<w.length):(w.set j x).take (j+1)=w.take j++[x]:=by
 rw[List.take_succ_eq_append_getElem (by simpa using h),List.take_set];rw[List.set_eq_of_length_le (by simp;omega)];simp
theorem getD_take(w:List UInt32)(j k:Nat)(h:j<k):(w.take k).getD j 0=w.getD j 0:=by
 simp[List.getD,List.getElem?_take,h]
theorem first16_succ(b:List UInt8)(n:Nat):first16 b (n+1)=first16 b n++[word4 (b.getD (4*n) 0) (b.getD (4*n+1) 0) (b.getD (4*n+2) 0) (b.getD (4*n+3) 0)]:=by
 unfold first16;rw[List.range_succ,List.map_append];rfl
def nxt(w:List UInt32)(i:Nat):UInt32:=w.getD (i-16) 0+(rotr (w.getD (i-15) 0) 7^^^rotr (w.getD (i-15) 0) 18^^^shrw_u32 (w.getD (i-15) 0) 3)+w.getD (i-7) 0+(rotr (w.getD (i-2) 0) 17^^^rotr (w.getD (i-2) 0) 19^^^shrw_u32 (w.getD (i-2) 0) 10)
theorem grow_take(w:List UInt32)(i:Nat)(h0:16≤i)(h:i≤w.length):grow (w.take i)=w.take i++[nxt w i]:=by
 unfold grow nxt;have hl:(w.take i).length=i:=by simp;omega
 rw[hl,getD_take w (i-16) i (by omega),getD_take w (i-15) i (by omega),getD_take w (i-7) i (by omega),getD_take w (i-2) i (by omega)]
abbrev hc(s:List UInt32)(wt:List UInt8)(n:Nat)(al:UInt64):List Value:=s.map V32++wt.map V8++[.int .i64 n,.int .u64 al.toNat]
theorem hc_len{s:List UInt32}{wt:List UInt8}{n:Nat}{al:UInt64}(hs:s.length=8)(hw:wt.length=64):(hc s wt n al).length=74:=by simp[hs,hw]
theorem hc_wait{s:List UInt32}{wt:List UInt8}{n:Nat}{al:UInt64}(hs:s.length=8)(i:Nat)(x:UInt8)(h:wt[i]?=some x):((hc s wt n al).drop 8)[i]?=(fB x)[0]?∧(fB x).length=1:=by
 refine⟨?_,rfl⟩;have hi:=(List.getElem?_eq_some_iff.1 h).1;have:(s.map V32).length=8:=by simpa using hs
 rw[hc,List.append_assoc,List.drop_left' this,List.getElem?_append_left (by simpa using hi)];simp[h]
theorem hc_n{s:List UInt32}{wt:List UInt8}{n:Nat}{al:UInt64}(hs:s.length=8)(hw:wt.length=64):(hc s wt n al)[72]?=some (.int .i64 n):=by
 rw[hc,List.getElem?_append_right (by simp[hs,hw])];simp[hs,hw]
theorem hc_all{s:List UInt32}{wt:List UInt8}{n:Nat}{al:UInt64}(hs:s.length=8)(hw:wt.length=64):(hc s wt n al)[73]?=some (.int .u64 al.toNat):=by
 rw[hc,List.getElem?_append_right (by simp[hs,hw])];simp[hs,hw]
theorem hc_set_n{s:List UInt32}{wt:List UInt8}{n m:Nat}{al:UInt64}(hs:s.length=8)(hw:wt.length=64):(hc s wt n al).set 72 (.int .i64 m)=hc s wt m al:=by
 rw[hc,List.set_append_right _ _ (by simp[hs,hw])];simp[hs,hw]
theorem hc_set_all{s:List UInt32}{wt:List UInt8}{n:Nat}{al be:UInt64}(hs:s.length=8)(hw:wt.length=64):(hc s wt n al).set 73 (.int .u64 be.toNat)=hc s wt n be:=by
 rw[hc,List.set_append_right _ _ (by simp[hs,hw])];simp[hs,hw]
theorem hc_state{s:List UInt32}{wt:List UInt8}{n:Nat}{al:UInt64}(i:Nat)(hi:i<s.length):(hc s wt n al)[i]?=some (V32 (s.getD i 0)):=by
 rw[hc,List.append_assoc,List.getElem?_append_left (by simpa using hi)];simp[hi]
theorem hc_set_state{s:List UInt32}{wt:List UInt8}{n:Nat}{al:UInt64}(i:Nat)(hi:i<s.length)(x:UInt32):(hc s wt n al).set (0+i) (V32 x)=hc (s.set i x) wt n al:=by
 rw[hc,List.append_assoc,List.set_append_left _ _ (by simpa using hi),Nat.zero_add,←List.append_assoc,hc,List.map_set]
theorem word_at(wt:List UInt8)(i:Nat)(h:wt.length=64)(hi:i<16)(hl:4≤((wt.take 64).drop (4*i)).length):word4 ((wt.take 64).drop (4*i))[0] ((wt.take 64).drop (4*i))[1] ((wt.take 64).drop (4*i))[2] ((wt.take 64).drop (4*i))[3]=word4 (wt.getD (4*i) 0) (wt.getD (4*i+1) 0) (wt.getD (4*i+2) 0) (wt.getD (4*i+3) 0):=by
 have:∀j,j<4→∀(h2:j<((wt.take 64).drop (4*i)).length),((wt.take 64).drop (4*i))[j]=wt.getD (4*i+j) 0:=by
  intro j hj h2;rw[List.getElem_drop,List.getElem_take];simp[List.getD,show 4*i+j<wt.length by omega]
 rw[this 0 (by omega),this 1 (by omega),this 2 (by omega),this 3 (by omega)];rfl
def addL(a b:List UInt32)(i:Nat):List UInt32:=(List.zipWith (·+ ·) (a.take i) (b.take i))++a.drop i
theorem addL_len(a b:List UInt32)(i:Nat)(ha:a.length=8)(hb:b.length=8)(hi:i≤8):(addL a b i).length=8:=by simp[addL,ha,hb];omega
theorem addL_get(a b:List UInt32)(i:Nat)(ha:a.length=8)(hb:b.length=8)(hi:i<8):(addL a b i).getD i 0=a.getD i 0:=by
 have hl:(List.zipWith (·+ ·) (a.take i) (b.take i)).length=i:=by simp[ha,hb];omega
 simp only[addL,List.getD];rw[List.getElem?_append_right (by omega),hl,Nat.sub_self,List.getElem?_drop,Nat.add_zero]
theorem addL_succ(a b:List UInt32)(i:Nat)(ha:a.length=8)(hb:b.length=8)(hi:i<8):(addL a b i).set i (a.getD i 0+b.getD i 0)=addL a b (i+1):=by
 have hl:(List.zipWith (·+ ·) (a.take i) (b.take i)).length=i:=by simp[ha,hb];omega
 unfold addL;rw[List.set_append_right _ _ (by omega),hl,Nat.sub_self,List.drop_eq_getElem_cons (show i<a.length by omega),List.set_cons_zero,List.take_succ_eq_append_getElem (show i<a.length by omega),List.take_succ_eq_append_getElem (show i<b.length by omega),List.zipWith_append (by simp;omega),List.append_assoc];simp[List.getD,ha,hb,hi]
theorem block_ct(hb:Nat)(st:S8)(wt:List UInt8)(n:Nat)(al:UInt64)(w0:World)(H0:Heap)
 (hv:Var 211 H0 hb (hc st.list wt n al)) (hw:wt.length=64):
 Ct Tryz.prog w0 149 #[.pointer (some ⟨hb,0,none⟩)] H0 (fun r H2=>r= .tuple #[]∧Var 211 H2 hb (hc (compress st wt).list wt 0 al)∧Mo (fun c=>c=hb) H0 H2):=by
 refine Ct.enter (args:=[.pointer (some ⟨hb,0,none⟩)]) Tryz.func149 rfl rfl rfl ?_;intro Q0 hret;have hlt:=hv.lt;have hsl:st.list.length=8:=rfl;refine CW.sr (fun bA=>?_);refine LR.z1 (Z.allocv rfl z'186) ?_;rintro v2 H2 ⟨rfl,va2,aA,cc,bB⟩;replace hv:=hv.nw aA;replace va2:Var 186 H2 H0.size ((List.replicate 64 (0:UInt32)).map V32):=va2;have cd:H2.size=H0.size+1:=by rw[bB];simp
 refine LR.nil (bA _ _ (CW.s1 (fun bC=>CW.sr (fun bD=>?_))));refine LR.m1 (LR.nil (bD _ _ ?_));refine CW.block (fun _ _ bE _=>?_)
 refine CW.loop (fun(s_:(Nat)×(List UInt32))=>match s_ with|(i,w)=>[(0,.pointer (some ⟨hb,0,none⟩)),(2,.pointer (some ⟨H0.size,0,none⟩)),(14,.int .i64 i)])
  (fun(i,w) (H:Heap)=>i≤16∧w.length=64∧w.take i=first16 wt i∧Var 186 H H0.size (w.map V32)∧Mo (fun c=>c=H0.size) H2 H)
  (fun(i,w)=>16-i) (0,List.replicate 64 0) ⟨rfl,rfl,rfl,trivial⟩ ?_ ?_
 ·
  exact⟨by omega,by simp,rfl,va2,Mo.refl _ _⟩
 rintro⟨i,w⟩ H1 bF K5 bG bH;obtain⟨hi,hwl,hwt,va2,hm⟩:=bF;replace hv:=hv.up hm (by omega);refine CW.sr (fun bI=>?_);refine LR.v1 (Y.lss rfl rfl rfl) (LR.nil (bI _ _ ?_));refine CW.s2 (fun bJ bK=>?_);refine CW.condp rfl (fun bL=>?_) (fun bL=>?_)
 ·
  refine CW.skip (bJ _ _ (CW.s1 (fun bM=>CW.block (fun _ bN _ _=>CW.sr (fun aB=>?_)))));refine LR.m1 ?_;refine LR.an ?_;refine aB _ _ (CW.region ?_);refine LR.m1 ?_;refine LR.m1 ?_;refine LR.n1 ?_;refine LR.v1 (Y.FA hv.pt rfl u'211 rfl s'209) ?_;refine LR.m1 ?_;refine LR.v1 (Y.muli rfl rfl rfl (by omega)) ?_;refine LR.e1 (g:=fun v=>v) (Y.sliceArrE (F:=fun c=>c=hb) (f:=fB) (xs:=wt) (hv.pt.drop 8) rfl hv.lt (hw) (fun i x h=>hc_wait hsl i x h) (4*i) (64) rfl (fun w=> .inl (u'209 w)) s'5 rfl (.inr ⟨_,_,_,rfl,rfl,by first|rfl|omega⟩) (.inl ⟨rfl,rfl⟩) (by omega) (by omega) (by decide)) fun ce rd23=>?_;refine LR.call rfl c'158 rfl (Wd.u rfl) rfl rfl (word_ct _ _ w0 H1 rd23.any (by simp;omega)) (fun cf cg bO=>?_);obtain⟨rfl,rfl⟩:=bO;rw[word_at wt i hw (by omega)];refine LR.v1 (Y.arrAddr va2.pt (i) rfl u'186 s'185 rfl rfl (by first|rfl|omega) (by first|omega|(simp;omega)|(simp;done))) ?_;refine LR.s1 (S.var1 va2 (0+(i)) (_) rfl rfl rfl (rfl) s'185 (by simp;omega) (map_set w i _)) fun bP aC=>?_;obtain⟨va2,hst⟩:=aC;replace hm:=hm.trans hst (fun _ _ e=>e) (fun _ _ e=>e);refine LR.nil (bN _ _ (bM _ _ (CW.region ?_)));refine LR.v1 (Y.addi rfl rfl rfl (by omega)) ?_;refine LR.m1 (LR.nil ?_);refine QN.sub (bG (i+1,w.set i (word4 (wt.getD (4*i) 0) (wt.getD (4*i+1) 0) (wt.getD (4*i+2) 0) (wt.getD (4*i+3) 0))) _ ?_ ?_) ⟨rfl,rfl,(iv (by omega)),trivial⟩
  ·exact⟨by omega,by simp[hwl],by rw[take_set_succ _ _ _ (by omega),first16_succ,hwt],va2,hm⟩
  ·show 16-(i+1)<16-i;omega
 ·
  have hi16:i=16:=by omega
  subst hi16;refine CW.exit (bK (.exit 0) nofun _ _ (bH (.exit 0) nofun _ _ (bE _ _ ?_)));refine bC _ _ (CW.s1 (fun aD=>CW.sr (fun aE=>?_)));refine LR.an ?_;refine aE _ _ (CW.block (fun _ _ aF _=>?_))
  refine CW.loop (fun(s_:(Nat)×(List UInt32))=>match s_ with|(i,w)=>[(0,.pointer (some ⟨hb,0,none⟩)),(2,.pointer (some ⟨H0.size,0,none⟩)),(4,.int .i64 i)])
   (fun(i,w) (H:Heap)=>16≤i∧i≤64∧w.length=64∧w.take i=schedL (first16 wt 16) (i-16)∧Var 186 H H0.size (w.map V32)∧Mo (fun c=>c=H0.size) H1 H)
   (fun(i,w)=>64-i) (16,w) ⟨rfl,rfl,rfl,trivial⟩ ?_ ?_
  ·
   exact⟨by omega,by omega,hwl,hwt,va2,Mo.refl _ _⟩
  rintro⟨i,w⟩ ao bQ ch aG aH;obtain⟨hi0,hi,hwl,hwt,va2,hm2⟩:=bQ;replace hv:=hv.up hm2 (by omega);refine CW.s2 (fun aI aJ=>CW.sr (fun aK=>?_));refine LR.m1 ?_;refine LR.v1 (Y.lss rfl rfl rfl) (LR.nil (aK _ _ ?_));refine CW.condp rfl (fun bR=>?_) (fun bR=>?_)
  ·
   refine CW.skip (aI _ _ (CW.s1 (fun aL=>CW.block (fun _ aM _ _=>CW.s1 (fun aN=>?_)))));refine CW.region_draw rfl (by kernel_rfl) ?_;refine LR.m1 ?_;refine LR.v1 (Y.subi rfl rfl rfl (by omega)) ?_;refine LR.v1 (Y.arrAddr va2.pt (i-15) rfl u'186 s'185 rfl rfl (by omega) (by first|omega|(simp;omega)|(simp;done))) ?_;refine LR.v1 (Y.load1 (va2.pt.at (i-15) (map_get w (i-15) (by omega))) rfl a'185 rfl) ?_;refine LR.m1 ?_;refine LR.v1 (Y.subi rfl rfl rfl (by omega)) ?_;refine LR.v1 (Y.arrAddr va2.pt (i-2) rfl u'186 s'185 rfl rfl (by omega) (by first|omega|(simp;omega)|(simp;done))) ?_;refine LR.v1 (Y.load1 (va2.pt.at (i-2) (map_get w (i-2) (by omega))) rfl a'185 rfl) ?_;refine LR.a1 ?_;refine LR.an ?_;refine aN _ _ ?_;refine CW.region_any (fun Hq=>Nw ao Hq) [29] rfl ?_;have hqs:=Nw.refl ao;refine LH.m1 0 rfl hqs ?_;refine LH.m1 1 rfl hqs ?_;refine LH.t1 2 rfl (fun Hq hq=>Y.subi rfl rfl rfl (by omega)) hqs ?_;refine LH.t1 3 rfl (fun Hq hq=>Y.arrAddr (va2.pt.nw hq) (i-16) rfl u'186 s'185 rfl rfl (by omega) (by first|omega|(simp;omega)|(simp;done))) hqs ?_;refine LH.t1 4 rfl (fun Hq hq=>Y.load1 ((va2.pt.at (i-16) (map_get w (i-16) (by omega))).nw hq) rfl a'185 rfl) hqs ?_;refine LH.m1 5 rfl hqs ?_;refine LH.m1 7 rfl hqs ?_;refine LH.m1 10 rfl hqs ?_;refine LH.t1 11 rfl (fun Hq hq=>Y.shr_u32 (3) rfl rfl rfl (by first|rfl|omega) (by omega)) hqs ?_;refine LH.m1 14 rfl hqs ?_;refine LH.t1 15 rfl (fun Hq hq=>Y.subi rfl rfl rfl (by omega)) hqs ?_;refine LH.t1 16 rfl (fun Hq hq=>Y.arrAddr (va2.pt.nw hq) (i-7) rfl u'186 s'185 rfl rfl (by omega) (by first|omega|(simp;omega)|(simp;done))) hqs ?_;refine LH.t1 17 rfl (fun Hq hq=>Y.load1 ((va2.pt.at (i-7) (map_get w (i-7) (by omega))).nw hq) rfl a'185 rfl) hqs ?_;refine LH.m1 19 rfl hqs ?_;refine LH.m1 21 rfl hqs ?_;refine LH.m1 24 rfl hqs ?_;refine LH.t1 25 rfl (fun Hq hq=>Y.shr_u32 (10) rfl rfl rfl (by first|rfl|omega) (by omega)) hqs ?_;refine LH.o1 6 ?_;refine LO.call rfl rfl c'159 rfl (Wd.u rfl) rfl rfl (turn_ct _ 7 w0 _ (by omega) (by omega)) (fun ci bS bT=>?_);obtain⟨rfl,rfl⟩:=bT;have aO:=Nw.refl bS;have ap:=hqs.tr aO;refine⟨.inr ap,?_⟩;refine LH.o1 8 ?_;refine LO.call rfl rfl c'159 rfl (Wd.u rfl) rfl rfl (turn_ct _ 18 w0 _ (by omega) (by omega)) (fun cj bU bV=>?_);obtain⟨rfl,rfl⟩:=bV;have aP:=Nw.refl bU;have ac:=ap.tr aP;refine⟨.inr ac,?_⟩;refine LH.t1 9 rfl (fun Hq hq=>Y.xor_u32 rfl rfl rfl) ac ?_;refine LH.t1 12 rfl (fun Hq hq=>Y.xor_u32 rfl rfl rfl) ac ?_;refine LH.t1 13 rfl (fun Hq hq=>Y.add_u32 rfl rfl rfl) ac ?_;refine LH.t1 18 rfl (fun Hq hq=>Y.add_u32 rfl rfl rfl) ac ?_;refine LH.o1 20 ?_;refine LO.call rfl rfl c'159 rfl (Wd.u rfl) rfl rfl (turn_ct _ 17 w0 _ (by omega) (by omega)) (fun ck bW bX=>?_);obtain⟨rfl,rfl⟩:=bX;have aQ:=Nw.refl bW;have aq:=ac.tr aQ;refine⟨.inr aq,?_⟩;refine LH.o1 22 ?_;refine LO.call rfl rfl c'159 rfl (Wd.u rfl) rfl rfl (turn_ct _ 19 w0 _ (by omega) (by omega)) (fun cl bY bZ=>?_);obtain⟨rfl,rfl⟩:=bZ;have aR:=Nw.refl bY;have ad:=aq.tr aR;refine⟨.inr ad,?_⟩;refine LH.t1 23 rfl (fun Hq hq=>Y.xor_u32 rfl rfl rfl) ad ?_;refine LH.t1 26 rfl (fun Hq hq=>Y.xor_u32 rfl rfl rfl) ad ?_;refine LH.t1 27 rfl (fun Hq hq=>Y.add_u32 rfl rfl rfl) ad ?_;refine LH.t1 28 rfl (fun Hq hq=>Y.arrAddr (va2.pt.nw hq) (i) rfl u'186 s'185 rfl rfl (by first|rfl|omega) (by first|omega|(simp;omega)|(simp;done))) ad ?_;refine LH.o1 29 ?_;refine LO.s rfl (S.var1 va2 (0+(i)) (_) rfl rfl rfl (rfl) s'185 (by simp;omega) (map_set w i _)) (Wd.u rfl) rfl (fun aS ai=>?_);obtain⟨va2,hst⟩:=ai;refine⟨.inl rfl,?_⟩;refine LH.done (by kernel_rfl) ?_;have hqe:=ad;refine aM _ _ (aL _ _ (CW.region ?_));refine LR.m1 ?_;refine LR.v1 (Y.addi rfl rfl rfl (by omega)) ?_;refine LR.an ?_;refine QN.sub (aG (i+1,w.set i (nxt w i)) _ ?_ ?_) ⟨rfl,rfl,(iv (by omega)),trivial⟩
   ·exact⟨by omega,by omega,by simp[hwl],by rw[take_set_succ _ _ _ (by omega),hwt,show i+1-16=(i-16)+1 by omega,schedL,←hwt,grow_take w i hi0 (by omega)],va2,hm2.trans hst (fun _ _ e=>e) (fun _ _ e=>e)⟩
   ·show 64-(i+1)<64-i;omega
  ·
   have hi64:i=64:=by omega
   subst hi64;rw[List.take_of_length_le (by omega)]at hwt;refine CW.exit (aJ (.exit 2) nofun _ _ (aH (.exit 2) nofun _ _ (aF _ _ ?_)));refine aD _ _ (CW.sr (fun aT=>?_));refine LR.m1 ?_;refine LR.n1 ?_;refine LR.v1 (Y.FA hv.pt rfl u'211 rfl s'187) ?_;refine LR.v1 (Y.loadN (hv.pt.take 8) rfl a'187 s'187 (rfl) rfl) ?_;have hlt2:=va2.lt;refine LR.z1 (Z.allocv rfl z'187) ?_;rintro v7 H7 ⟨rfl,va7,ar,cm,cn⟩;replace hv:=hv.nw ar;replace va2:=va2.nw ar;refine LR.s1 (S.var va7 (st.cells) (st.cells) rfl rfl rfl rfl (by simp[Value.oneCell']) s'187 (rfl) (Nat.le_of_ble_eq_true rfl) (rfl)) fun bx au=>?_;obtain⟨va7,af⟩:=au;replace hv:=hv.up af (by omega);replace va2:=va2.up af (by omega);refine LR.nil (aT _ _ (CW.s1 (fun aU=>CW.sr (fun aV=>?_))));refine LR.call rfl c'160 rfl (Wd.u rfl) rfl rfl (rounds_ct w0 _) (fun co b0 b1=>?_);obtain⟨rfl,ae⟩:=b1;replace hv:=hv.nw ae;replace va2:=va2.nw ae;replace va7:=va7.nw ae;refine LR.m1 (LR.nil (aV _ _ ?_));refine CW.block (fun _ _ aW _=>?_)
   refine CW.loop (fun(s_:(Nat)×(S8))=>match s_ with|(i,q)=>[(0,.pointer (some ⟨hb,0,none⟩)),(2,.pointer (some ⟨H0.size,0,none⟩)),(7,.pointer (some ⟨ao.size,0,none⟩)),(72,.agg (KS.map V32).toArray),(73,.int .i64 i)])
    (fun(i,q) (H:Heap)=>i≤64∧q=rndN st w i∧Var 187 H ao.size q.cells∧Mo (fun c=>c=ao.size) b0 H)
    (fun(i,q)=>64-i) (0,st) ⟨rfl,rfl,rfl,rfl,rfl,trivial⟩ ?_ ?_
   ·
    exact⟨by omega,rfl,va7,Mo.refl _ _⟩
   rintro⟨i,q⟩ aX b2 cp aY aZ;obtain⟨hi3,a0,va7,hm3⟩:=b2;replace hv:=hv.up hm3 (by omega);replace va2:=va2.up hm3 (by omega);refine CW.sr (fun a2=>?_);refine LR.v1 (Y.lss rfl rfl rfl) (LR.nil (a2 _ _ ?_));refine CW.s2 (fun a3 a4=>?_);refine CW.condp rfl (fun b3=>?_) (fun b3=>?_)
   ·
    refine CW.skip (a3 _ _ (CW.s1 (fun a5=>CW.block (fun _ a6 _ _=>CW.sr (fun a7=>?_)))));refine LR.m1 ?_;refine LR.v1 (Y.arrIndex (i) rfl u'186 s'185 a'185 rfl rfl (by first|rfl|omega) (by omega) (by rw[List.getElem?_toArray];exact map_get KS i (by simp[KS];omega))) ?_;refine LR.a1 ?_;refine LR.an ?_;refine a7 _ _ (CW.s1 (fun a8=>?_));refine CW.region_any (fun Hq=>Nw aX Hq) [] rfl ?_;have hqs:=Nw.refl aX;refine LH.t1 0 rfl (fun Hq hq=>Y.arrAddr (va7.pt.nw hq) (7) rfl u'187 s'185 rfl rfl (by first|rfl|omega) (by first|omega|(simp;omega)|(simp;done))) hqs ?_;refine LH.t1 1 rfl (fun Hq hq=>Y.load1 ((va7.pt.drop 7).nw hq) rfl a'185 rfl) hqs ?_;refine LH.t1 2 rfl (fun Hq hq=>Y.arrAddr (va7.pt.nw hq) (4) rfl u'187 s'185 rfl rfl (by first|rfl|omega) (by first|omega|(simp;omega)|(simp;done))) hqs ?_;refine LH.t1 3 rfl (fun Hq hq=>Y.load1 ((va7.pt.drop 4).nw hq) rfl a'185 rfl) hqs ?_;refine LH.t1 5 rfl (fun Hq hq=>Y.arrAddr (va7.pt.nw hq) (4) rfl u'187 s'185 rfl rfl (by first|rfl|omega) (by first|omega|(simp;omega)|(simp;done))) hqs ?_;refine LH.t1 6 rfl (fun Hq hq=>Y.load1 ((va7.pt.drop 4).nw hq) rfl a'185 rfl) hqs ?_;refine LH.t1 9 rfl (fun Hq hq=>Y.arrAddr (va7.pt.nw hq) (4) rfl u'187 s'185 rfl rfl (by first|rfl|omega) (by first|omega|(simp;omega)|(simp;done))) hqs ?_;refine LH.t1 10 rfl (fun Hq hq=>Y.load1 ((va7.pt.drop 4).nw hq) rfl a'185 rfl) hqs ?_;refine LH.t1 14 rfl (fun Hq hq=>Y.arrAddr (va7.pt.nw hq) (4) rfl u'187 s'185 rfl rfl (by first|rfl|omega) (by first|omega|(simp;omega)|(simp;done))) hqs ?_;refine LH.t1 15 rfl (fun Hq hq=>Y.load1 ((va7.pt.drop 4).nw hq) rfl a'185 rfl) hqs ?_;refine LH.t1 16 rfl (fun Hq hq=>Y.arrAddr (va7.pt.nw hq) (5) rfl u'187 s'185 rfl rfl (by first|rfl|omega) (by first|omega|(simp;omega)|(simp;done))) hqs ?_;refine LH.t1 17 rfl (fun Hq hq=>Y.load1 ((va7.pt.drop 5).nw hq) rfl a'185 rfl) hqs ?_;refine LH.t1 18 rfl (fun Hq hq=>Y.and_u32 rfl rfl rfl) hqs ?_;refine LH.t1 19 rfl (fun Hq hq=>Y.arrAddr (va7.pt.nw hq) (4) rfl u'187 s'185 rfl rfl (by first|rfl|omega) (by first|omega|(simp;omega)|(simp;done))) hqs ?_;refine LH.t1 20 rfl (fun Hq hq=>Y.load1 ((va7.pt.drop 4).nw hq) rfl a'185 rfl) hqs ?_;refine LH.t1 21 rfl (fun Hq hq=>Y.not_u32 rfl rfl) hqs ?_;refine LH.t1 22 rfl (fun Hq hq=>Y.arrAddr (va7.pt.nw hq) (6) rfl u'187 s'185 rfl rfl (by first|rfl|omega) (by first|omega|(simp;omega)|(simp;done))) hqs ?_;refine LH.t1 23 rfl (fun Hq hq=>Y.load1 ((va7.pt.drop 6).nw hq) rfl a'185 rfl) hqs ?_;refine LH.t1 24 rfl (fun Hq hq=>Y.and_u32 rfl rfl rfl) hqs ?_;refine LH.t1 25 rfl (fun Hq hq=>Y.xor_u32 rfl rfl rfl) hqs ?_;refine LH.m1 27 rfl hqs ?_;refine LH.m1 29 rfl hqs ?_;refine LH.t1 30 rfl (fun Hq hq=>Y.arrAddr (va2.pt.nw hq) (i) rfl u'186 s'185 rfl rfl (by first|rfl|omega) (by first|omega|(simp;omega)|(simp;done))) hqs ?_;refine LH.t1 31 rfl (fun Hq hq=>Y.load1 ((va2.pt.at (i) (map_get w i (by omega))).nw hq) rfl a'185 rfl) hqs ?_;refine LH.o1 4 ?_;refine LO.call rfl rfl c'159 rfl (Wd.u rfl) rfl rfl (turn_ct _ 6 w0 _ (by omega) (by omega)) (fun cq b4 b5=>?_);obtain⟨rfl,rfl⟩:=b5;have a9:=Nw.refl b4;have av:=hqs.tr a9;refine⟨.inr av,?_⟩;refine LH.o1 7 ?_;refine LO.call rfl rfl c'159 rfl (Wd.u rfl) rfl rfl (turn_ct _ 11 w0 _ (by omega) (by omega)) (fun cr b6 b7=>?_);obtain⟨rfl,rfl⟩:=b7;have a_:=Nw.refl b6;have aj:=av.tr a_;refine⟨.inr aj,?_⟩;refine LH.t1 8 rfl (fun Hq hq=>Y.xor_u32 rfl rfl rfl) aj ?_;refine LH.o1 11 ?_;refine LO.call rfl rfl c'159 rfl (Wd.u rfl) rfl rfl (turn_ct _ 25 w0 _ (by omega) (by omega)) (fun cs ba b8=>?_);obtain⟨rfl,rfl⟩:=b8;have bb:=Nw.refl ba;have aa:=aj.tr bb;refine⟨.inr aa,?_⟩;refine LH.t1 12 rfl (fun Hq hq=>Y.xor_u32 rfl rfl rfl) aa ?_;refine LH.t1 13 rfl (fun Hq hq=>Y.add_u32 rfl rfl rfl) aa ?_;refine LH.t1 26 rfl (fun Hq hq=>Y.add_u32 rfl rfl rfl) aa ?_;refine LH.t1 28 rfl (fun Hq hq=>Y.add_u32 rfl rfl rfl) aa ?_;refine LH.t1 32 rfl (fun Hq hq=>Y.add_u32 rfl rfl rfl) aa ?_;refine LH.t1 33 rfl (fun Hq hq=>Y.assign rfl rfl) aa ?_;refine LH.done (by kernel_rfl) ?_;have hqe:=aa;refine a8 _ _ (CW.s1 (fun bc=>?_));refine CW.region_any (fun Hq=>Nw ba Hq) [] rfl ?_;have hqs:=Nw.refl ba;refine LH.t1 0 rfl (fun Hq hq=>Y.arrAddr (va7.pt.nw hq) (0) rfl u'187 s'185 rfl rfl (by first|rfl|omega) (by first|omega|(simp;omega)|(simp;done))) hqs ?_;refine LH.t1 1 rfl (fun Hq hq=>Y.load1 (va7.pt.nw hq) rfl a'185 rfl) hqs ?_;refine LH.t1 3 rfl (fun Hq hq=>Y.arrAddr (va7.pt.nw hq) (0) rfl u'187 s'185 rfl rfl (by first|rfl|omega) (by first|omega|(simp;omega)|(simp;done))) hqs ?_;refine LH.t1 4 rfl (fun Hq hq=>Y.load1 (va7.pt.nw hq) rfl a'185 rfl) hqs ?_;refine LH.t1 7 rfl (fun Hq hq=>Y.arrAddr (va7.pt.nw hq) (0) rfl u'187 s'185 rfl rfl (by first|rfl|omega) (by first|omega|(simp;omega)|(simp;done))) hqs ?_;refine LH.t1 8 rfl (fun Hq hq=>Y.load1 (va7.pt.nw hq) rfl a'185 rfl) hqs ?_;refine LH.t1 11 rfl (fun Hq hq=>Y.arrAddr (va7.pt.nw hq) (0) rfl u'187 s'185 rfl rfl (by first|rfl|omega) (by first|omega|(simp;omega)|(simp;done))) hqs ?_;refine LH.t1 12 rfl (fun Hq hq=>Y.load1 (va7.pt.nw hq) rfl a'185 rfl) hqs ?_;refine LH.t1 13 rfl (fun Hq hq=>Y.arrAddr (va7.pt.nw hq) (1) rfl u'187 s'185 rfl rfl (by first|rfl|omega) (by first|omega|(simp;omega)|(simp;done))) hqs ?_;refine LH.t1 14 rfl (fun Hq hq=>Y.load1 ((va7.pt.drop 1).nw hq) rfl a'185 rfl) hqs ?_;refine LH.t1 15 rfl (fun Hq hq=>Y.and_u32 rfl rfl rfl) hqs ?_;refine LH.t1 16 rfl (fun Hq hq=>Y.arrAddr (va7.pt.nw hq) (0) rfl u'187 s'185 rfl rfl (by first|rfl|omega) (by first|omega|(simp;omega)|(simp;done))) hqs ?_;refine LH.t1 17 rfl (fun Hq hq=>Y.load1 (va7.pt.nw hq) rfl a'185 rfl) hqs ?_;refine LH.t1 18 rfl (fun Hq hq=>Y.arrAddr (va7.pt.nw hq) (2) rfl u'187 s'185 rfl rfl (by first|rfl|omega) (by first|omega|(simp;omega)|(simp;done))) hqs ?_;refine LH.t1 19 rfl (fun Hq hq=>Y.load1 ((va7.pt.drop 2).nw hq) rfl a'185 rfl) hqs ?_;refine LH.t1 20 rfl (fun Hq hq=>Y.and_u32 rfl rfl rfl) hqs ?_;refine LH.t1 21 rfl (fun Hq hq=>Y.xor_u32 rfl rfl rfl) hqs ?_;refine LH.t1 22 rfl (fun Hq hq=>Y.arrAddr (va7.pt.nw hq) (1) rfl u'187 s'185 rfl rfl (by first|rfl|omega) (by first|omega|(simp;omega)|(simp;done))) hqs ?_;refine LH.t1 23 rfl (fun Hq hq=>Y.load1 ((va7.pt.drop 1).nw hq) rfl a'185 rfl) hqs ?_;refine LH.t1 24 rfl (fun Hq hq=>Y.arrAddr (va7.pt.nw hq) (2) rfl u'187 s'185 rfl rfl (by first|rfl|omega) (by first|omega|(simp;omega)|(simp;done))) hqs ?_;refine LH.t1 25 rfl (fun Hq hq=>Y.load1 ((va7.pt.drop 2).nw hq) rfl a'185 rfl) hqs ?_;refine LH.t1 26 rfl (fun Hq hq=>Y.and_u32 rfl rfl rfl) hqs ?_;refine LH.t1 27 rfl (fun Hq hq=>Y.xor_u32 rfl rfl rfl) hqs ?_;refine LH.o1 2 ?_;refine LO.call rfl rfl c'159 rfl (Wd.u rfl) rfl rfl (turn_ct _ 2 w0 _ (by omega) (by omega)) (fun b9 bd be=>?_);obtain⟨rfl,rfl⟩:=be;have aw:=Nw.refl bd;have ah:=hqs.tr aw;refine⟨.inr ah,?_⟩;refine LH.o1 5 ?_;refine LO.call rfl rfl c'159 rfl (Wd.u rfl) rfl rfl (turn_ct _ 13 w0 _ (by omega) (by omega)) (fun b_ bf bg=>?_);obtain⟨rfl,rfl⟩:=bg;have ax:=Nw.refl bf;have ag:=ah.tr ax;refine⟨.inr ag,?_⟩;refine LH.t1 6 rfl (fun Hq hq=>Y.xor_u32 rfl rfl rfl) ag ?_;refine LH.o1 9 ?_;refine LO.call rfl rfl c'159 rfl (Wd.u rfl) rfl rfl (turn_ct _ 22 w0 _ (by omega) (by omega)) (fun ca bh bi=>?_);obtain⟨rfl,rfl⟩:=bi;have ay:=Nw.refl bh;have ab:=ag.tr ay;refine⟨.inr ab,?_⟩;refine LH.t1 10 rfl (fun Hq hq=>Y.xor_u32 rfl rfl rfl) ab ?_;refine LH.t1 28 rfl (fun Hq hq=>Y.add_u32 rfl rfl rfl) ab ?_;refine LH.t1 29 rfl (fun Hq hq=>Y.assign rfl rfl) ab ?_;refine LH.done (by kernel_rfl) ?_;have hqe:=ab;refine bc _ _ (CW.region ?_);refine LR.m1 ?_;refine LR.m1 ?_;refine LR.v1 (Y.add_u32 rfl rfl rfl) ?_;refine LR.v1 (Y.arrAddr va7.pt (0) rfl u'187 s'185 rfl rfl (by first|rfl|omega) (by first|omega|(simp;omega)|(simp;done))) ?_;refine LR.v1 (Y.load1 va7.pt rfl a'185 rfl) ?_;refine LR.v1 (Y.arrAddr va7.pt (1) rfl u'187 s'185 rfl rfl (by first|rfl|omega) (by first|omega|(simp;omega)|(simp;done))) ?_;refine LR.v1 (Y.load1 (va7.pt.drop 1) rfl a'185 rfl) ?_;refine LR.v1 (Y.arrAddr va7.pt (2) rfl u'187 s'185 rfl rfl (by first|rfl|omega) (by first|omega|(simp;omega)|(simp;done))) ?_;refine LR.v1 (Y.load1 (va7.pt.drop 2) rfl a'185 rfl) ?_;refine LR.v1 (Y.arrAddr va7.pt (3) rfl u'187 s'185 rfl rfl (by first|rfl|omega) (by first|omega|(simp;omega)|(simp;done))) ?_;refine LR.v1 (Y.load1 (va7.pt.drop 3) rfl a'185 rfl) ?_;refine LR.m1 ?_;refine LR.v1 (Y.add_u32 rfl rfl rfl) ?_;refine LR.v1 (Y.arrAddr va7.pt (4) rfl u'187 s'185 rfl rfl (by first|rfl|omega) (by first|omega|(simp;omega)|(simp;done))) ?_;refine LR.v1 (Y.load1 (va7.pt.drop 4) rfl a'185 rfl) ?_;refine LR.v1 (Y.arrAddr va7.pt (5) rfl u'187 s'185 rfl rfl (by first|rfl|omega) (by first|omega|(simp;omega)|(simp;done))) ?_;refine LR.v1 (Y.load1 (va7.pt.drop 5) rfl a'185 rfl) ?_;refine LR.v1 (Y.arrAddr va7.pt (6) rfl u'187 s'185 rfl rfl (by first|rfl|omega) (by first|omega|(simp;omega)|(simp;done))) ?_;refine LR.v1 (Y.load1 (va7.pt.drop 6) rfl a'185 rfl) ?_;refine LR.v1 (Y.build (v:= .agg (rnd q (KS.getD i 0) (w.getD i 0)).cells.toArray) rfl rfl (by intro w;kernel_rfl)) ?_;refine LR.s1 (S.var va7 ((rnd q (KS.getD i 0) (w.getD i 0)).cells) ((rnd q (KS.getD i 0) (w.getD i 0)).cells) rfl rfl rfl rfl (by simp[Value.oneCell']) s'187 (rfl) (Nat.le_of_ble_eq_true rfl) (rfl)) fun bj ak=>?_;obtain⟨va7,hst17⟩:=ak;refine LR.nil (a6 _ _ (a5 _ _ (CW.region ?_)));refine LR.v1 (Y.addi rfl rfl rfl (by omega)) ?_;refine LR.m1 (LR.nil ?_);refine QN.sub (aY (i+1,rnd q (KS.getD i 0) (w.getD i 0)) _ ?_ ?_) ⟨rfl,rfl,rfl,rfl,(iv (by omega)),trivial⟩
    ·exact⟨by omega,by rw[a0];rfl,va7,hm3.trans hst17 (fun _ _ e=>e) (fun _ _ e=>e)⟩
    ·show 64-(i+1)<64-i;omega
   ·
    have hi64:i=64:=by omega
    subst hi64;rw[hwt]at a0;have hcm:(add8 st q).list=(compress st wt).list:=by rw[a0];rfl
    refine CW.exit (a4 (.exit 4) nofun _ _ (aZ (.exit 4) nofun _ _ (aW _ _ ?_)));refine aU _ _ (CW.s1 (fun bk=>CW.sr (fun bl=>?_)));refine LR.v1 (Y.loadN va7.pt rfl a'187 s'187 (rfl) rfl) ?_;refine LR.m1 (LR.nil (bl _ _ ?_));refine CW.block (fun _ _ bm _=>?_)
    refine CW.loop (fun(i:(Nat))=>[(0,.pointer (some ⟨hb,0,none⟩)),(160,.agg q.cells.toArray),(161,.int .i64 i)])
     (fun(i:(Nat)) (H:Heap)=>i≤8∧Var 211 H hb (hc (addL st.list q.list i) wt n al)∧Mo (fun c=>c=hb) aX H)
     (fun(i:(Nat))=>8-i) 0 ⟨rfl,rfl,rfl,trivial⟩ ?_ ?_
    ·
     exact⟨by omega,hv,Mo.refl _ _⟩
    intro i ct cb cu bn bo;obtain⟨hi4,hv,hm4⟩:=cb;have hal:=addL_len st.list q.list i rfl rfl hi4;refine CW.sr (fun bp=>?_);refine LR.v1 (Y.lss rfl rfl rfl) (LR.nil (bp _ _ ?_));refine CW.s2 (fun bq br=>?_);refine CW.condp rfl (fun bs=>?_) (fun bs=>?_)
    ·
     refine CW.skip (bq _ _ (CW.s1 (fun bt=>CW.block (fun _ bu _ _=>CW.sr (fun bv=>?_)))));refine LR.m1 ?_;refine LR.v1 (Y.arrIndex (i) rfl u'187 s'185 a'185 rfl rfl (by first|rfl|omega) (by omega) (by rw[List.getElem?_toArray];exact map_get q.list i (by simp;omega))) ?_;refine LR.a1 ?_;refine LR.an ?_;refine bv _ _ ?_;refine CW.region_tail 11 rfl (by kernel_rfl) (fun T22 hT22=>?_);refine LR.m1 ?_;refine LR.m1 ?_;refine LR.n1 ?_;refine LR.v1 (Y.FA hv.pt rfl u'211 rfl s'187) ?_;refine LR.v1 (Y.arrAddr hv.pt (i) rfl u'187 s'185 rfl rfl (by first|rfl|omega) (by first|omega|(simp;omega)|(simp;done))) ?_;refine LR.v1 (Y.load1 (hv.pt.at (i) (hc_state i (by omega))) rfl a'185 rfl) ?_;rw[addL_get st.list q.list i rfl rfl (by omega)];refine LR.m1 ?_;refine LR.v1 (Y.add_u32 rfl rfl rfl) ?_;refine LR.n1 ?_;refine LR.v1 (Y.FA hv.pt rfl u'211 rfl s'187) ?_;refine LR.v1 (Y.arrAddr hv.pt (i) rfl u'187 s'185 rfl rfl (by first|rfl|omega) (by first|omega|(simp;omega)|(simp;done))) ?_;refine LR.nil (hT22 _ ?_);refine LR.s1 (S.var1 hv (0+(i)) (_) rfl rfl rfl (rfl) s'185 (by rw[hc_len hal hw];omega) (hc_set_state i (by omega) _)) fun bw am=>?_;obtain⟨hv,hst22⟩:=am;refine LR.nil (bu _ _ (bt _ _ (CW.region ?_)));refine LR.v1 (Y.addi rfl rfl rfl (by omega)) ?_;refine LR.m1 (LR.nil ?_);refine QN.sub (bn (i+1) _ ?_ ?_) ⟨rfl,rfl,(iv (by omega)),trivial⟩
     ·exact⟨by omega,by rw[←addL_succ st.list q.list i rfl rfl (by omega)];exact hv,hm4.trans hst22 (fun _ _ e=>e) (fun _ _ e=>e)⟩
     ·omega
    ·
     have hi8:i=8:=by omega
     subst hi8;refine CW.exit (br (.exit 6) nofun _ _ (bo (.exit 6) nofun _ _ (bm _ _ ?_)));refine bk _ _ (CW.region ?_);refine LR.m1 ?_;refine LR.n1 ?_;refine LR.v1 (Y.FA hv.pt rfl u'211 rfl s'3) ?_;refine LR.s1 (S.var1 hv 72 (_) rfl rfl rfl (rfl) s'3 (by rw[hc_len hal hw];omega) (hc_set_n (m:=0) hal hw)) fun bz az=>?_;obtain⟨hv,hst24⟩:=az;refine LR.nil ?_;refine hret .normal (.inl rfl) _ _ _ (res0 rfl) ?_;refine⟨rfl,by rw[←hcm];exact hv,⟨by have:=aA.size;have:=hm.size;have:=hm2.size;have:=ar.size;have:=af.size;have:=ae.size;have:=hm3.size;have:=hm4.size;have:=hst24.size;omega,fun b hb2 hne=>?_⟩⟩;have q1:=aA.size;have q2:=hm.size;have q3:=hm2.size;have q4:=ar.size;have q5:=af.size;have q6:=ae.size;have q7:=hm3.size;have q8:=hm4.size;rw[hst24.same b (by omega) hne,hm4.same b (by omega) hne,hm3.same b (by omega) (by omega),ae.same b (by omega) (fun e=>e),af.same b (by omega) (by omega),ar.same b (by omega) (fun e=>e),hm2.same b (by omega) (by omega),hm.same b (by omega) (by omega),aA.same b (by omega) (fun e=>e)]
end SumC

namespace E
open Go.ChangeShapes Go.WideShapes Go.ChangeAt Go.RowKit Go.Deep
theorem bulkAll_append{H:Type}(l r:List (DataW H)):Rows.uptoBulkAll (l++r)=Rows.uptoBulkAll l+Rows.uptoBulkAll r:=by
 induction l with
 |nil=>simp[Rows.uptoBulkAll]
 |cons x l ih=>simp only[List.cons_append,Rows.uptoBulkAll,ih];omega
theorem list_of{α:Type}{n:Nat}{p:Nat→α→Prop}(h:∀i,i<n→∃x,p i x):∃l:List α,l.length=n∧∀i x,l[i]?=some x→p i x:=by
 induction n with
 |zero=>exact⟨[],rfl,fun i x h=>by simp at h⟩
 |succ n ih=>
  obtain⟨l,hl,hp⟩:=ih (fun i hi=>h i (by omega));obtain⟨x,hx⟩:=h n (by omega);refine⟨l++[x],by simp[hl],fun i y hy=>?_⟩;by_cases hi:i<l.length
  ·rw[List.getElem?_append_left hi]at hy;exact hp i y hy
  ·rw[List.getElem?_append_right (by omega)]at hy
   have:i-l.length=0:=by have:=(List.getElem?_eq_some_iff.1 hy).1;simp at this;omega
   rw[this]at hy;simp only[List.getElem?_cons_zero,Option.some.injEq]at hy;subst hy;have:i=n:=by omega
   subst this;exact hx
theorem sum_le{α:Type}{H:Type}(B:α→Nat)(D:Nat→DataW H)(l:List α)(h:∀i x,l[i]?=some x→B x≤Rows.uptoBulk (D i)):∀k,k≤l.length→((l.take k).map B).sum≤Rows.uptoBulkAll ((List.range k).map D):=by
 intro k
 induction k with
 |zero=>intro _;simp
 |succ k ih=>
  intro hk;rw[List.range_succ,List.map_append,bulkAll_append,List.take_succ_eq_append_getElem (show k<l.length from hk),List.map_append,List.sum_append];have h1:=ih (by omega);have h2:=h k l[k] (by simp[show k<l.length from hk]);simp only[List.map_cons,List.map_nil,List.sum_cons,List.sum_nil,Rows.uptoBulkAll];omega
section
variable {H : Type} {enc : TypeId × Value → H} {P : Program} {W : World} {base : Nat} {sp : Nat → Bool} {held : Bool}
theorem read_slice{α:Type}(f:α→List Value)(sz:Nat)(B:α→Nat)(Φ:α→Prop){t e:TypeId}{v:Value}{d:DataW H}{p:List MemPlace}(hv:v.cells= #[v])(ht:P.underlying t=some (.slice e))(hc:P.cellsOf e=sz)(hf:∀x,(f x).length=sz)(hsz:0<sz)
 (elem:∀n cs' y ps,DataW.trod enc P W base sp held n e cs'=some (y,ps)→cs'.length=sz→∃x,cs'=f x∧Φ x∧B x≤Rows.uptoBulk y) (h:DataW.Trod enc P W base sp held t v d p):
 ∃l:List α,RdT W.heap f sz v l∧(∀x∈l,Φ x)∧(l.map B).sum+1≤Rows.uptoBulk d:=by
 obtain⟨fuel,h⟩:=h;rw[hv]at h;rcases open_slice ht h with⟨h1,h2⟩|⟨a,len,cap,m,n,D,Pl,h1,h2,h3,h4,h5,h6,h7⟩
 ·simp only[Array.toList,List.cons.injEq,and_true]at h1
  simp only[Prod.mk.injEq]at h2;obtain⟨rfl,rfl⟩:=h2;subst h1;exact⟨[],Rd.nil _ _ _ _,by simp,by simp[Rows.uptoBulk]⟩
 ·simp only[List.cons.injEq,and_true]at h1
  simp only[Prod.mk.injEq]at h6;obtain⟨rfl,rfl⟩:=h6;subst h1;have hm:len≤m:=by rw[h5];split<;>omega
  have:∀i,i<len→∃x:α,∃cs',W.cells? base (a.add (i*sz)) sz=some cs'∧cs'=f x∧Φ x∧B x≤Rows.uptoBulk (D i):=by
   intro i hi;obtain⟨cs',hcs,htr⟩:=h7 i (by omega);rw[hc]at hcs;obtain⟨_,hl,_⟩:=World.cells?_some hcs;obtain⟨x,hx⟩:=elem n cs' _ _ htr hl;exact⟨x,cs',hcs,hx⟩
  obtain⟨l,hl,hp⟩:=list_of this;refine⟨l,⟨some a,cap,by rw[hl],by omega,h4,fun hne=>?_⟩,fun x hx=>?_,?_⟩
  ·have hlen:0<l.length:=List.length_pos_iff.2 hne
   obtain⟨cs0,hcs0,hcs0',_⟩:=hp 0 l[0] (by simp[hlen]);obtain⟨_,hl0,hcell0⟩:=World.cells?_some hcs0;have hc0:=hcell0 0 (by omega)
   have hh:W.cell? a=some (cs0[0]'(by omega)):=by
    simp only[Nat.zero_mul]at hc0;rw[←List.getElem?_eq_getElem,←hc0];simp[Addr.add]
   have hspot:a.spot=none:=World.cell?_spot hh;refine⟨a,rfl,hspot,trivial,World.block_lt_of_cell? W a hh,fun i x hx=>⟨rfl,fun j c hj=>?_⟩⟩;obtain⟨cs',hcs',rfl,_,_⟩:=hp i x hx;obtain⟨_,hl',hcell'⟩:=World.cells?_some hcs';have hjl:=(List.getElem?_eq_some_iff.1 hj).1;have:=hcell' j (by rw[←hl'];exact hjl);rw[hj]at this;rw[add_eq hspot,add_eq rfl]at this;show cell W.heap _=_;rw[←(At.cell (w0:=W) ⟨rfl,rfl,rfl,rfl,Nat.le_refl _⟩ _)];exact this
  ·obtain⟨i,hi⟩:=List.mem_iff_getElem?.1 hx
   obtain⟨_,_,_,h8,_⟩:=hp i x hi;exact h8
  ·have:=sum_le B D l (fun i x hx=>by obtain⟨_,_,_,_,h9⟩:=hp i x hx;exact h9) l.length (Nat.le_refl _)
   rw[List.take_length,hl]at this;simp only[Rows.uptoBulk];omega
theorem sum_len{α:Type}(B:α→Nat)(hB:∀x,1≤B x):∀(l:List α),l.length≤(l.map B).sum
 |[]=>by simp
 |y::l=>by simp only[List.map_cons,List.sum_cons,List.length_cons];have:=hB y;have:=sum_len B hB l;omega
theorem read_strs{t e:TypeId}{v:Value}{d:DataW H}{p:List MemPlace}(hv:v.cells= #[v])(ht:P.underlying t=some (.slice e))(he:P.underlying e=some .string)(hc:P.cellsOf e=1)(h:DataW.Trod enc P W base sp held t v d p):
 ∃l:List (List UInt8),RdT W.heap fS 1 v l∧(l.map (fun s=>s.length+1)).sum+1≤Rows.uptoBulk d:=by
 obtain⟨l,h1,_,h2⟩:=read_slice fS 1 (fun s=>s.length+1) (fun _=>True) hv ht hc fS_len (by omega) (fun n cs' y ps hy hl=>by
  obtain⟨s,rfl,h3⟩:=DataW.trod_string he hy;simp only[Prod.mk.injEq]at h3;refine⟨s.data.toList,rfl,trivial,?_⟩;rw[h3.1.1];simp[Rows.uptoBulk]) h
 exact⟨l,h1,h2⟩
theorem u8_of{x:Int}(h:(Lit.int .u8 x).wf=true):∃b:UInt8,x=b.toNat:=by
 simp only[Lit.wf,Bool.and_eq_true,decide_eq_true_eq,show IntKind.u8.min=0 by decide,show IntKind.u8.max=255 by decide]at h;refine⟨UInt8.ofNat x.toNat,?_⟩;rw[UInt8.toNat_ofNat'];omega
theorem i64_of{x:Int}(h:(Lit.int .i64 x).wf=true): -9223372036854775808≤x∧x≤9223372036854775807:=by
 simpa only[Lit.wf,Bool.and_eq_true,decide_eq_true_eq,show IntKind.i64.min= -9223372036854775808 by decide,show IntKind.i64.max=9223372036854775807 by decide]using h
theorem read_bytes{t e:TypeId}{v:Value}{d:DataW H}{p:List MemPlace}(hv:v.cells= #[v])(ht:P.underlying t=some (.slice e))(he:P.underlying e=some (.int .u8))(hc:P.cellsOf e=1)(h:DataW.Trod enc P W base sp held t v d p):
 ∃l:List UInt8,RdT W.heap fB 1 v l∧l.length+1≤Rows.uptoBulk d:=by
 obtain⟨l,h1,_,h2⟩:=read_slice fB 1 (fun _=>1) (fun _=>True) hv ht hc fB_len (by omega) (fun n cs' y ps hy hl=>by
  obtain⟨x,rfl,h3,h4⟩:=DataW.trod_int he hy;obtain⟨b,rfl⟩:=u8_of h4;simp only[Prod.mk.injEq]at h3;refine⟨b,rfl,trivial,?_⟩;rw[h3.1];simp[Rows.uptoBulk]) h
 exact⟨l,h1,by have:=sum_len (fun _:UInt8=>1) (fun _=>by omega) l;omega⟩
abbrev fP{β:Type}(x:SV×β):List Value:=[x.1.v]
theorem fP_len{β:Type}(x:SV×β):(fP x).length=1:=rfl
theorem fP_one{β:Type}(x:SV×β):∀u∈fP x,u.oneCell'=true:=by intro u hu;simp only[List.mem_singleton]at hu;subst hu;rfl
theorem read_nested{β:Type}(Ψ:Value→β→Prop)(B:β→Nat){t e ee:TypeId}{v:Value}{d:DataW H}{p:List MemPlace}(hv:v.cells= #[v])(ht:P.underlying t=some (.slice e))(he:P.underlying e=some (.slice ee))(hc:P.cellsOf e=1)
 (rd:∀(v:Value) (d:DataW H) (p:List MemPlace),v.cells= #[v]→DataW.Trod enc P W base sp held e v d p→∃l:β,Ψ v l∧B l≤Rows.uptoBulk d) (h:DataW.Trod enc P W base sp held t v d p):
 ∃l:List (SV×β),RdT W.heap fP 1 v l∧(∀x∈l,Ψ x.1.v x.2)∧(l.map (fun x=>B x.2)).sum+1≤Rows.uptoBulk d:=by
 refine read_slice (fP (β:=β)) 1 (fun x=>B x.2) (fun x=>Ψ x.1.v x.2) hv ht hc fP_len (by omega) (fun n cs' y ps hy hl=>?_) h
 match cs',hl with
 |[u],_=>
  have hu:∃s:SV,u=s.v:=by
   rcases open_slice he hy with⟨h1,_⟩|⟨a,len,cap,_,_,_,_,h1,_⟩
   ·simp only[List.cons.injEq,and_true]at h1;exact⟨⟨none,0,0⟩,h1⟩
   ·simp only[List.cons.injEq,and_true]at h1;exact⟨⟨some a,len,cap⟩,h1⟩
  obtain⟨s,rfl⟩:=hu;obtain⟨l,h1,h2⟩:=rd s.v y ps rfl ⟨n,hy⟩;exact⟨(s,l),rfl,h1,h2⟩
theorem read_byteses{t e ee:TypeId}{v:Value}{d:DataW H}{p:List MemPlace}(hv:v.cells= #[v])(ht:P.underlying t=some (.slice e))(he:P.underlying e=some (.slice ee))(hee:P.underlying ee=some (.int .u8))(hc:P.cellsOf e=1)(hce:P.cellsOf ee=1)(h:DataW.Trod enc P W base sp held t v d p):
 ∃l:List (SV×List UInt8),RdT W.heap fP 1 v l∧(∀x∈l,RdT W.heap fB 1 x.1.v x.2)∧(l.map (fun x=>x.2.length+1)).sum+1≤Rows.uptoBulk d:=
 read_nested (fun v l=>RdT W.heap fB 1 v l) (fun l=>l.length+1) hv ht he hc (fun v d p hv h=>read_bytes hv he hee hce h) h
end
end E

namespace SumD
open E Go.RowKit SumA SumB SumC
def IV:S8:=⟨0x6a09e667,0xbb67ae85,0x3c6ef372,0xa54ff53a,0x510e527f,0x9b05688c,0x1f83d9ab,0x5be0cd19⟩
def run(s:S8)(b:List UInt8):S8×List UInt8:=if h:b.length<64 then(s,b)else run (compress s (b.take 64)) (b.drop 64)
termination_by b.length
decreasing_by simp; omega
theorem run_lt(s:S8)(b:List UInt8)(h:b.length<64):run s b=(s,b):=by rw[run,dif_pos h]
theorem run_ge(s:S8)(b:List UInt8)(h:64≤b.length):run s b=run (compress s (b.take 64)) (b.drop 64):=by rw[run,dif_neg (by omega)]
theorem run_len:∀(n:Nat) (s:S8) (b:List UInt8),b.length≤n→(run s b).2.length<64:=by
 intro n
 induction n with
 |zero=>intro s b h;rw[run_lt s b (by omega)];simp;omega
 |succ n ih=>
  intro s b h;by_cases hb:b.length<64
  ·rw[run_lt s b hb];exact hb
  ·rw[run_ge s b (by omega)];exact ih _ _ (by simp;omega)
theorem run_app:∀(n:Nat) (s:S8) (a b:List UInt8),a.length≤n→run s (a++b)=run (run s a).1 ((run s a).2++b):=by
 intro n
 induction n with
 |zero=>intro s a b h;rw[run_lt s a (by omega)]
 |succ n ih=>
  intro s a b h;by_cases ha:a.length<64
  ·rw[run_lt s a ha]
  ·rw[run_ge s a (by omega),run_ge s (a++b) (by simp;omega),List.take_append_of_le_length (by omega),List.drop_append_of_le_length (by omega)]
   exact ih _ _ _ (by simp;omega)
theorem run_more(s:S8)(a b:List UInt8):run s (a++b)=run (run s a).1 ((run s a).2++b):=run_app _ s a b (Nat.le_refl _)
theorem run_rest(s:S8)(b:List UInt8):(run s b).2.length<64:=run_len _ s b (Nat.le_refl _)
theorem hc_splice{s:List UInt32}{wt xs:List UInt8}{n m:Nat}{al:UInt64}(hs:s.length=8)(hw:wt.length=64)(h:m+xs.length≤64):splice (hc s wt n al) (8+m) (xs.flatMap fB)=hc s (wt.take m++xs++wt.drop (m+xs.length)) n al:=by
 have h8:(s.map V32).length=8:=by simpa using hs
 have hx:(xs.flatMap fB).length=xs.length:=by rw[length_flatMap fB_len,Nat.mul_one]
 have e:∀(wt:List UInt8),hc s wt n al=s.map V32++(wt.map V8++[.int .i64 n,.int .u64 al.toNat]):=fun wt=>by rw[hc,List.append_assoc]
 rw[splice,hx,e,e,List.take_append,List.take_of_length_le (by omega),h8,show 8+m-8=m by omega,List.drop_append,List.drop_of_length_le (by omega),h8,List.nil_append,show 8+m+xs.length-8=m+xs.length by omega];rw[List.take_append_of_le_length (by simp;omega),List.drop_append_of_le_length (by simp;omega),flatMap_fB];simp[List.map_append,List.map_take,List.map_drop]
structure HS (H:Heap) (hb:Nat) (m:List UInt8) (al:UInt64):Prop where
 ex:∃wt:List UInt8,wt.length=64∧Var 211 H hb (hc (run IV m).1.list wt (run IV m).2.length al)∧wt.take (run IV m).2.length=(run IV m).2
theorem HS.nw{H H':Heap}{hb:Nat}{m:List UInt8}{al:UInt64}(h:HS H hb m al)(s:Nw H H'):HS H' hb m al:=let⟨wt,h1,h2,h3⟩:=h.ex;⟨wt,h1,h2.nw s,h3⟩
theorem HS.up{H H':Heap}{hb:Nat}{m:List UInt8}{al:UInt64}{S:Nat→Prop}(h:HS H hb m al)(s:Mo S H H')(hS:¬S hb):HS H' hb m al:=let⟨wt,h1,h2,h3⟩:=h.ex;⟨wt,h1,h2.up s hS,h3⟩
theorem HS.lt{H:Heap}{hb:Nat}{m:List UInt8}{al:UInt64}(h:HS H hb m al):hb<H.size:=let⟨_,_,h2,_⟩:=h.ex;h2.lt
def cat(l:List (SV×List UInt8)):List UInt8:=l.flatMap (·.2)
theorem cat_take(l:List (SV×List UInt8))(k:Nat)(h:k<l.length):cat (l.take (k+1))=cat (l.take k)++(l[k]).2:=by
 unfold cat;rw[List.take_succ_eq_append_getElem h,List.flatMap_append];simp
theorem new_ct (w0:World)(H0:Heap)
 :
 Ct Tryz.prog w0 128 #[] H0 (fun r H2=>r= .pointer (some ⟨H0.size,0,none⟩)∧HS H2 H0.size [] 0∧Nw H0 H2∧H2.size=H0.size+1):=by
 refine Ct.enter (args:=[]) Tryz.func128 rfl rfl rfl ?_;intro Q0 hret;refine CW.sr (fun aa=>?_);refine LR.an ?_;refine aa _ _ (CW.sr (fun ab=>?_));refine LR.v1 (Y.build (v:= .agg (IV.list.map V32).toArray) rfl rfl (by intro w;kernel_rfl)) ?_;refine LR.v1 (Y.build (v:= .agg (hc IV.list (List.replicate 64 0) 0 0).toArray) rfl rfl (by intro w;kernel_rfl)) ?_;refine LR.z1 (Z.boxv rfl rfl) ?_;rintro v3 H3 ⟨rfl,va3,ac,ae,ad⟩;replace va3:Var 211 H3 H0.size (hc IV.list (List.replicate 64 0) 0 0):=va3;refine LR.an ?_;refine ab _ _ ?_;refine CW.ret (hret .ret (.inr rfl) _ _ _ (res1 rfl rfl) ?_);exact⟨rfl,⟨List.replicate 64 0,by simp,by rw[run_lt IV [] (by simp)];exact va3,by rw[run_lt IV [] (by simp)];rfl⟩,ac,by rw[ad];simp⟩
theorem run_part{c x wt:List UInt8}{n:Nat}(hn:(run IV c).2.length=n)(hb:wt.take n=(run IV c).2)(hw:wt.length=64)(h:n+x.length<64):run IV (c++x)=((run IV c).1,wt.take n++x):=by
 rw[run_more,run_lt _ _ (by simp;omega),hb]
theorem run_full{c x wt:List UInt8}{n:Nat}(hn:(run IV c).2.length=n)(hb:wt.take n=(run IV c).2)(hw:wt.length=64)(h:n+x.length=64):run IV (c++x)=(compress (run IV c).1 (wt.take n++x++wt.drop (n+x.length)),[]):=by
 have hl:(wt.take n++x).length=64:=by simp;omega
 rw[run_more,←hb,run_ge _ _ (by omega),List.take_of_length_le (by omega),List.drop_of_length_le (by omega),run_lt _ _ (by simp),List.drop_of_length_le (show wt.length≤n+x.length by omega),List.append_nil]
theorem join_take{wt x:List UInt8}{n:Nat}(hw:wt.length=64)(h:n+x.length≤64):(wt.take n++x++wt.drop (n+x.length)).length=64∧(wt.take n++x++wt.drop (n+x.length)).take (n+x.length)=wt.take n++x:=by
 have hl:(wt.take n++x).length=n+x.length:=by simp;omega
 exact⟨by simp;omega,List.take_left' hl⟩
theorem write_ct(hb:Nat)(vl:Value)(m:List UInt8)(al:UInt64)(l:List (SV×List UInt8))(w0:World)(H0:Heap)
 (hS:HS H0 hb m al) (hl:Rd (fun b=>b≠hb) H0 fP 1 vl l) (hx:∀x∈l,Rd (fun b=>b≠hb) H0 fB 1 x.1.v x.2):
 Ct Tryz.prog w0 129 #[.pointer (some ⟨hb,0,none⟩),vl] H0 (fun r H2=>r= .tuple #[]∧HS H2 hb (m++cat l) (al+UInt64.ofNat (cat l).length)∧Mo (fun c=>c=hb) H0 H2):=by
 refine Ct.enter (args:=[.pointer (some ⟨hb,0,none⟩),vl]) Tryz.func129 rfl rfl rfl ?_;intro Q0 hret;have hll:=hl.len;refine CW.sr (fun ay=>?_);refine LR.m1 ?_;refine LR.v1 (Y.len hl rfl u'22 rfl) ?_;refine LR.m1 (LR.nil (ay _ _ ?_));refine CW.block (fun _ _ az _=>?_)
 refine CW.loop (fun(k:(Nat))=>[(0,.pointer (some ⟨hb,0,none⟩)),(7,vl),(8,.int .i64 l.length),(9,.int .i64 k)])
  (fun(k:(Nat)) (H:Heap)=>k≤l.length∧HS H hb (m++cat (l.take k)) (al+UInt64.ofNat (cat (l.take k)).length)∧Mo (fun c=>c=hb) H0 H)
  (fun(k:(Nat))=>l.length-k) 0 ⟨rfl,rfl,rfl,rfl,trivial⟩ ?_ ?_
 ·
  exact⟨by omega,by simpa[cat]using hS,Mo.refl _ _⟩
 intro k aS aA K3 aB aC;obtain⟨hk,hS,hm⟩:=aA;obtain⟨wt,hwt,hv,hbuf⟩:=hS.ex;have hl2:=hl.up hm (fun _ _ h1 h2=>h1 h2);refine CW.sr (fun aD=>?_);refine LR.v1 (Y.lss rfl rfl rfl) (LR.nil (aD _ _ ?_));refine CW.s2 (fun aE aF=>?_);refine CW.condp rfl (fun aG=>?_) (fun aG=>?_)
 ·
  refine CW.skip (aE _ _ (CW.s1 (fun aH=>CW.block (fun _ aI _ _=>CW.sr (fun aJ=>?_)))));refine LR.e1 (g:=fun ad=> .pointer (some ad)) (Y.indexAddr hl2 (k) rfl u'22 s'34 rfl rfl (by first|rfl|omega) (by first|omega|(simp;omega)|(simp;done))) fun aK ag=>?_;refine LR.v1 (Y.load1 ag rfl a'34 rfl) ?_;have hr0:=(hx l[k] (List.getElem_mem _)).up hm (fun _ _ h1 h2=>h1 h2);have hrl:=hr0.len;refine LR.an ?_;refine aJ _ _ (CW.sr (fun aL=>?_));refine LR.m1 ?_;refine LR.n1 ?_;refine LR.v1 (Y.FA hv.pt rfl u'211 rfl s'151) ?_;refine LR.v1 (Y.load1 (hv.pt.at 73 (hc_all rfl hwt)) rfl a'151 rfl) ?_;refine LR.m1 ?_;refine LR.v1 (Y.len hr0 rfl u'34 rfl) ?_;refine LR.v1 (Y.conv_u64 rfl u'3 u'151 rfl) ?_;refine LR.v1 (Y.add_u64 rfl rfl rfl) ?_;refine LR.n1 ?_;refine LR.v1 (Y.FA hv.pt rfl u'211 rfl s'151) ?_;refine LR.s1 (S.var1 hv 73 (_) rfl rfl rfl (rfl) s'151 (by rw[hc_len rfl hwt];omega) (hc_set_all rfl hwt)) fun av aa=>?_;obtain⟨hv,hst3⟩:=aa;replace hm:=hm.trans hst3 (fun _ _ e=>e) (fun _ _ e=>e);replace hr0:=hr0.up hst3 (fun _ _ h1 h2=>h1 h2);refine LR.nil (aL _ _ (CW.block (fun _ _ ah _=>?_)))
  refine CW.loop (fun(s_:(Value)×(List UInt8)×(List UInt8)×(List UInt8))=>match s_ with|(v,r,c,wt)=>[(0,.pointer (some ⟨hb,0,none⟩)),(5,v),(7,vl),(8,.int .i64 l.length),(9,.int .i64 k)])
   (fun(v,r,c,wt) (H:Heap)=>wt.length=64∧Var 211 H hb (hc (run IV c).1.list wt (run IV c).2.length (al+UInt64.ofNat (cat (l.take k)).length+UInt64.ofNat (l[k]).2.length))∧wt.take (run IV c).2.length=(run IV c).2∧Rd (fun b=>b≠hb) H fB 1 v r∧c++r=m++cat (l.take k)++(l[k]).2∧Mo (fun c=>c=hb) H0 H)
   (fun(v,r,c,wt)=>r.length) ((l[k]).1.v,(l[k]).2,m++cat (l.take k),wt) ⟨rfl,rfl,rfl,rfl,rfl,trivial⟩ ?_ ?_
  ·
   exact⟨hwt,hv,hbuf,hr0,rfl,hm⟩
  rintro⟨v,r,c,wt⟩ aT aM aU ab ai;obtain⟨hwt,hv,hbuf,hr,hc0,hm⟩:=aM;have hrl:=hr.len;refine CW.s2 (fun aj ak=>CW.sr (fun am=>?_));refine LR.m1 ?_;refine LR.v1 (Y.len hr rfl u'34 rfl) ?_;refine LR.v1 (Y.gtr rfl rfl rfl) (LR.nil (am _ _ ?_));refine CW.condp rfl (fun aN=>?_) (fun aN=>?_)
  ·
   refine CW.skip (aj _ _ (CW.block (fun _ ac _ _=>CW.s1 (fun ao=>?_))));have hn64:=run_rest IV c;obtain⟨n,hn⟩:∃n,(run IV c).2.length=n:=⟨_,rfl⟩;rw[hn]at hv hbuf hn64;obtain⟨kk,hkk⟩:∃kk,min r.length (64-n)=kk:=⟨_,rfl⟩;have hkl:(r.take kk).length=kk:=by simp;omega
   obtain⟨hj1,hj2⟩:=join_take (x:=r.take kk) (n:=n) hwt (by omega);refine CW.region_tail 9 rfl (by kernel_rfl) (fun T5 hT5=>?_);refine LR.m1 ?_;refine LR.n1 ?_;refine LR.v1 (Y.FA hv.pt rfl u'211 rfl s'209) ?_;refine LR.m1 ?_;refine LR.n1 ?_;refine LR.v1 (Y.FA hv.pt rfl u'211 rfl s'3) ?_;refine LR.v1 (Y.load1 (hv.pt.at 72 (hc_n rfl hwt)) rfl a'3 rfl) ?_;refine LR.v1 ((Y.sliceArr (F:=fun c=>c=hb) (f:=fB) (xs:=wt) (hv.pt.drop 8) rfl hv.lt (hwt) (fun i x h=>hc_wait rfl i x h) (n) (64) rfl (fun w=> .inl (u'209 w)) s'5 rfl (.inr ⟨_,_,_,rfl,rfl,by first|rfl|omega⟩) (.inl ⟨rfl,rfl⟩) (by omega) (by omega) (by decide)).1 _) ?_;rw[if_neg (by omega)];refine LR.m1 ?_;refine LR.nil (hT5 _ ?_);refine LR.z1 (Z.copy (off:=8+n) hv hr fB_len fB_one rfl Tryz.underlying34 s'5 rfl rfl (by rw[hc_len rfl hwt];omega) (kk) (by omega)) fun aV aW aO=>?_;obtain⟨rfl,hv,ae⟩:=aO;rw[hc_splice rfl hwt (by omega)]at hv;replace hr:=hr.up ae (fun _ _ h1 h2=>h1 h2);replace hm:=hm.trans ae (fun _ _ e=>e) (fun _ _ e=>e);refine LR.an ?_;refine ao _ _ (CW.sr (fun ap=>?_));refine LR.m1 ?_;refine LR.n1 ?_;refine LR.v1 (Y.FA hv.pt rfl u'211 rfl s'3) ?_;refine LR.v1 (Y.load1 (hv.pt.at 72 (hc_n rfl hj1)) rfl a'3 rfl) ?_;refine LR.m1 ?_;refine LR.v1 (Y.addi rfl rfl rfl (by omega)) ?_;refine LR.n1 ?_;refine LR.v1 (Y.FA hv.pt rfl u'211 rfl s'3) ?_;refine LR.s1 (S.var1 hv 72 (hc (run IV c).1.list (wt.take n++r.take kk++wt.drop (n+(r.take kk).length)) (n+kk) (al+UInt64.ofNat (cat (l.take k)).length+UInt64.ofNat (l[k]).2.length)) rfl rfl rfl (rfl) s'3 (by rw[hc_len rfl hj1];omega) (by rw[←hc_set_n (m:=n+kk) (n:=n) rfl hj1,Int.natCast_add])) fun aP aq=>?_;obtain⟨hv,aw⟩:=aq;replace hr:=hr.up aw (fun _ _ h1 h2=>h1 h2);replace hm:=hm.trans aw (fun _ _ e=>e) (fun _ _ e=>e);refine LR.nil (ap _ _ (CW.sr (fun ar=>?_)));refine LR.m1 ?_;refine LR.m1 ?_;refine LR.e1 (g:=fun v=>v) (Y.slice hr (kk) (_) rfl u'34 s'5 rfl (.inr ⟨_,_,_,rfl,rfl,by first|rfl|omega⟩) (.inl ⟨rfl,rfl⟩) (by omega) (by omega)) fun ax rd46=>?_;rw[List.take_length]at rd46;refine LR.an ?_;refine ar _ _ (CW.sr (fun au=>?_));refine LR.m1 ?_;refine LR.n1 ?_;refine LR.v1 (Y.FA hv.pt rfl u'211 rfl s'3) ?_;refine LR.v1 (Y.load1 (hv.pt.at 72 (hc_n rfl hj1)) rfl a'3 rfl) ?_;refine LR.v1 (Y.eql rfl rfl rfl) (LR.nil (au _ _ ?_));refine CW.condp rfl (fun aQ=>?_) (fun aQ=>?_)
   ·
    refine CW.region ?_;refine LR.m1 ?_;refine LR.call rfl c'149 rfl (Wd.u rfl) rfl rfl (block_ct hb _ _ _ _ w0 _ hv hj1) (fun aX aY aR=>?_);obtain⟨rfl,hv,af⟩:=aR;replace rd46:=rd46.up af (fun _ _ h1 h2=>h1 h2);replace hm:=hm.trans af (fun _ _ e=>e) (fun _ _ e=>e);refine LR.nil (ac _ _ ?_);have hrn:=run_full (x:=r.take kk) (c:=c) (wt:=wt) hn hbuf hwt (by omega);refine QN.sub (ab (ax,r.drop kk,c++r.take kk,wt.take n++r.take kk++wt.drop (n+(r.take kk).length)) _ ?_ ?_) ⟨rfl,rfl,rfl,(iv (by omega)),(iv (by omega)),trivial⟩
    ·exact⟨hj1,by rw[hrn];exact hv,by rw[hrn];rfl,rd46,by rw[List.append_assoc,List.take_append_drop];exact hc0,hm⟩
    ·show(r.drop kk).length<r.length;rw[List.length_drop];omega
   ·
    refine CW.skip (ac _ _ ?_);have hrn:=run_part (x:=r.take kk) (c:=c) (wt:=wt) hn hbuf hwt (by omega);have hl2:(wt.take n++r.take kk).length=n+kk:=by rw[List.length_append,List.length_take];omega
    refine QN.sub (ab (ax,r.drop kk,c++r.take kk,wt.take n++r.take kk++wt.drop (n+(r.take kk).length)) _ ?_ ?_) ⟨rfl,rfl,rfl,(iv (by omega)),(iv (by omega)),trivial⟩
    ·exact⟨hj1,by rw[hrn];simp only;rw[hl2];exact hv,by rw[hrn];simp only;rw[hl2];simpa only[hkl]using hj2,rd46,by rw[List.append_assoc,List.take_append_drop];exact hc0,hm⟩
    ·show(r.drop kk).length<r.length;rw[List.length_drop];omega
  ·
   have hr0:r=[]:=List.eq_nil_of_length_eq_zero (by omega);subst hr0;rw[List.append_nil]at hc0;subst hc0;refine CW.exit (ak (.exit 2) nofun _ _ (ai (.exit 2) nofun _ _ (ah _ _ ?_)));refine aI _ _ (aH _ _ (CW.region ?_));refine LR.v1 (Y.addi rfl rfl rfl (by omega)) ?_;refine LR.m1 (LR.nil ?_);refine QN.sub (aB (k+1) _ ?_ ?_) ⟨rfl,rfl,(iv (by omega)),(iv (by omega)),trivial⟩
   ·exact⟨by omega,⟨wt,hwt,by rw[cat_take l k (by omega),←List.append_assoc,List.length_append,UInt64.ofNat_add,←UInt64.add_assoc];exact hv,by rw[cat_take l k (by omega),←List.append_assoc];exact hbuf⟩,hm⟩
   ·omega
 ·
  refine CW.exit (aF (.exit 0) nofun _ _ (aC (.exit 0) nofun _ _ (az _ _ ?_)));refine hret .normal (.inl rfl) _ _ _ (res0 rfl) ?_;have hkl:k=l.length:=by omega
  subst hkl;rw[List.take_length]at hS;exact⟨rfl,hS,hm⟩
end SumD

namespace SumE
open E Go.RowKit SumA SumB SumC SumD
set_option maxRecDepth 100000 in
theorem inf34:Inf Tryz.prog 34 5 1 1:=⟨Tryz.underlying34,_,_,rfl,rfl,rfl,rfl,rfl⟩
theorem rturn_nw(x:UInt32)(j:Nat)(w0:World)(H0:Heap)(h0:0<j)(h1:j<32):Ct Tryz.prog w0 121 #[.int .u32 x.toNat,.int .i64 j] H0 (fun r H2=>r= .int .u32 (rotr x j).toNat∧Nw H0 H2):=
 (rturn_ct x j w0 H0 h0 h1).mono fun r H' ⟨h1,h2⟩=>⟨h1,by rw[h2];exact Nw.refl _⟩
def numL:Nat→UInt64→List UInt8
 |0,_=>[]
 |j+1,x=>UInt8.ofNat (shrw_u64 x (8*j)).toNat::numL j x
theorem numL_len:∀(n:Nat) (x:UInt64),(numL n x).length=n
 |0,_=>rfl
 |n+1,x=>by rw[numL,List.length_cons,numL_len]
theorem num_ct(k:Nat)(v:Value)(xs:List UInt8)(n:Nat)(x:UInt64)(w0:World)(H0:Heap)
 (how:Ow k 5 H0 fB 1 v xs) (hn:n≤8) (hx:xs.length≤1099511627776):
 Ct Tryz.prog w0 97 #[v,.int .i64 n,.int .u64 x.toNat] H0 (fun r H2=>∃v2:Value,∃k2:Nat,r=v2∧(Ow k2 5 H2 fB 1 v2 (xs++numL n x))∧(k2=0∨k2=k∨H0.size<k2)∧Mo (fun c=>c+1=k) H0 H2):=by
 refine Ct.enter (args:=[v,.int .i64 n,.int .u64 x.toNat]) Tryz.func97 rfl rfl rfl ?_;intro Q0 hret;have ab:=how.le;have hm0:Mo (fun c=>c+1=k) H0 H0:=Mo.refl _ _;refine CW.sr (fun al=>?_);refine LR.an ?_;refine al _ _ (CW.s1 (fun am=>CW.sr (fun ao=>?_)));refine LR.m1 ?_;refine LR.v1 (Y.subi rfl rfl rfl (by omega)) ?_;refine LR.an ?_;refine ao _ _ (CW.block (fun _ _ ap _=>?_))
 refine CW.loop (fun(s_:(Nat)×(Value)×(Nat)×(List UInt8))=>match s_ with|(j,v',k',ys)=>[(0,v'),(2,.int .u64 x.toNat),(7,.int .i64 ((j:Int)-1))])
  (fun(j,v',k',ys) (H:Heap)=>(j≤n)∧(Ow k' 5 H fB 1 v' ys)∧(k'=0∨k'=k∨H0.size<k')∧(ys++numL j x=xs++numL n x)∧Mo (fun c=>c+1=k) H0 H)
  (fun(j,v',k',ys)=>j) (n,v,k,xs) ⟨rfl,rfl,rfl,trivial⟩ ?_ ?_
 ·
  exact⟨(by omega),how,(by omega),rfl,Mo.refl _ _⟩
 rintro⟨j,v',k',ys⟩ aq ar K5 au av;obtain⟨hj,how,hk,hys,aa⟩:=ar;replace hm0:=hm0.trans aa (fun b hb0 hb1=>hb1) (fun b hb0 hb1=>by omega);have aJ:=aa.size;have ab:=how.le;have hyl:ys.length+j=xs.length+n:=by have:=congrArg List.length hys;simpa[numL_len]using this
 refine CW.s2 (fun aw ax=>CW.sr (fun ay=>?_));refine LR.m1 ?_;refine LR.v1 (Y.geq rfl rfl rfl) (LR.nil (ay _ _ ?_));refine CW.condp rfl (fun az=>?_) (fun az=>?_)
 ·
  obtain⟨j,rfl⟩:∃q,j=q+1:=⟨j-1,by omega⟩;refine CW.skip (aw _ _ (CW.s1 (fun aA=>CW.block (fun _ aB _ _=>CW.region ?_))));refine LR.m1 ?_;refine LR.m1 ?_;refine LR.m1 ?_;refine LR.v1 (Y.muli rfl rfl rfl (by omega)) ?_;refine LR.v1 (Y.shr_u64 (8*j) rfl rfl rfl (by first|rfl|omega) (by omega)) ?_;refine LR.v1 (Y.conv_u8 rfl u'151 u'5 rfl) ?_;refine LR.z1 (Z.litw _ ([UInt8.ofNat (shrw_u64 x (8*j)).toNat]) rfl inf34 rfl rfl rfl (by decide) (by decide) fB_len fB_one (rfl)) fun aK aC aD=>?_;obtain⟨ae,ac,aE,ai⟩:=aD;have ak:aC.size=aq.size+1:=by rw[ai];simp
  replace hm0:=hm0.trans ac (fun b hb0 hb1=>hb1) (fun b hb0 hb1=>hb1.elim);replace how:=how.nw ac
  try replace aa:=aa.trans ac (fun b hb0 hb1=>hb1) (fun b hb0 hb1=>hb1.elim)
  have aL:=ac.size;have af:=ae.le;refine LR.z1 (Z.apnd how ae.rd rfl inf34 rfl rfl (by first|omega|(simp;omega)) (by first|omega|(simp;omega))) fun aF aM aG=>?_;obtain⟨aH,ag,aI,ad⟩:=aG;replace hm0:=hm0.trans ad (fun b hb0 hb1=>hb1) (fun b hb0 hb1=>by omega)
  try replace aa:=aa.trans ad (fun b hb0 hb1=>hb1) (fun b hb0 hb1=>by omega)
  have aN:=ad.size;have ah:=ag.le;refine LR.an ?_;refine aB _ _ (aA _ _ (CW.region ?_));refine LR.m1 ?_;refine LR.v1 (Y.subi rfl rfl rfl (by omega)) ?_;refine LR.an ?_;refine QN.sub (au (j,aF,aH,ys++[UInt8.ofNat (shrw_u64 x (8*j)).toNat]) _ ?_ ?_) ⟨rfl,(iv (by omega)),(iv (by omega)),trivial⟩
  ·exact⟨(by omega),ag,(by omega),by rw[←hys,List.append_assoc];rfl,aa⟩
  ·first|omega|(simp only;omega)|(simp;omega)
 ·
  obtain rfl:j=0:=by omega
  rw[numL,List.append_nil]at hys;subst hys;refine CW.exit (ax (.exit 0) nofun _ _ (av (.exit 0) nofun _ _ (ap _ _ ?_)));refine am _ _ (CW.sr (fun aj=>?_));refine LR.m1 ?_;refine LR.an ?_;refine aj _ _ ?_;refine CW.ret (hret .ret (.inr rfl) _ _ _ (res1 rfl rfl) ?_);exact⟨v',k',rfl,how,(by omega),hm0⟩
end SumE
end Go.Proofs.YtdliddjkacbggaaGreatDoor
