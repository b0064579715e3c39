/-
  Contracts of functions of the program, and plain laws: put together of several texts.
-/
import Derived.Test.YtncnignagcoahaaGreatDoorGa
import Derived.Test.YtncnignagcoahaaGreatDoorMcl
import Derived.ProofKit
import Derived.OpenShut
import Derived.ShutString
import Derived.ChangeOld
import Derived.Below
import Derived.JoinedCond
import Derived.Deep.Slices
import Derived.ChangeSame
import Derived.Lib.AppendZerosOnto
set_option linter.unusedVariables false
set_option linter.unusedSimpArgs false
set_option linter.unusedSectionVars false
set_option linter.defProp false
set_option maxHeartbeats 8000000
set_option maxRecDepth 100000
namespace Go.Proofs.YtncnignagcoahaaGreatDoor.E
open Go.RowKit Go.Proofs.Tryz
variable{n k:Nat}{P:Program}{H V:Heap}{F:Nat->Prop}{aP:Type}{bL:Addr}{vq33z bQ:List Nat}
def z1:∀(up s:List UInt8),(up++[47]).isPrefixOf s=decide (up.length<s.length/\s.take up.length=up/\(s.getD up.length 0).toNat=47)
 |[],[]=>by simp
 |[],c::s=>by
  have e:(47=c)↔(c.toNat=47):=⟨fun h=>by rw[<-h];rfl,fun h=>by apply qx;rw[h];rfl⟩;by_cases h:47=c;rw[fB];simp[List.isPrefixOf,h];exact⟨by simp,o,e.1 h⟩;rw[fG];simp[List.isPrefixOf,h];rintro⟨_,_,k⟩;exact h<|e.2 (by simpa using k)
 |d::up,[]=>by simp
 |d::up,c::s=>by
  have ih:=z1 up s;rw[me,List.isPrefixOf,ih];by_cases h:d=c;subst h;simp;have k:¬c=d:=fun e=>h e.symm;simp[h,k]
def LV{s up:List UInt8}(h:up.length<s.length)(k:s.take up.length=up):Value.bool (decide (((s[up.length]).toNat:Int)=47))= .bool ((up++[47]).isPrefixOf s):=by
 rw[z1];exact eX ⟨fun e=>⟨h,k,by rw[ny h];omega⟩,fun e=>by have:=e.2.2;rw[ny h]at this;omega⟩
def Ep{s up:List UInt8}(h:¬(up.length<s.length/\s.take up.length=up)):Value.bool false= .bool ((up++[47]).isPrefixOf s):=by
 rw[z1,fG (fun e=>h ⟨e.1,e.2.1⟩)]
def m2(s J:List UInt8):Bool:=(s++[47]).isPrefixOf J||(J++[47]).isPrefixOf s
def base(s:List UInt8)(l:List (List UInt8)):Int:=if fi s≠0 then fi s else if s∈l then 8 else 0
def mF(s:List UInt8)(l:List (List UInt8)):Int:=if base s l≠0 then base s l else if l.any (m2 s)=true then 13 else 0
def HR{s:List UInt8}{l:List (List UInt8)}{j:Nat}(h:s∉l.take j)(n:j<l.length)(k:s≠l[j]):s∉l.take (j+1):=by
 rw[fc n];simp only[gR,fm,not_or];exact⟨h,k⟩
def PS{v:Value}{x:List UInt8}{l:List (List UInt8)}{w0:World}(k:b_ V ha 1 v l):
 a8 prog w0 232 #[v,aJ x] V (fun r F=>∃n:Int,r= .int .i64 n/\((0<=n↔x∈l)/\ -1<=n/\n<=9223372036854775807)/\an V F):=by
 refine G.bN func232 o fun A=>?_;have k:=k.cD;have S:=k.len;refine G.O o (bz k lr) ?_
 refine G.bd o (fun(j:Nat)=>[(0,v),(1,aJ x),(7,.int .i64 l.length),(8,.int .i64 j)])
  (fun(j:Nat) (H:Heap)=>(j<=l.length)/\x∉l.take j/\an V H)
  (fun(j:Nat)=>l.length-j) 0 ⟨I,(fun h=>by simp at h),W.refl _ _⟩ ?_
 rintro j P ⟨R,C,E⟩ N L;obtain⟨k,A,_⟩:=bG E k A;refine G.ip o ?_ ?_<;>intro Q;refine G.pp o (M.cw k j o lr b7 o o) fun O K=>G.O o (aY K.T cm)<|G.ae 0 o (M.ox o o o)<|G.ip o (fun B=>?_) fun B=>?_;exact G.rt o ⟨j,o,⟨⟨fun _=>by rw[B];exact cS _,fun _=>by omega⟩,by omega,by omega⟩,A⟩;exact G.O o bB<|G.aQ o<|L (j+1) _ ⟨I,HR C I (by simpa using B),E⟩;exact G.rt o ⟨-1,o,⟨⟨fun h=>by omega,fun h=>by rw[e5 I]at C;exact absurd h C⟩,by omega,by omega⟩,A⟩
def Oh{v:Value}{x:List UInt8}{l:List (List UInt8)}{w0:World}(k:b_ H ha 1 v l):
 a8 prog w0 197 #[v,aJ x] H (fun r A=>r= .bool (decide (x∈l))/\an H A):=by
 refine G.bN func197 o fun n=>?_;have k:=k.cD;have E:=k.len;refine G.aC o Nc (PS k.any) ?_;rintro F C ⟨n7,rfl,B,ac⟩;have n:=n.al ac;exact G.rt o ⟨eX B.1,n⟩
def Pw{c:UInt8}{w0:World}:
 a8 prog w0 164 #[.int .u8 c.toNat] H (fun r C=>r= .bool (ec c)/\an H C):=by
 refine G.bN func164 o fun k=>G.sp 4 5 o (fun g5=>?_) (fun g5=>?_);refine G.sp 4 9 o ?_ ?_<;>intro g9;exact G.rt o ⟨by first|exact fj I|exact gQ I|(rw[ec];exact eX I),k⟩;refine G.sp 3 12 o ?_ ?_<;>intro E;refine G.sp 5 17 o ?_ ?_<;>intro F;exact G.rt o ⟨by first|exact fj I|exact gQ I|(rw[ec];exact eX I),k⟩;refine G.sp 3 20 o ?_ ?_<;>intro A;refine G.sp 5 25 o ?_ ?_<;>intro B;exact G.rt o ⟨by first|exact fj I|exact gQ I|(rw[ec];exact eX I),k⟩;refine G.sp 4 29 o ?_ ?_<;>intro n;exact G.rt o ⟨by first|exact fj I|exact gQ I|(rw[ec];exact eX I),k⟩;refine G.sp 4 33 o ?_ ?_<;>intro ac;exact G.rt o ⟨by first|exact fj I|exact gQ I|(rw[ec];exact eX I),k⟩;refine G.sp 4 37 o ?_ ?_<;>intro ad;exact G.rt o ⟨by first|exact fj I|exact gQ I|(rw[ec];exact eX I),k⟩;exact G.rt o ⟨by first|exact fj I|exact gQ I|(rw[ec];exact eX I),k⟩;refine G.sp 9 29 o ?_ ?_<;>intro n;exact G.rt o ⟨by first|exact fj I|exact gQ I|(rw[ec];exact eX I),k⟩;refine G.sp 4 33 o ?_ ?_<;>intro ac;exact G.rt o ⟨by first|exact fj I|exact gQ I|(rw[ec];exact eX I),k⟩;refine G.sp 4 37 o ?_ ?_<;>intro ad;exact G.rt o ⟨by first|exact fj I|exact gQ I|(rw[ec];exact eX I),k⟩;exact G.rt o ⟨by first|exact fj I|exact gQ I|(rw[ec];exact eX I),k⟩;refine G.sp 8 20 o ?_ ?_<;>intro A;refine G.sp 5 25 o ?_ ?_<;>intro B;exact G.rt o ⟨by first|exact fj I|exact gQ I|(rw[ec];exact eX I),k⟩;refine G.sp 4 29 o ?_ ?_<;>intro n;exact G.rt o ⟨by first|exact fj I|exact gQ I|(rw[ec];exact eX I),k⟩;refine G.sp 4 33 o ?_ ?_<;>intro ac;exact G.rt o ⟨by first|exact fj I|exact gQ I|(rw[ec];exact eX I),k⟩;refine G.sp 4 37 o ?_ ?_<;>intro ad;exact G.rt o ⟨by first|exact fj I|exact gQ I|(rw[ec];exact eX I),k⟩;exact G.rt o ⟨by first|exact fj I|exact gQ I|(rw[ec];exact eX I),k⟩;refine G.sp 9 29 o ?_ ?_<;>intro n;exact G.rt o ⟨by first|exact fj I|exact gQ I|(rw[ec];exact eX I),k⟩;refine G.sp 4 33 o ?_ ?_<;>intro ac;exact G.rt o ⟨by first|exact fj I|exact gQ I|(rw[ec];exact eX I),k⟩;refine G.sp 4 37 o ?_ ?_<;>intro ad;exact G.rt o ⟨by first|exact fj I|exact gQ I|(rw[ec];exact eX I),k⟩;exact G.rt o ⟨by first|exact fj I|exact gQ I|(rw[ec];exact eX I),k⟩;refine G.sp 7 12 o ?_ ?_<;>intro E;refine G.sp 5 17 o ?_ ?_<;>intro F;exact G.rt o ⟨by first|exact fj I|exact gQ I|(rw[ec];exact eX I),k⟩;refine G.sp 3 20 o ?_ ?_<;>intro A;refine G.sp 5 25 o ?_ ?_<;>intro B;exact G.rt o ⟨by first|exact fj I|exact gQ I|(rw[ec];exact eX I),k⟩;refine G.sp 4 29 o ?_ ?_<;>intro n;exact G.rt o ⟨by first|exact fj I|exact gQ I|(rw[ec];exact eX I),k⟩;refine G.sp 4 33 o ?_ ?_<;>intro ac;exact G.rt o ⟨by first|exact fj I|exact gQ I|(rw[ec];exact eX I),k⟩;refine G.sp 4 37 o ?_ ?_<;>intro ad;exact G.rt o ⟨by first|exact fj I|exact gQ I|(rw[ec];exact eX I),k⟩;exact G.rt o ⟨by first|exact fj I|exact gQ I|(rw[ec];exact eX I),k⟩;refine G.sp 9 29 o ?_ ?_<;>intro n;exact G.rt o ⟨by first|exact fj I|exact gQ I|(rw[ec];exact eX I),k⟩;refine G.sp 4 33 o ?_ ?_<;>intro ac;exact G.rt o ⟨by first|exact fj I|exact gQ I|(rw[ec];exact eX I),k⟩;refine G.sp 4 37 o ?_ ?_<;>intro ad;exact G.rt o ⟨by first|exact fj I|exact gQ I|(rw[ec];exact eX I),k⟩;exact G.rt o ⟨by first|exact fj I|exact gQ I|(rw[ec];exact eX I),k⟩;refine G.sp 8 20 o ?_ ?_<;>intro A;refine G.sp 5 25 o ?_ ?_<;>intro B;exact G.rt o ⟨by first|exact fj I|exact gQ I|(rw[ec];exact eX I),k⟩;refine G.sp 4 29 o ?_ ?_<;>intro n;exact G.rt o ⟨by first|exact fj I|exact gQ I|(rw[ec];exact eX I),k⟩;refine G.sp 4 33 o ?_ ?_<;>intro ac;exact G.rt o ⟨by first|exact fj I|exact gQ I|(rw[ec];exact eX I),k⟩;refine G.sp 4 37 o ?_ ?_<;>intro ad;exact G.rt o ⟨by first|exact fj I|exact gQ I|(rw[ec];exact eX I),k⟩;exact G.rt o ⟨by first|exact fj I|exact gQ I|(rw[ec];exact eX I),k⟩;refine G.sp 9 29 o ?_ ?_<;>intro n;exact G.rt o ⟨by first|exact fj I|exact gQ I|(rw[ec];exact eX I),k⟩;refine G.sp 4 33 o ?_ ?_<;>intro ac;exact G.rt o ⟨by first|exact fj I|exact gQ I|(rw[ec];exact eX I),k⟩;refine G.sp 4 37 o ?_ ?_<;>intro ad;exact G.rt o ⟨by first|exact fj I|exact gQ I|(rw[ec];exact eX I),k⟩;exact G.rt o ⟨by first|exact fj I|exact gQ I|(rw[ec];exact eX I),k⟩
def Er{s up:List UInt8}{w0:World}:
 a8 prog w0 203 #[aJ s,aJ up] H (fun r A=>r= .bool ((up++[47]).isPrefixOf s)/\an H A):=by
 refine G.bN func203 o fun k=>G.O o (hn e6) (G.O o (hn e6)<|G.sp 2 10 o (fun ad=>?_) fun ad=>?_);refine G.O o (hn e6)<|G.O o (M.Ds (0) up.length o e6 o (.inl ⟨o,o⟩) (.inr ⟨_,_,_,o,o,by first|rfl|omega⟩) I I)<|G.ae 1 o (M.ox o o o)<|G.sp 2 18 o ?_ ?_<;>intro n;exact G.O o (hn e6)<|G.O o (l1 up.length e6)<|G.rt o ⟨LV I (by simpa using n),k⟩;exact G.rt o ⟨Ep (fun h=>n (by simpa using h.2)),k⟩;exact G.rt o ⟨Ep (fun h=>by omega),k⟩
def za(s:List UInt8){w0:World}(Y:s.length<=9223372036854775807):
 a8 prog w0 83 #[aJ s] V (fun r aE=>r= .int .i64 (fi s)/\an V aE):=by
 refine G.bN func83 o fun k=>G.O o (hn e6) (G.sp 2 9 o (fun g9=>?_) fun g9=>?_);exact G.it o<|G.rt o ⟨by rw[N8 I],k⟩;refine G.O o (hn e6)<|G.ip o ?_ ?_<;>intro aT;exact G.rt o ⟨by rw[N7 I],k⟩
 refine G.bd o (fun(i:Nat)=>[(0,aJ s),(3,.int .i64 i)])
  (fun(i:Nat) (H:Heap)=>(i<=s.length)/\(∀j,j<i->ue s j)/\an V H)
  (fun(i:Nat)=>s.length-i) 0 ⟨I,(fun j h=>by omega),W.refl _ _⟩ ?_
 rintro i U ⟨a1,aC,n⟩ aQ aP;obtain⟨k,_⟩:=cv n k;refine G.O o (hn e6)<|G.ip o ?_ ?_<;>intro c9;have A:i<s.length:=by omega
 have ex:s.getD i 0=s[i]:=ny A
 refine G.bw 1 o (fun(fb:Bool)=>[(0,aJ s),(3,.int .i64 i),(4,.bool fb)])
  (fun(fb:Bool) (H:Heap)=>(fb=true↔vt s i)/\an U H) (fun _ ax=>?_) ?_
 have aq:an U U:=W.refl _ _;refine G.sp 3 22 o ?_ ?_<;>intro aV;exact G.aQ o<|ax true _ ⟨⟨fun _=> .inl I,fun _=>rfl⟩,aq⟩;exact G.O o (M.cast (v2:= .int .i64 ((i-1:Nat):Int)) eA<|di I)<|G.O o (l1 (i-1) e6)<|G.aQ o<|ax (decide (((s[i-1]' I).toNat:Int)=47)) _ ⟨⟨fun h=> .inr (by rw[ny I];have:=jS h;omega),fun h=>fB (by rcases h with h|h;omega;rw[ny I]at h;omega)⟩,aq⟩;intro fb Z aN;obtain⟨al,aH⟩:=aN;obtain⟨k,n,_⟩:=bG aH k n
 refine G.bw 0 o (fun(ed:Bool)=>[(0,aJ s),(3,.int .i64 i),(4,.bool fb),(5,.bool ed)])
  (fun(ed:Bool) (H:Heap)=>(ed=true↔yC s i)/\an Z H) (fun _ ay=>?_) ?_
 have av:an Z Z:=W.refl _ _;refine G.O o (hn e6)<|G.O o (M.cast (v2:= .int .i64 ((s.length-1:Nat):Int)) eA<|di I)<|G.sp 2 34 o ?_ ?_<;>intro aX;exact G.aQ o<|ay true _ ⟨⟨fun _=> .inl I,fun _=>rfl⟩,av⟩;exact G.O o (M.cast (v2:= .int .i64 ((i+1:Nat):Int)) bB<|di I)<|G.O o (l1 (i+1) e6)<|G.aQ o<|ay (decide (((s[i+1]' I).toNat:Int)=47)) _ ⟨⟨fun h=> .inr (by rw[ny I];have:=jS h;omega),fun h=>fB (by rcases h with h|h;omega;rw[ny I]at h;omega)⟩,av⟩;intro ed a0 aO;obtain⟨aB,am⟩:=aO;obtain⟨k,n,_⟩:=bG am k n;refine G.O o (l1 i e6)<|G.aC o MS (Pw) ?_;rintro aZ a3 ⟨rfl,a4⟩;obtain⟨k,n,_⟩:=bG a4 k n;refine G.O o e7<|G.ci o ?_ ?_<;>intro O;exact G.rt o ⟨by rw[wB A (fun h=>by have:=h.1;rw[ex]at this;rw[this]at O;cases O)],k⟩
 refine G.bw 0 o (fun(bX:Bool)=>[(0,aJ s),(3,.int .i64 i),(4,.bool fb),(5,.bool ed),(47,.bool bX)])
  (fun(bX:Bool) (H:Heap)=>(bX=true↔((s.getD i 0).toNat=47/\(fb=true\/i+1=s.length)))/\an a3 H) (fun _ K=>?_) ?_
 have ap:an a3 a3:=W.refl _ _;refine G.O o (l1 i e6)<|G.sp 2 52 o ?_ ?_<;>intro bT;refine G.sb 2 54 o ?_ ?_<;>intro P;exact G.aQ o<|K true _ ⟨⟨fun _=>⟨by rw[ex];omega,.inl P⟩,fun _=>rfl⟩,ap⟩;exact G.O o (hn e6)<|G.O o (M.cast (v2:= .int .i64 ((s.length-1:Nat):Int)) eA<|di I)<|G.aQ o<|K (decide ((i:Int)=((s.length-1:Nat):Int))) _ ⟨⟨fun h=>⟨by rw[ex];omega,.inr (by have:=jS h;omega)⟩,fun h=>fB (by rcases h.2 with h|h;rw[h]at P;cases P;omega)⟩,ap⟩;exact G.aQ o<|K false _ ⟨⟨fun h=>(by cases h),fun h=>by have:=h.1;rw[ex]at this;omega⟩,ap⟩;intro bX X aU;obtain⟨ah,aF⟩:=aU;obtain⟨k,n,_⟩:=bG aF k n;refine G.ci o ?_ ?_<;>intro Q;exact G.rt o ⟨by rw[wB A (fun h=>h.2.1 ⟨(ah.1 Q).1,(ah.1 Q).2.imp al.1 id⟩)],k⟩
 refine G.bw 0 o (fun(bM:Bool)=>[(0,aJ s),(3,.int .i64 i),(5,.bool ed),(62,.bool bM)])
  (fun(bM:Bool) (H:Heap)=>(bM=true↔(fb=true/\((s.getD i 0).toNat=46\/(s.getD i 0).toNat=45)))/\an X H) (fun _ L=>?_) ?_
 have aa:an X X:=W.refl _ _;refine G.sb 2 64 o ?_ ?_<;>intro B;refine G.O o (l1 i e6)<|G.sp 2 69 o ?_ ?_<;>intro br;exact G.aQ o<|L true _ ⟨⟨fun _=>⟨B,.inl (by rw[ex];omega)⟩,fun _=>rfl⟩,aa⟩;exact G.O o (l1 i e6)<|G.aQ o<|L (decide ((s[i].toNat:Int)=45)) _ ⟨⟨fun h=>⟨B,.inr (by rw[ex];have:=jS h;omega)⟩,fun h=>fB (by have:=h.2;rw[ex]at this;omega)⟩,aa⟩;exact G.aQ o<|L false _ ⟨⟨fun h=>(by cases h),fun h=>by rw[h.1]at B;cases B⟩,aa⟩;intro bM ac aL;obtain⟨ai,aG⟩:=aL;obtain⟨k,n,_⟩:=bG aG k n;refine G.ci o ?_ ?_<;>intro R;exact G.rt o ⟨by rw[wB A (fun h=>h.2.2.1 ⟨al.1 (ai.1 R).1,(ai.1 R).2⟩)],k⟩
 refine G.bw 0 o (fun(C:Bool)=>[(0,aJ s),(3,.int .i64 i),(76,.bool C)])
  (fun(C:Bool) (H:Heap)=>(C=true↔(ed=true/\(s.getD i 0).toNat=46))/\an ac H) (fun _ az=>?_) ?_
 have aw:an ac ac:=W.refl _ _;refine G.sb 2 78 o ?_ ?_<;>intro S;exact G.O o (l1 i e6)<|G.aQ o<|az (decide ((s[i].toNat:Int)=46)) _ ⟨⟨fun h=>⟨S,by rw[ex];have:=jS h;omega⟩,fun h=>fB (by have:=h.2;rw[ex]at this;omega)⟩,aw⟩;exact G.aQ o<|az false _ ⟨⟨fun h=>(by cases h),fun h=>by rw[h.1]at S;cases S⟩,aw⟩;intro C ad bt;obtain⟨ak,aI⟩:=bt;obtain⟨k,n,_⟩:=bG aI k n;refine G.ci o ?_ ?_<;>intro T;exact G.rt o ⟨by rw[wB A (fun h=>h.2.2.2.1 ⟨aB.1 (ak.1 T).1,(ak.1 T).2⟩)],k⟩
 refine G.bw 0 o (fun(E:Bool)=>[(0,aJ s),(3,.int .i64 i),(84,.bool E)])
  (fun(E:Bool) (H:Heap)=>(E=true↔((s.getD i 0).toNat=46/\0<i/\(s.getD (i-1) 0).toNat=46))/\an ad H) (fun _ N=>?_) ?_
 have ae:an ad ad:=W.refl _ _;refine G.O o (l1 i e6)<|G.sp 2 89 o ?_ ?_<;>intro bs;refine G.sp 4 93 o ?_ ?_<;>intro aY;exact G.O o (M.cast (v2:= .int .i64 ((i-1:Nat):Int)) eA<|di I)<|G.O o (l1 (i-1) e6)<|G.aQ o<|N (decide (((s[i-1]' I).toNat:Int)=46)) _ ⟨⟨fun h=>⟨by rw[ex];omega,by omega,by rw[ny I];have:=jS h;omega⟩,fun h=>fB (by have:=h.2.2;rw[ny I]at this;omega)⟩,ae⟩;exact G.aQ o<|N false _ ⟨⟨fun h=>(by cases h),fun h=>by have ag:=h.1;have F:=h.2.1;rw[ex]at ag;omega⟩,ae⟩;exact G.aQ o<|N false _ ⟨⟨fun h=>(by cases h),fun h=>by have ag:=h.1;have F:=h.2.1;rw[ex]at ag;omega⟩,ae⟩;intro E aR aM;obtain⟨aA,aK⟩:=aM;obtain⟨k,n,_⟩:=bG aK k n;refine G.ci o ?_ ?_<;>intro a9;exact G.rt o ⟨by rw[wB A (fun h=>h.2.2.2.2<|aA.1 a9)],k⟩;exact G.O o bB<|G.aQ o<|aP (i+1) _ ⟨I,(fun j h=>by rcases sn j i with F|F;exact aC j F;obtain rfl:j=i:=I;exact Rv (by rw[ex];simpa using O) al aB ah ai ak aA Q R T a9),n⟩;exact G.rt o ⟨by rw[Sg I I (fun j a6=>aC j I)],k⟩
def Po{s:List UInt8}{v:Value}{l:List (List UInt8)}{mx_:Int}{w0:World}(aV:gL mx_ V)(X:bk (fun b=>b=0) V.size)(n:b_ V ha 1 v l)(Y:s.length<=140737488355328)(Z:∀x∈l,x.length<=140737488355328):
 a8 prog w0 150 #[aJ s,v] V (fun r N=>r= .int .i64 (mF s l)/\an V N):=by
 refine G.bN func150 o fun k=>?_;have n:=n.cD;have ax:=n.len;refine G.aC o xx (xD s aV X I) ?_;rintro v9 aa ⟨rfl,P⟩;obtain⟨n,k,_⟩:=bG P n k;refine G.ip o ?_ ?_<;>intro ae;exact G.rt o ⟨by have aj:fi s≠0:=I;have A:base s l=fi s:=(by rw[base,aD aj]);rw[mF,A,aD aj],k⟩;refine G.aC o M5 (Oh n.any) ?_;rintro ai Q ⟨rfl,R⟩;obtain⟨n,k,_⟩:=bG R n k;refine G.ip o ?_ ?_<;>intro C;exact G.rt o ⟨by have A:base s l=8:=(by rw[base,au I,aD C]);rw[mF,A,aD aO],k⟩;refine G.O o (bz n lr) ?_
 refine G.bd o (fun(j:Nat)=>[(0,aJ s),(16,v),(17,.int .i64 l.length),(18,.int .i64 j)])
  (fun(j:Nat) (H:Heap)=>(j<=l.length)/\(l.take j).any (m2 s)=false/\an Q H)
  (fun(j:Nat)=>l.length-j) 0 ⟨I,o,W.refl _ _⟩ ?_
 rintro j ak ⟨aw,K,B⟩ al S;obtain⟨n,k,_⟩:=bG B n k;refine G.ip o ?_ ?_<;>intro ag;have L:j<l.length:=by omega
 have ay:=Z l[j] (cS L);have A:base s l=0:=by rw[base,au I,au C]
 refine G.pp o (M.cw n j o lr b7 o o) fun ah T=>G.O o (aY T.T cm)<|G.O o (M.rK o o o bU)<|G.aC o EY (G2) ?_;rintro aq av ⟨rfl,U⟩;obtain⟨k,B,_⟩:=bG U k B;refine G.sb 1 26 o ?_ ?_<;>intro E;exact G.it o<|G.rt o ⟨by rw[mF,A,au aO,aD (s6 L (by unfold m2;first|(rw[E]<;>rfl)|(rw[F,ym])))],k⟩;refine G.O o (M.rK o o o bU)<|G.aC o EY (G2) ?_;rintro a0 bq ⟨rfl,O⟩;obtain⟨k,B,_⟩:=bG O k B;refine G.ci o ?_ ?_<;>intro F;exact G.rt o ⟨by rw[mF,A,au aO,aD (s6 L (by unfold m2;first|(rw[E]<;>rfl)|(rw[F,ym])))],k⟩;exact G.O o bB<|G.aQ o<|S (j+1) _ ⟨I,xc K I (by unfold m2;rw[Bs];exact⟨E,F⟩),B⟩;exact G.rt o ⟨by have A:base s l=0:=(by rw[base,au I,au C]);rw[e5 I]at K;rw[mF,A,au aO,au (by rw[K];decide)],k⟩
def SK{s:List UInt8}{v:Value}{l:List (List UInt8)}{w0:World}(B:b_ V ha 1 v l)(Y:s.length<=140737488355328)(aP:∀x∈l,x.length<=140737488355328):
 a8 prog w0 165 #[aJ s,v] V (fun r ah=>r= .int .i64 (mF s l)/\an V ah):=by
 refine G.bN func165 o fun F=>?_;have B:=B.cD;have aO:=B.len;refine G.aC o xy (za s I) ?_;rintro v9 K ⟨rfl,av⟩;obtain⟨B,F,_⟩:=bG av B F
 refine G.bw 0 o (fun(e:Int)=>[(0,aJ s),(1,v),(5,.int .i64 e)])
  (fun(e:Int) (H:Heap)=>(e=base s l)/\an K H) (fun _ ae=>?_) ?_
 have N:an K K:=W.refl _ _
 refine G.bd o (fun(X:Nat×Int)=>match X with|(i,e)=>[(0,aJ s),(1,v),(5,.int .i64 e),(6,.int .i64 i)])
  (fun(i,e) (H:Heap)=>(i<=l.length)/\((e=0/\fi s=0/\s∉l.take i)\/(e=8/\fi s=0/\s∈l)\/(e=fi s/\fi s≠0))/\an K H)
  (fun(i,e)=>l.length-i) (0,fi s) ⟨I,(by by_cases h:fi s=0;exact .inl ⟨h,h,fun h=>by simp at h⟩;exact .inr (.inr ⟨o,h⟩)),W.refl _ _⟩ ?_
 rintro⟨i,e⟩ a5 ⟨aB,P,R⟩ aC ag;obtain⟨B,N,_⟩:=bG R B N;refine G.O o (bz B lr)<|G.sp 2 14 o ?_ ?_<;>intro aI;refine G.ip o ?_ ?_<;>intro aK;refine G.pp o (M.cw B i o lr b7 o o) fun aL az=>G.O o (aY az.T cm)<|G.ae 1 o (M.ox o o o)<|G.ip o (fun T=>?_) fun T=>?_;exact G.O o bB<|G.aQ o<|ag (i+1,8) _ ⟨I,(.inr (.inl ⟨o,by omega,by rw[<-T];exact cS _⟩)),R⟩;exact G.O o bB<|G.aQ o<|ag (i+1,e) _ ⟨I,(.inl ⟨by omega,by omega,by rcases P with⟨k,n,A⟩|⟨k,n,A⟩|⟨k,n⟩;exact HR A I (fun e=>T e.symm);omega;omega⟩),R⟩;exact G.aQ o<|ae e _ ⟨(by unfold base;rcases P with⟨k,n,A⟩|⟨k,n,A⟩|⟨k,n⟩;omega;rw[au I,aD A];exact k;rw[aD n];exact k),N⟩;exact G.dP o<|G.aQ o<|ae e _ ⟨(by unfold base;rw[e5 I]at P;rcases P with⟨k,n,A⟩|⟨k,n,A⟩|⟨k,n⟩;rw[au I,au A];exact k;rw[au I,aD A];exact k;rw[aD n];exact k),N⟩;intro e L ay;obtain⟨he,aw⟩:=ay;obtain⟨B,F,_⟩:=bG aw B F
 refine G.bw 0 o (fun(O:Int)=>[(5,.int .i64 O)])
  (fun(O:Int) (H:Heap)=>(O=mF s l)/\an L H) (fun _ ap=>?_) ?_
 have ac:an L L:=W.refl _ _
 refine G.bd o (fun(X:Nat×Int)=>match X with|(i,C)=>[(0,aJ s),(1,v),(5,.int .i64 C),(7,.int .i64 i)])
  (fun(i,C) (H:Heap)=>(i<=l.length)/\((C=0/\base s l=0/\(l.take i).any (m2 s)=false)\/(C=13/\base s l=0/\l.any (m2 s)=true)\/(C=base s l/\base s l≠0))/\an L H)
  (fun(i,C)=>l.length-i) (0,e) ⟨I,(by by_cases h:base s l=0;exact .inl ⟨by omega,h,o⟩;exact .inr (.inr ⟨he,h⟩)),W.refl _ _⟩ ?_
 rintro⟨i,C⟩ aE ⟨aB,Q,E⟩ aF S;obtain⟨B,ac,_⟩:=bG E B ac;refine G.O o (bz B lr)<|G.sp 2 30 o ?_ ?_<;>intro bq;refine G.ip o ?_ ?_<;>intro a2;have U:i<l.length:=by omega
 refine G.pp o (M.cw B i o lr b7 o o) fun a3 ai=>G.O o (aY ai.T cm)<|G.aC o E2 (Er) ?_;rintro aG a9 ⟨rfl,ak⟩;obtain⟨B,E,_⟩:=bG ak B E;refine G.sb 1 42 o ?_ ?_<;>intro Z;exact G.it o<|G.O o bB<|G.aQ o<|S (i+1,13) _ ⟨I,(.inr (.inl ⟨o,by omega,s6 U (by unfold m2;rw[Z,ym])⟩)),E⟩;refine G.pp o (M.cw B i o lr b7 o o) fun a4 al=>G.O o (aY al.T cm)<|G.aC o E2 (Er) ?_;rintro aM aN ⟨rfl,aq⟩;obtain⟨E,_⟩:=cv aq E;refine G.ci o ?_ ?_<;>intro aa;exact G.O o bB<|G.aQ o<|S (i+1,13) _ ⟨I,(.inr (.inl ⟨o,by omega,s6 U (by unfold m2;rw[aa]<;>rfl)⟩)),E⟩;exact G.O o bB<|G.aQ o<|S (i+1,C) _ ⟨I,(.inl ⟨by omega,by omega,by rcases Q with⟨k,n,A⟩|⟨k,n,A⟩|⟨k,n⟩;exact xc A U (by unfold m2;rw[Z,aa]<;>rfl);omega;omega⟩),E⟩;exact G.aQ o<|ap C _ ⟨(by unfold mF;rcases Q with⟨k,n,A⟩|⟨k,n,A⟩|⟨k,n⟩;omega;rw[au I,aD A];exact k;rw[aD n];exact k),ac⟩;exact G.dP o<|G.aQ o<|ap C _ ⟨(by unfold mF;rw[e5 I]at Q;rcases Q with⟨k,n,A⟩|⟨k,n,A⟩|⟨k,n⟩;rw[au I,au (by rw[A];decide)];exact k;rw[au I,aD A];exact k;rw[aD n];exact k),ac⟩;intro O aH am;obtain⟨aA,ax⟩:=am;have F:=F.al ax;exact G.rt o ⟨by rw[aA],F⟩
def qB:∀{k:List UInt8},k.length=32->∃n bX bM X ae ag ah ai ak al r A B C E F H K L M N O P Q R S T U V W Z aa:UInt8,k=[n,bX,bM,X,ae,ag,ah,ai,ak,al,r,A,B,C,E,F,H,K,L,M,N,O,P,Q,R,S,T,U,V,W,Z,aa]:=by
 intro k h
 match k,h with
 |[n,bX,bM,X,ae,ag,ah,ai,ak,al,r,A,B,C,E,F,H,K,L,M,N,O,P,Q,R,S,T,U,V,W,Z,aa],_=>exact⟨n,bX,bM,X,ae,ag,ah,ai,ak,al,r,A,B,C,E,F,H,K,L,M,N,O,P,Q,R,S,T,U,V,W,Z,aa,o⟩
def Hn:sY prog 40 b4:=P1 underlying40 underlying5 db e8
def ea{a b:List Value}(h:a.length=b.length):eD a 0 b=b:=by simp[eD,h]
abbrev dq:ay:=⟨none,0,0⟩
structure hz where
 d:Int
 i:eb
def eH(x:hz):List Value:= .int .i64 x.d::cu x.i
structure dX where
 k:Int
 br:List UInt8
 cU:eb
 bw:eb
 c4:ay
 bF:List hz
 dn:Int
 md:Int
 st:Bool
def dD(x:dX):List Value:= .int .i64 x.k::aJ x.br::(cu x.cU++(cu x.bw++[x.c4.v,.int .i64 x.dn,.int .i64 x.md,.bool x.st]))
structure b9 where
 n:List UInt8
 J:eb
 w:eb
 y:List UInt8
def ep(x:b9):List Value:=aJ x.n::(cu x.J++(cu x.w++[aJ x.y]))
structure b1 where
 k:eb
 v:ay
 d:List UInt8
def cA(x:b1):List Value:=cu x.k++[x.v.v]
structure eh where
 n:List UInt8
 i:eb
def fP(x:eh):List Value:=aJ x.n::cu x.i
structure eo where
 J:eb
 w:eb
 y:List UInt8
def gl(x:eo):List Value:=cu x.J++(cu x.w++[aJ x.y])
structure ir where
 n:List UInt8
 v:ay
 l:List eo
def hL(x:ir):List Value:=[aJ x.n,x.v.v]
structure b5 where
 bP:Bool
 ab:List UInt8
 fH:ay
 ml:List b9
 Y:Bool
 q:dX
 dG:ay
 el:List b1
def cM(x:b5):List Value:= .bool x.bP::aJ x.ab::x.fH.v:: .bool x.Y::(dD x.q++[x.dG.v])
structure cf where
 ab:List UInt8
 fJ:ay
 bK:List eh
 c1:ay
 cT:List ir
 q:dX
 dG:ay
 el:List b1
def cl(x:cf):List Value:=aJ x.ab::x.fJ.v::x.c1.v::(dD x.q++[x.dG.v])
def ib(x:hz):(eH x).length=33:=by simp[eH,bJ]
def e_(x:dX):(dD x).length=70:=by simp[dD,bJ]
def fF(x:b9):(ep x).length=66:=by simp[ep,bJ]
def eG(x:b1):(cA x).length=33:=by simp[cA,bJ]
def l_(x:eh):(fP x).length=33:=by simp[fP,bJ]
def rb(x:eo):(gl x).length=65:=by simp[gl,bJ]
def j3(x:ir):(hL x).length=2:=rfl
def cY(x:b5):(cM x).length=75:=by simp[cM,e_]
def dw(x:cf):(cl x).length=74:=by simp[cl,e_]
abbrev k3(l:List Value):Prop:=∀u∈l,u.oneCell'=true
def k3.nil:k3 []:=fun u h=>by cases h
def k3.cons{v:Value}{l:List Value}(h:v.oneCell'=true)(k:k3 l):k3 (v::l):=fun u hu=>by
 rcases dI.1 hu with rfl|hu;exact h;exact k u hu
def k3.app{a b:List Value}(h:k3 a)(k:k3 b):k3 (a++b):=fun u hu=>(gR.1 hu).elim (h u) (k u)
def ma(x:hz):k3 (eH x):= .cons o (iY _)
def nw{x:dX}:k3 (dD x):= .cons o (.cons o (.app (iY _) (.app (iY _) (.cons o (.cons o (.cons o (.cons o .nil)))))))
def l9(x:b9):k3 (ep x):= .cons o (.app (iY _) (.app (iY _) (.cons o .nil)))
def iJ(x:b1):k3 (cA x):= .app (iY _) (.cons o .nil)
def qn(x:eh):k3 (fP x):= .cons o (iY _)
def tr(x:eo):k3 (gl x):= .app (iY _) (.app (iY _) (.cons o .nil))
def oN(x:ir):k3 (hL x):= .cons o (.cons o .nil)
def lP{x:b5}:k3 (cM x):= .cons o (.cons o (.cons o (.cons o (.app (nw) (.cons o .nil)))))
def nx{x:cf}:k3 (cl x):= .cons o (.cons o (.cons o (.app (nw) (.cons o .nil))))
abbrev jJ(x:dX):Value:= .agg (dD x).toArray
abbrev qI(x:b9):Value:= .agg (ep x).toArray
abbrev qH(x:b1):Value:= .agg (cA x).toArray
abbrev hG(x:b5):Value:= .agg (cM x).toArray
abbrev hV(x:cf):Value:= .agg (cl x).toArray
def oQ{a b:List Value}(h:a.length=n):(a++b).take n=a:=kP h
def oJ{a b:List Value}(h:a.length=n):(a++b).drop n=b:=mI h
def lO(x:dX):List Value:=[x.c4.v,.int .i64 x.dn,.int .i64 x.md,.bool x.st]
def n0(x:dX):((dD x).drop 2).take 32=cu x.cU:=oQ (bJ _)
def AY(x:dX):(dD x).drop 34=cu x.bw++lO x:=by
 rw[show(34:Nat)=2+32 from o,<-nc];exact oJ<|bJ _
def nZ(x:dX):((dD x).drop 34).take 32=cu x.bw:=by rw[AY];exact oQ<|bJ _
def AZ(x:dX):(dD x).drop 66=lO x:=by
 rw[show(66:Nat)=34+32 from o,<-nc,AY];exact oJ<|bJ _
def jR(x:b9):((ep x).drop 1).take 32=cu x.J:=oQ (bJ _)
def AX(x:b9):(ep x).drop 33=cu x.w++[aJ x.y]:=by
 rw[show(33:Nat)=1+32 from o,<-nc];exact oJ<|bJ _
def hA(x:b9):((ep x).drop 33).take 32=cu x.w:=by rw[AX];exact oQ<|bJ _
def Gw(x:b9):(ep x).drop 65=[aJ x.y]:=by
 rw[show(65:Nat)=33+32 from o,<-nc,AX];exact oJ<|bJ _
def hU(x:b1):((cA x).drop 0).take 32=cu x.k:=oQ (bJ _)
def Pe(x:b1):(cA x).drop 32=[x.v.v]:=oJ (bJ _)
def Pc(x:eo):((gl x).drop 0).take 32=cu x.J:=oQ (bJ _)
def Gu(x:eo):(gl x).drop 32=cu x.w++[aJ x.y]:=oJ (bJ _)
def Pd(x:eo):((gl x).drop 32).take 32=cu x.w:=by rw[Gu];exact oQ<|bJ _
def Gv(x:eo):(gl x).drop 64=[aJ x.y]:=by
 rw[show(64:Nat)=32+32 from o,<-nc,Gu];exact oJ<|bJ _
def pE(x:hz):((eH x).drop 1).take 32=cu x.i:=e5 (by rw[show(eH x).drop 1=cu x.i from o,bJ];exact dF _)
def xO(x:eh):((fP x).drop 1).take 32=cu x.i:=e5 (by rw[show(fP x).drop 1=cu x.i from o,bJ];exact dF _)
def m6(x:b5):((cM x).drop 4).take 70=dD x.q:=oQ (e_ _)
def Gz(x:b5):(cM x).drop 74=[x.dG.v]:=by
 rw[show(74:Nat)=4+70 from o,<-nc];exact oJ<|e_ _
def tu(x:cf):((cl x).drop 3).take 70=dD x.q:=oQ (e_ _)
def Gy(x:cf):(cl x).drop 73=[x.dG.v]:=by
 rw[show(73:Nat)=3+70 from o,<-nc];exact oJ<|e_ _
def cL.iQ{x:dX}(h:cL H bL (dD x)):cL H (bL.add 66) (lO x):=by have:=h.drop 66;rwa[AZ]at this
def cL.nK{x:dX}(h:cL H bL (dD x)):cL H (bL.add 67) [.int .i64 x.dn,.int .i64 x.md,.bool x.st]:=by
 have:=h.iQ.drop 1;rwa[show(bL.add 66).add 1=bL.add 67 from by cases bL;rfl]at this
def cL.qT{x:dX}(h:cL H bL (dD x)):cL H (bL.add 68) [.int .i64 x.md,.bool x.st]:=by
 have:=h.iQ.drop 2;rwa[show(bL.add 66).add 2=bL.add 68 from by cases bL;rfl]at this
def cL.uC{x:dX}(h:cL H bL (dD x)):cL H (bL.add 69) [.bool x.st]:=by
 have:=h.iQ.drop 3;rwa[show(bL.add 66).add 3=bL.add 69 from by cases bL;rfl]at this
def cL.sE{x:b9}(h:cL H bL (ep x)):cL H (bL.add 65) [aJ x.y]:=by have:=h.drop 65;rwa[Gw]at this
def cL.og{x:b1}(h:cL H bL (cA x)):cL H (bL.add 32) [x.v.v]:=by have:=h.drop 32;rwa[Pe]at this
def cL.Qs{x:eo}(h:cL H bL (gl x)):cL H (bL.add 64) [aJ x.y]:=by have:=h.drop 64;rwa[Gv]at this
def cL.iT{x:b5}(h:cL H bL (cM x)):cL H (bL.add 74) [x.dG.v]:=by have:=h.drop 74;rwa[Gz]at this
def cL.mR{x:cf}(h:cL H bL (cl x)):cL H (bL.add 73) [x.dG.v]:=by have:=h.drop 73;rwa[Gy]at this
def ga:dX:=⟨0,[],bO,bO,dq,[],0,0,false⟩
def gT:b5:=⟨false,[],dq,[],false,ga,dq,[]⟩
def l2:cf:=⟨[],dq,[],dq,[],ga,dq,[]⟩
structure gi (F:Nat->Prop) (H:Heap) (t:b5):Prop where
 m:Rd F H ep 66 t.fH.v t.ml
 q:Rd F H eH 33 t.q.c4.v t.q.bF
 e:Rd F H cA 33 t.dG.v t.el
 d:∀y∈t.el,Rd F H a7 1 y.v.v y.d
structure fV (F:Nat->Prop) (H:Heap) (s:cf):Prop where
 r:Rd F H fP 33 s.fJ.v s.bK
 g:Rd F H hL 2 s.c1.v s.cT
 n:∀y∈s.cT,Rd F H gl 65 y.v.v y.l
 q:Rd F H eH 33 s.q.c4.v s.q.bF
 e:Rd F H cA 33 s.dG.v s.el
 d:∀y∈s.el,Rd F H a7 1 y.v.v y.d
def gi.aL{t:b5}(x:gi F H t)(w:an H V):gi F V t:=⟨x.m.aL w,x.q.aL w,x.e.aL w,fun y hy=>(x.d y hy).aL w⟩
def gi.aA{t:b5}(x:gi F H t)(w:W (aq vq33z) H V)(d:aB F vq33z):gi F V t:=⟨x.m.aA w d,x.q.aA w d,x.e.aA w d,fun y hy=>(x.d y hy).aA w d⟩
def gi.imp{aX:Nat->Prop}{t:b5}(x:gi F H t)(d:∀b,b<H.size->F b->aX b):gi aX H t:=⟨x.m.imp d,x.q.imp d,x.e.imp d,fun y hy=>(x.d y hy).imp d⟩
def gi.cD{t:b5}(x:gi F H t):gi (fun b=>F b/\b<H.size) H t:=x.imp (fun b hb h=>⟨h,hb⟩)
def fV.aL{s:cf}(x:fV F H s)(w:an H V):fV F V s:=⟨x.r.aL w,x.g.aL w,fun y hy=>(x.n y hy).aL w,x.q.aL w,x.e.aL w,fun y hy=>(x.d y hy).aL w⟩
def fV.aA{s:cf}(x:fV F H s)(w:W (aq vq33z) H V)(d:aB F vq33z):fV F V s:=⟨x.r.aA w d,x.g.aA w d,fun y hy=>(x.n y hy).aA w d,x.q.aA w d,x.e.aA w d,fun y hy=>(x.d y hy).aA w d⟩
def fV.imp{aX:Nat->Prop}{s:cf}(x:fV F H s)(d:∀b,b<H.size->F b->aX b):fV aX H s:=⟨x.r.imp d,x.g.imp d,fun y hy=>(x.n y hy).imp d,x.q.imp d,x.e.imp d,fun y hy=>(x.d y hy).imp d⟩
def fV.cD{s:cf}(x:fV F H s):fV (fun b=>F b/\b<H.size) H s:=x.imp (fun b hb h=>⟨h,hb⟩)
def fV.c7{s:cf}{h:Nat}(x:fV (fun b=>F b/\b<h) H s):bk (fun b=>F b/\b<h) h:=fun b e=>e.2
instance{t:b5}:cO (gi F H t) H V (gi F V t):=⟨fun s h=>h.aL s⟩
instance{t:b5}:cP (gi F H t) H V (gi F V t) (aw F):=⟨fun s h d=>h.aA s (aB.J d)⟩
instance{s:cf}:cO (fV F H s) H V (fV F V s):=⟨fun s h=>h.aL s⟩
instance{s:cf}:cP (fV F H s) H V (fV F V s) (aw F):=⟨fun s h d=>h.aA s (aB.J d)⟩
def fR(b:Bool)(e:Int):Int:=if b=true then 0 else e
def lb:List Int->Int
 |[]=>0
 |e::l=>if e≠0 then e else lb l
def Pl{l:List Int}{j:Nat}(h:∀x∈l.take j,x=0)(n:j<l.length)(k:l[j]≠0):lb l=l[j]:=by
 induction l generalizing j with
 |nil=>simp at n
 |cons e l ih=>
  cases j with
  |zero=>simp only[pM]at k⊢;rw[lb,aD k]
  |succ j=>
   have he:e=0:=h e a_;rw[lb,au (by simpa using he)];exact ih (fun x r=>h x (by simp[r])) (by simpa using n) (by simpa using k)
def GL:∀{l:List Int},(∀x∈l,x=0)->lb l=0
 |[],_=>rfl
 |e::l,h=>by rw[lb,au (by simpa using h e a_),GL (fun x k=>h x (by simp[k]))]
def Vd{l:List Int}{j:Nat}(h:∀x∈l.take j,x=0)(r:j<l.length)(n:l[j]=0):∀x∈l.take (j+1),x=0:=by
 intro x k;rw[fc r]at k;rcases gR.1 k with k|k;exact h x k;rw[fm]at k;rw[k];exact n
def CZ{b:Bool}{e:Int}{w0:World}:
 a8 prog w0 58 #[.bool b,.int .i64 e] H (fun r n=>r= .int .i64 (fR b e)/\an H n):=by
 refine G.bN func58 o fun k=>G.ci o (fun A=>?_) (fun A=>?_);exact G.rt o ⟨by first|(rw[fR,aD ch])|(rw[fR,au iN]),k⟩;exact G.rt o ⟨by first|(rw[fR,aD ch])|(rw[fR,au iN]),k⟩
def pW{v:Value}{l:List Int}{w0:World}(k:b_ V nv 1 v l):
 a8 prog w0 59 #[v] V (fun r E=>r= .int .i64 (lb l)/\an V E):=by
 refine G.bN func59 o fun A=>?_;have k:=k.cD;have Q:=k.len;refine G.O o (bz k KA) ?_
 refine G.bd o (fun(j:Nat)=>[(5,v),(6,.int .i64 l.length),(7,.int .i64 j)])
  (fun(j:Nat) (H:Heap)=>(j<=l.length)/\(∀x∈l.take j,x=0)/\an V H)
  (fun(j:Nat)=>l.length-j) 0 ⟨I,(fun x h=>by simp at h),W.refl _ _⟩ ?_
 rintro j L ⟨P,n,C⟩ K aU;obtain⟨k,A,_⟩:=bG C k A;refine G.ip o ?_ ?_<;>intro O;refine G.pp o (M.cw k j o KA nJ o o) fun N F=>G.O o (aY F.T oH)<|G.ip o (fun B=>?_) fun B=>?_;exact G.rt o ⟨by rw[Pl n I B],A⟩;exact G.O o bB<|G.aQ o<|aU (j+1) _ ⟨I,Vd n I (by simpa using B),C⟩;exact G.rt o ⟨by rw[e5 I]at n;rw[GL n],A⟩
def pY(i:eb){w0:World}:
 a8 prog w0 67 #[b4 i] H (fun r n=>r= .bool (decide (i=bO))/\an H n):=by
 refine G.bN func67 o fun k=>G.aR o (Z.qi o o) ?_;rintro v1 H1 ⟨rfl,hb,A,ad,B⟩;have k:=k.al A;have hb:Var 40 H1 H.size (cu i):=hb;exact G.O o (bu hb.T dj bE<|bJ _)<|G.O o (M.build (v:=b4 bO) o o eN)<|G.ae 0 o (M.nS o Tryz.eqGuardType40 (fun w=>jH 9998 underlying40 underlying5 db e8 i.2 bO.2 w) o o)<|G.rt o ⟨eX ⟨fun h=>ij h,fun h=>by rw[h]⟩,k⟩
def cF(K ks:List Nat):Prop:=∀k∈K,ak k ks
def aF(K:List Nat)(h:Nat)(n:List Nat):Prop:=∀k∈n,k=0\/k∈K\/h<k
def pj(K:List Nat)(h:Nat):Prop:=∀k∈K,k<=h
def ak.gv:ak 0 vq33z:=fun k _=>ai.z2
def ak.app{a:Nat}(d:ak a vq33z)(e:ak a bQ):ak a (vq33z++bQ):=fun k n=>(gR.1 n).elim (d k) (e k)
def aB.app(d:aB F vq33z)(e:aB F bQ):aB F (vq33z++bQ):=fun k n=>(gR.1 n).elim (d k) (e k)
def cF.nil:cF vq33z []:=fun k _=>ak.nil
def cF.cons{m:Nat}(d:ak m vq33z)(e:cF vq33z bQ):cF vq33z (m::bQ):=fun k n=>ak.cons (d k n).symm (e k n)
def cF.app{ks:List Nat}(d:cF vq33z bQ)(e:cF vq33z ks):cF vq33z (bQ++ks):=fun k n=>ak.app (d k n) (e k n)
def cF.symm(d:cF vq33z bQ):cF bQ vq33z:=fun k r j n=>(d j n k r).symm
def ag.app{h:Nat}{fY:List Nat}(d:ag bQ h vq33z)(e:ag bQ h fY):ag bQ h (vq33z++fY):=fun k n=>(gR.1 n).elim (d k) (e k)
def ak.gf{h:Nat}(b:pj vq33z h):ak (h+1) vq33z:=fun k n=>(ai.new (b k n)).symm
def ak.cb{a h:Nat}(d:ak a vq33z)(B:a<=h)(x:aF vq33z h bQ):ak a bQ:=fun k n=>by
 rcases x k n with e|e|e;subst e;exact ai.z;exact d k e;intro c r A;omega
def aB.cb{h:Nat}(d:aB F vq33z)(hb:bk F h)(x:aF vq33z h bQ):aB F bQ:=fun k r b n he=>by
 have:=hb b n;rcases x k r with e|e|e;omega;exact d k e b n he;omega
def cF.cb{h:Nat}{n:List Nat}(d:cF bQ vq33z)(b:pj bQ h)(x:aF vq33z h n):cF bQ n:=fun k r=>ak.cb (d k r) (b k r) x
def ak.ia{h:Nat}(d:ak k vq33z)(b:pj vq33z h)(x:U k h n):ak n vq33z:=fun j r=>by
 rcases x with e|e|e;subst e;exact ai.z2;subst e;exact d j r;have:=b j r;intro c A B;omega
def aF.refl(K:List Nat)(h:Nat):aF K h K:=fun k n=> .inr (.inl n)
def aF.al{h r:Nat}{n:List Nat}(x:aF vq33z h bQ)(y:aF bQ r n)(bP:h<=r):aF vq33z h n:=fun k A=>by
 rcases y k A with e|e|e;exact .inl e;exact x k e;exact .inr (.inr I)
def aF.cons{a h:Nat}(d:U 0 h a)(x:aF vq33z h bQ):aF vq33z h (a::bQ):=fun k n=>by
 rcases dI.1 n with e|e;subst e;unfold U at d;omega;exact x k e
def gN(K:List Nat)(k:Nat):Prop:=∀c,c+1=k->c+1∈K
def gN.of(h:k∈vq33z):gN vq33z k:=fun c e=>by rw[e];exact h
def gN.or(h:gN vq33z k):k=0\/k∈vq33z:=by
 cases k with
 |zero=>exact .inl o
 |succ c=>exact .inr (h c o)
def ak.at{a:Nat}(d:ak a vq33z)(m:gN vq33z k):ai a k:=by
 rcases m.or with e|e;subst e;exact ai.z;exact d k e
def aB.at(d:aB F vq33z)(m:gN vq33z k):aw F k:=by
 rcases m.or with e|e;subst e;exact aw.z;exact d k e
def ag.at{h:Nat}(d:ag bQ h vq33z)(m:gN vq33z k):ah bQ h k:=by
 rcases m.or with e|e;subst e;exact ah.z;exact d k e
def aF.app{a h A:Nat}(x:aF vq33z h bQ)(hm:gN bQ n)(y:U n A a)(bP:h<=A):aF vq33z h (a::bQ):=fun k B=>by
 rcases dI.1 B with e|e;subst e;rcases y with y|y|y;exact .inl y;rcases hm.or with r|r;exact .inl (y.trans r);rw[y];exact x n r;exact .inr (.inr I);exact x k e
def aF.FH{a h:Nat}(x:aF vq33z h bQ)(e:a=0\/a∈bQ\/h<a):aF vq33z h (a::bQ):=fun k n=>by
 rcases dI.1 n with q|q;subst q;rcases e with e|e|e;exact .inl e;exact x k e;exact .inr (.inr e);exact x k q
def ak.ud{a h:Nat}(b:pj vq33z h)(x:U 0 h a):ak a vq33z:=fun k n=>by
 have:=b k n;intro c r A;unfold U at x;omega
def ag.bA{h:Nat}{ks:List Nat}(x:aF vq33z h bQ)(r:∀k∈vq33z,k∈ks):ag ks h bQ:=fun k A b hb e=>by
 rcases x k A with n|n|n;omega;unfold aq;rw[e];exact r k n;omega
def ag.o4{h:Nat}(x:aF [] h vq33z):ag bQ h vq33z:=fun k r b hb e=>by
 rcases x k r with n|n|n;omega;cases n;omega
def aB.k5(A:∀b,F b->n<=b)(B:pj vq33z n):aB F vq33z:=fun k C b r e=>by have:=A b r;have:=B k C;omega
open Go.MapKept
def Z.xG{w0:World}{l:az}{J:Oper}{κ:Type}[DecidableEq κ]{a1:κ->Value}{fv:aP->Value}{b:Nat}{m:List (κ×aP)}{d:TypeDesc}{t u kz ae:TypeId}{x i:Operand}{k:κ}(h:dA H a1 fv b m)(E:qb d a1)(U:J.op= .call {callee:= .builtin .delete,args:= #[x,i],argTypes:= #[t,u]})(hm:∀w,(underlying t).run P w= .ok (.map kz ae) w)(F:P.underlying kz=some d)(V:aI l x=some (.map (some b)))(T:aI l i=some (a1 k)):Z P w0 n l H J (fun r aa=>r= .tuple #[]/\dA aa a1 fv b (ey m k)/\W (fun c=>c=b) H aa):=by
 intro ac w C A;obtain⟨r,es,clock,aw,ag,R,K,L⟩:=h.fQ.ex;obtain rfl:=ag;have B:w.heap[r]?=some (.map es clock):=by rw[A.heap];exact R
 have ak:=(Array.getElem?_eq_some_iff.1 R).1;have S:∀M,(H.setIfInBounds r M)[r]?=some M:=fun M=>by simp[ak]
 rcases xV (k:=k) E es.toList m 0 L with⟨X,N,O⟩|⟨j,Q,av,X,N,O,aq,ax⟩;refine⟨_,H.setIfInBounds r (.map es clock),{w with heap:=H.setIfInBounds r (.map es clock)},?_,A.set,rfl,⟨⟨r,_,_,rfl,rfl,S _,K,?_⟩⟩,o2 _⟩;simp[execOp,U,C.eval V,C.eval T,resolve,invoke,builtin,Builtin.delete_,hm,MapKept.run_getObj_map B,MapKept.run_checkKey F (E.key k),MapKept.run_findKey F N,MapKept.run_setObj_map _ B,A.heap];rw[L];congr 1;unfold ey;exact(yi.2 (fun p al=>by simpa using HY X p al)).symm;have ah:es[j]?=some Q:=by simpa using O
 refine⟨_,H.setIfInBounds r (.map (es.eraseIdxIfInBounds j) clock),{w with heap:=H.setIfInBounds r (.map (es.eraseIdxIfInBounds j) clock)},?_,A.set,rfl,⟨⟨r,_,_,rfl,rfl,S _,stamped_erase K _,?_⟩⟩,o2 _⟩;simp[execOp,U,C.eval V,C.eval T,resolve,invoke,builtin,Builtin.delete_,hm,MapKept.run_getObj_map B,MapKept.run_checkKey F (E.key k),MapKept.run_findKey F N,MapKept.run_setObj_map _ B,A.heap];have ai:j<es.size:=(Array.getElem?_eq_some_iff.1 ah).1;rw[Array.eraseIdxIfInBounds,dif_pos ai,Array.toList_eraseIdx];exact Gp E.inj es.toList m j Q L K.2.2 O aq
def uQ(K:List Nat)(k:Nat):Prop:=ak k K
def fL(d:ak k vq33z):uQ vq33z k:=d
def iW(l k:az):Prop:=∀t v,dh l t=some v->dh k t=some v
def iW.c{l k:az}{s:Nat}{u:Value}(ar:dh l s=none)(h:iW l k):iW l ((s,u)::k):=fun t v e=>by
 simp only[dh];cases hb:Nat.beq s t with
 |true=>have:=nA hb;subst this;rw[ar]at e;cases e
 |false=>exact h t v e
def dS {l k : az} {s : Nat} {u : Value} (h : iW l k) (ar : dh l s=none := by exact rfl) : iW l ((s,u)::k) := iW.c ar h
def iW.b{l:az}{s:Nat}{u v:Value}(aj:dh l s=some v)(k:u=v):iW l ((s,u)::l):=fun t w e=>by
 simp only[dh];cases hb:Nat.beq s t with
 |true=>have:=nA hb;subst this;rw[aj]at e;subst k;exact e
 |false=>exact e
def N.join{w0:World}{r:Exit->Act->World->Prop}{l:az}{ops:Array Oper}{A:Heap->Prop}{d:Nat}{v:Value}(F:Nat)(E:List Nat)(b:(∀C,dh C d=some v->iW l C->N P w0 ops r A bQ n F E C H)->N P w0 ops r A bQ n k vq33z l H)(h:N P w0 ops r A bQ n F E ((d,v)::l) H):N P w0 ops r A bQ n k vq33z l H:=
 b (fun C ab Y a w B K=>h a w ⟨B.defers,B.size,fun t u e=>by
  simp only[dh]at e;cases hb:Nat.beq d t with
  |true=>have:=nA hb;subst this;simp only[hb]at e;exact B.get _ _ (by rw[ab];exact e)
  |false=>simp only[hb]at e;exact B.get _ _<|Y _ _ e⟩ K)
def bm.join{w0:World}{r:Exit->Act->World->Prop}{l:az}{ops:Array Oper}{rest:List Oper}{m:Bool}{d:Nat}{v:Value}(k:Nat)(b:(∀B,dh B d=some v->iW l B->bm m P w0 ops r n B (rest.drop k) H)->bm m P w0 ops r n l rest H)(h:bm m P w0 ops r n ((d,v)::l) (rest.drop k) H):bm m P w0 ops r n l rest H:=
 b (fun B ab Y a w A C=>h a w ⟨A.defers,A.size,fun t u e=>by
  simp only[dh]at e;cases hb:Nat.beq d t with
  |true=>have:=nA hb;subst this;simp only[hb]at e;exact A.get _ _ (by rw[ab];exact e)
  |false=>simp only[hb]at e;exact A.get _ _<|Y _ _ e⟩ C)
def pk.of{w0:World}{E:Exit->Act->World->Prop}{ops:Array Oper}{m:Bool}{F:List hi}{r:List Oper}{s d:Nat}{b v c:Bool}{k:az}(aj:dh k s=some (.bool c))(hb:c=b)(N:∀C,dh C d=some (.bool v)->iW k C->G P w0 E n F (.op m ops r) C H):pk P w0 E n H s d b v k F m ops r:=by
 intro a V l' u Y U;subst U;subst hb;unfold Ju at Y;split at Y;rename_i e;split at Y;rename_i ab;split at Y;rename_i K T;split at Y;rename_i R;have key:K=c:=by cases c<;>cases K<;>first|rfl|(cases R)
 subst key;split at Y;rename_i S;simp only[ld,ig]at Y;obtain⟨rfl,rfl,O⟩:=Y;refine IH a e<|N _ ab fun t v B=>?_;by_cases M:t=s;subst M;rw[aj]at B;cases B;exact T;have L:=He S t v M B;have Q:∀A:az,A.drop (A.length-k.length)=k->A.take (A.length-k.length)++k=A:=fun A h=>by
  have:=hY (A.length-k.length) A;rwa[h]at this
 rw[Q _ O]at L;exact L;cases Y;cases Y;cases Y;cases Y;cases Y
def G.fY{w0:World}{A:Exit->Act->World->Prop}{l:az}{ops:Array Oper}{m:Bool}{S:List hi}{x:fp}{B:List hi}{C:az}{r:List Oper}{q:Prop}[Decidable q]{v:Bool}(a k d s:Nat)(Y:uy n a s S x l=some (B,m,ops,r,C,decide q))(K:q->pk P w0 A n H s d true v C B m ops (r.drop k)->G P w0 A n B (.op m ops r) ((s,.bool true)::C) H)(he:¬q->pk P w0 A n H s d false v C B m ops (r.drop k)->G P w0 A n B (.op m ops r) ((s,.bool false)::C) H)(h:G P w0 A n B (.op m ops (r.drop k)) ((d,.bool v)::C) H):G P w0 A n S x l H:=
 let⟨e,aj⟩:=zi Y
 jV e (bm.join k (fun F=>bm.mQ aj (fun E=>K E (pk.of aj (fB E) F)) (fun E=>he E (pk.of aj (fG E) F))) h)
def G.m9{w0:World}{A:Exit->Act->World->Prop}{l:az}{ops:Array Oper}{m:Bool}{S:List hi}{x:fp}{B:List hi}{C:az}{r:List Oper}{b v:Bool}(a k d s:Nat)(Y:uy n a s S x l=some (B,m,ops,r,C,b))(K:b=true->pk P w0 A n H s d true v C B m ops (r.drop k)->G P w0 A n B (.op m ops r) ((s,.bool true)::C) H)(he:b=false->pk P w0 A n H s d false v C B m ops (r.drop k)->G P w0 A n B (.op m ops r) ((s,.bool false)::C) H)(h:G P w0 A n B (.op m ops (r.drop k)) ((d,.bool v)::C) H):G P w0 A n S x l H:=
 let⟨e,aj⟩:=zi Y
 jV e (bm.join k (fun F=>bm.split aj (fun E=>K E (pk.of aj E F)) (fun E=>he E (pk.of aj E F))) h)
def Vc:eh:=⟨[],bO⟩
def Vb:b1:=⟨bO,dq,[]⟩
def qU(l:List eh):List (List UInt8×eb):=l.foldl (fun m r=>h8 m r.n r.i) []
def Ki(l:List eh)(x:eh):qU (l++[x])=h8 (qU l) x.n x.i:=by unfold qU;rw[oc];rfl
def oh(m:List (List UInt8×eb))(x:b9):List (List UInt8×eb):=if x.w=bO then ey m x.n else h8 m x.n x.w
def k6(x:dX):Bool:=decide (¬x.cU=bO/\¬x.bw=bO/\0<=x.dn/\x.dn<=x.bF.length/\0<=x.md/\x.md<=x.dn/\¬(x.st=true/\x.dn=x.bF.length))
def kc(t:hz):Int:=if ¬(1<=t.d/\t.d<=3)then 3 else if t.i=bO then 1 else 0
def jK:List hz->Int
 |[]=>0
 |t::l=>if kc t≠0 then kc t else jK l
def jI(x:dX):Int:=if ¬(x.k=1\/x.k=2)then 3 else if fi x.br≠0 then 7 else if k6 x=false then 1 else if 100<x.bF.length then 4 else jK x.bF
def Kr:∀(l:List hz) (t:hz),jK (l++[t])=if jK l≠0 then jK l else kc t
 |[],t=>by by_cases h:kc t=0<;>simp[jK,h]
 |a::l,t=>by
  rw[me,jK,jK,Kr l t];by_cases h:kc a≠0;rw[aD h,aD h,aD h];rw[au h,au h]
def DF{l:List hz}{i:Nat}(k:i<l.length):jK (l.take (i+1))=if jK (l.take i)≠0 then jK (l.take i)else kc l[i]:=by
 rw[fc k,Kr]
def Kd(e:Int)(t:hz):lb [e,fR (decide (1<=t.d/\t.d<=3)) 3,fR (decide (¬t.i=bO)) 1]=if e≠0 then e else kc t:=by
 unfold kc;simp only[lb,fR,lf];by_cases k:e≠0;rw[aD k,aD k];rw[au k,au k];by_cases n:1<=t.d/\t.d<=3<;>by_cases r:t.i=bO<;>simp[n,r]
def rh(x:dX):Int:=lb [fR (decide (x.k=1\/x.k=2)) 3,fi x.br,fR (k6 x) 1,fR (decide (x.bF.length<=100)) 4]
def Ty(x:dX):jI x=if rh x≠0 then rh x else jK x.bF:=by
 unfold jI rh;simp only[lb,fR,lf];rcases xE x.br with aj|aj;by_cases k:x.k=1\/x.k=2<;>cases r:k6 x<;>by_cases n:x.bF.length<=100<;>simp[k,n,aj]<;>omega;by_cases k:x.k=1\/x.k=2<;>cases r:k6 x<;>by_cases n:x.bF.length<=100<;>simp[k,n,aj]
def lp{b:Bool}(q:Bool){e:Int}(h:b=q){w0:World}:a8 prog w0 58 #[.bool b,.int .i64 e] H (fun r k=>r= .int .i64 (fR q e)/\an H k):=by subst h;exact CZ
def Ej{x:dX}(k:¬x.cU=bO):decide (((((¬x.bw=bO/\0<=x.dn)/\x.dn<=x.bF.length)/\0<=x.md)/\x.md<=x.dn)/\¬(x.st=true/\x.dn=x.bF.length))=k6 x:=
 decide_eq_decide.2 ⟨fun⟨⟨⟨⟨⟨a,b⟩,c⟩,d⟩,e⟩,f⟩=>⟨k,a,b,c,d,e,f⟩,fun⟨_,a,b,c,d,e,f⟩=>⟨⟨⟨⟨⟨a,b⟩,c⟩,d⟩,e⟩,f⟩⟩
def El{x:dX}(k:¬x.cU=bO)(n:¬x.bw=bO)(r:0<=x.dn)(A:x.dn<=x.bF.length)(B:0<=x.md)(C:x.md<=x.dn)(E:x.st=true):decide (¬x.dn=(x.bF.length:Int))=k6 x:=
 decide_eq_decide.2 ⟨fun h=>⟨k,n,r,A,B,C,fun e=>h e.2⟩,fun h e=>h.2.2.2.2.2.2 ⟨E,e⟩⟩
def Ek{x:dX}(k:¬x.cU=bO)(n:¬x.bw=bO)(r:0<=x.dn)(A:x.dn<=x.bF.length)(B:0<=x.md)(C:x.md<=x.dn)(E:x.st=false):(!false)=k6 x:=
 (fB ⟨k,n,r,A,B,C,fun e=>by rw[E]at e;cases e.1⟩).symm
def jj(x:b1):Int:=if x.k=bO then 1 else if 65536<x.d.length then 5 else 0
def lU:List b1->Int
 |[]=>0
 |x::l=>if jj x≠0 then jj x else lU l
def B3:∀{l:List b1},(∀y∈l,jj y=0)->lU l=0
 |[],_=>rfl
 |x::l,h=>by rw[lU,au (by simpa using h x fZ)];exact B3 fun y hy=>h y<|gx _ hy
def B2:∀{l:List b1} {j:Nat} (k:j<l.length),(∀y∈l.take j,jj y=0)->jj l[j]≠0->lU l=jj l[j]
 |x::l,0,_,_,h=>by
  simp only[pM]at h⊢;rw[lU,aD h]
 |x::l,j+1,k,h,n=>by
  rw[lU,au (by simpa using h x a_)];exact B2 (l:=l) (j:=j) (by simpa using k) (fun y hy=>h y (by simp[hy])) (by simpa using n)
def QO(y:b1):lb [fR (decide (¬y.k=bO)) 1,fR (decide (y.d.length<=65536)) 5]=jj y:=by
 unfold jj;simp only[lb,fR,lf];by_cases k:y.k=bO<;>by_cases n:y.d.length<=65536<;>simp[k,n]<;>omega
def Kj{s:cf}{w0:World}(Y:fV F V s)(aa:bk F V.size):
 a8 prog w0 65 #[hV s] V (fun r C=>∃cW:Nat,r= .map (some cW)/\dA C aJ b4 cW (qU s.bK)/\U 0 V.size (cW+1)/\an V C):=by
 refine G.bN func65 o fun A=>?_;have aC:=Y.r.len;refine G.aR o (Z.bT<|cl s) ?_;rintro v1 H1 ⟨rfl,vs,T,_⟩;obtain⟨Y,A,_⟩:=bG T Y A;refine G.aR o (Z.gA<|Z.sD aJ b4 o) ?_;rintro v6 E ⟨rfl,k,aU,_⟩;have X:=aw.new (aa.mono A.size);have aH:=U.new A.size;obtain⟨Y,vs,A,_⟩:=cg aU Y vs A;have ay:=k.lt;refine G.aG o vs.T dN kE m1 o o<|G.O o (bz Y.r kZ) ?_
 refine G.bd o (fun(j:Nat)=>[(3,.map (some H1.size)),(8,s.fJ.v),(9,.int .i64 (s.bK.length:Int)),(10,.int .i64 (j:Int))])
  (fun(j:Nat) (H:Heap)=>(dA H aJ b4 H1.size (qU (s.bK.take j)))/\j<=s.bK.length/\W (aq [(H1.size+1)]) E H)
  (fun(j:Nat)=>s.bK.length-j) 0 ⟨k,I,W.refl _ _⟩ ?_
 rintro j az ⟨k,aA,n⟩ ag L;obtain⟨Y,A,_⟩:=de n Y X A aH;refine G.ip o ?_ ?_<;>intro ak;have aB:j<s.bK.length:=by omega
 obtain⟨x,K⟩:∃x,x=s.bK[j]:=⟨_,o⟩;refine G.pp o (M.rk Y.r j o kZ mP o o hd I) fun al Q=>G.O o (M.cast (v2:= .agg (fP x).toArray) (bu Q.T w8 mP<|l_ _) (by rw[K]))<|G.aR o (Z.aU U8<|fP Vc) ?_;rintro v5 ae ⟨rfl,B,N,_⟩;have O:=ai.new k.lt;have R:=U.new n.size;obtain⟨k,n,_⟩:=bG N k n;refine G.bl o (S.var B _ (fP x) o o o o (qn _) mP (l_ _) (by simp[l_]) ((ea<|(l_ _).trans (l_ _).symm))) ?_;rintro av ⟨B,ac⟩;obtain⟨k,n,_⟩:=de ac k O n (ah.q R);refine G.aG o B.T rT b7 cm o o<|G.aK o rT bE o<|G.O o (M.cast (v2:=b4 x.i) (bu ((B.T.drop 1).take 32) dj bE (by rw[xO];exact bJ _))<|dk<|xO _)<|G.bl o (S.qO x.i k hZ o p5 underlying9 o o o) ?_;rintro ax ⟨k,P⟩;obtain⟨n,_⟩:=cz P n (ah.r (U.refl (H1.size+1) E.size));exact G.O o bB<|G.aQ o<|L (j+1) _ ⟨by rw[fc (show j<s.bK.length by omega),Ki,<-K];exact k,I,n⟩;refine G.rt o ?_;obtain rfl:j=s.bK.length:=by omega
 rw[eQ]at k;exact⟨H1.size,o,k,aH,A⟩
def H8(m:List (List UInt8×eb)){x:b9}{w0:World}(k:dA H aJ b4 n m):
 a8 prog w0 66 #[.map (some n),qI x] H (fun r K=>r= .tuple #[]/\dA K aJ b4 n (oh m x)/\W (aq [(n+1)]) H K):=by
 refine G.bc [(n+1)] func66 o fun A=>?_;have F:=U.refl (n+1) H.size;refine G.aR o (Z.qi o o) ?_;rintro v3 L ⟨rfl,B,Q,X,aa⟩;obtain⟨k,A,_⟩:=bG Q k A;have B:Var 70 L H.size (ep x):=B;refine G.aK o dJ bE o<|G.O o (M.cast (v2:=b4 x.w) (bu ((B.T.drop 33).take 32) dj bE (by rw[hA];exact bJ _))<|dk<|hA _)<|G.aC o pz (pY x.w) ?_;rintro ak R ⟨rfl,N⟩;obtain⟨k,B,A,_⟩:=cg N k B A;refine G.ip o ?_ ?_<;>intro E;refine G.aG o B.T dJ b7 cm o o<|G.uM o (Z.xG k hZ o p5 underlying9 o o) ?_;rintro T V ⟨rfl,k,ac⟩;obtain⟨A,_⟩:=cz ac A (ah.r F);exact G.rt o ⟨o,by first|(unfold oh;rw[aD E];exact k)|(unfold oh;rw[au E];exact k),A⟩;refine G.aK o dJ bE o<|G.O o (M.cast (v2:=b4 x.J) (bu ((B.T.drop 1).take 32) dj bE (by rw[jR];exact bJ _))<|dk<|jR _)<|G.aC o pz (pY x.J) ?_;rintro ae ag ⟨rfl,O⟩;obtain⟨k,B,A,_⟩:=cg O k B A;refine G.ip o ?_ ?_<;>intro ai;refine G.aG o B.T dJ b7 cm o o<|G.aK o dJ bE o<|G.O o (M.cast (v2:=b4 x.w) (bu ((B.T.drop 33).take 32) dj bE (by rw[hA];exact bJ _))<|dk<|hA _)<|G.bl o (S.qO x.w k hZ o p5 underlying9 o o o) ?_;rintro P ⟨k,C⟩;have C:=C.eU;obtain⟨A,_⟩:=cz C A (ah.r F);exact G.rt o ⟨o,by first|(unfold oh;rw[aD E];exact k)|(unfold oh;rw[au E];exact k),A⟩;refine G.aG o B.T dJ b7 cm o o<|G.aK o dJ bE o<|G.O o (M.cast (v2:=b4 x.w) (bu ((B.T.drop 33).take 32) dj bE (by rw[hA];exact bJ _))<|dk<|hA _)<|G.bl o (S.qO x.w k hZ o p5 underlying9 o o o) ?_;rintro P ⟨k,C⟩;have C:=C.eU;obtain⟨A,_⟩:=cz C A (ah.r F);exact G.rt o ⟨o,by first|(unfold oh;rw[aD E];exact k)|(unfold oh;rw[au E];exact k),A⟩
def TA{x:dX}{mx_:Int}{w0:World}(aV:gL mx_ V)(b0:bk (fun b=>b=0) V.size)(F:b_ V eH 33 x.c4.v x.bF)(hb:x.br.length<=9223372036854775807):
 a8 prog w0 62 #[jJ x] V (fun r bm=>r= .int .i64 (if x.k≠0 then jI x else 0)/\an V bm):=by
 refine G.bN func62 o fun T=>?_;have F:=F.cD;have cE:=F.len;refine G.aR o (Z.bT<|dD x) ?_;rintro v1 H1 ⟨rfl,ae,bQ,_⟩;obtain⟨aV,F,T,_⟩:=cg bQ aV F T;refine G.aG o ae.T cd bV cQ o o<|G.ip o ?_ ?_<;>intro bj;exact G.rt o ⟨by rw[au (by simpa using bj)],T⟩;refine G.a1 o ae.T.iQ cd gz h4 o<|G.O o (bz F iF) ?_
 refine G.bw 0 o (fun(bN:Int)=>[(1,.pointer (some ⟨V.size,0,none⟩)),(4,.int .i64 bN)])
  (fun(bN:Int) (H:Heap)=>(bN=rh x)/\an H1 H) (fun _ bg=>?_) ?_
 have E:an H1 H1:=W.refl _ _;refine G.cJ o (fun n=>an H1 n) [] o ?_;have C:=an.refl H1;refine N.aK 0 cd bV C ?_;refine N.t1 1 o (fun n k=>aY (ae.T.aL k) cQ) C ?_;refine N.t1 2 o (fun n k=>M.eql o o o) C ?_;refine N.bo 3 o C ?_;refine N.join (d:=20) (v:= .bool (decide (x.k=1\/x.k=2))) 55 [7,6,5,4,3,2,1,0] (fun a1=>?_) ?_;refine N.mQ (d:=16) o (fun a2=>?_) fun a2=>?_;refine N.g1 4 o o o o C ?_;refine N.g1 5 o o o o C ?_;refine N.g1 6 o o o o C ?_;refine N.t1 7 o (fun n k=>kj) C ?_;exact a1 _ (bn (fun b=>some<|Value.bool b) (by simp[a2]))<|dS<|dS<|dS<|dS<|iW.b o<|bn Value.bool (fB a2).symm;refine N.cy 4 o (fun n k=>M.hh (ae.T.aL k) o cd o bV) cp C ?_;refine N.cy 5 o (fun n k=>aY (ae.T.aL k) cQ) cp C ?_;refine N.cy 6 o (fun n k=>M.eql o o o) cp C ?_;refine N.t1 7 o (fun n k=>jO) C ?_;exact a1 _ (bn (fun b=>some<|Value.bool b) (by simp[a2]))<|dS<|dS<|dS<|dS<|iW.b o<|bn Value.bool (fG a2).symm;refine N.aK 9 cd b7 C ?_;refine N.t1 10 o (fun n k=>aY ((ae.T.drop 1).aL k) cm) C ?_;refine N.aK 12 cd bE C ?_;refine N.t1 13 o (fun n k=>M.cast (v2:=b4 x.cU) (bu (((ae.T.drop 2).aL k).take 32) dj bE (by rw[n0];exact bJ _))<|dk<|n0 _) C ?_;refine N.bo 57 o C ?_;refine N.t1 58 o (fun n k=>M.leq o o o) C ?_;refine N.ba 8 ?_;refine fN.call o o kt o fE o o (lp (decide (x.k=1\/x.k=2)) (e:=3) (by first|(exact(fB I).symm)|(exact(fG I).symm)|(exact decide_eq_decide.2 I)) (w0:=w0)) ?_;rintro cr bI ⟨rfl,a3⟩;obtain⟨aV,ae,E,_⟩:=cg a3 aV ae E;have a4:=C.al a3;refine N.cx a4 ?_;refine N.ba 11 ?_;refine cK xx (xD x.br (vq24z:=mx_) (w0:=w0) aV (b0.mono I) hb) ?_;rintro ct bK ⟨rfl,bf⟩;obtain⟨ae,E,_⟩:=bG bf ae E;have bo:=(an.refl bI).al bf;refine N.cx bo ?_;refine N.ba 14 ?_;refine cK pz (pY x.cU (w0:=w0)) ?_;rintro cu bL ⟨rfl,a9⟩;obtain⟨ae,E,_⟩:=bG a9 ae E;have bA:=(an.refl bK).al a9;refine N.cx bA ?_;have B:=an.refl bL;refine N.t1 15 o (fun n k=>M.mL o o) B ?_;refine N.bo 16 o B ?_;refine N.mQ (d:=29) o (fun X=>?_) fun X=>?_;refine N.cy 17 o (fun n k=>M.hh (ae.T.aL k) o cd o bE) cp B ?_;refine N.cy 18 o (fun n k=>M.cast (v2:=b4 x.bw) (bu (((ae.T.drop 34).aL k).take 32) dj bE (by rw[nZ];exact bJ _))<|dk<|nZ _) cp B ?_;refine N.ba 19 ?_;refine fN.call o o pz o cp o o (pY x.bw (w0:=w0)) ?_;rintro cw bP ⟨rfl,bh⟩;obtain⟨ae,E,_⟩:=bG bh ae E;have bb:=B.al bh;refine N.cx bb ?_;have A:=an.refl bP;refine N.cy 20 o (fun n k=>M.mL o o) cp A ?_;refine N.t1 21 o (fun n k=>kj) A ?_;refine N.bo 22 o A ?_;refine N.join (d:=39) (v:= .bool (decide (¬x.bw=bO/\0<=x.dn))) 34 [26,25,24,23,22,21,20,19,18,17,16,15,14,11,8,58,57,13,12,10,9,7,6,5,4,3,2,1,0] (fun a6=>?_) ?_;refine N.mQ (d:=35) o (fun K=>?_) fun K=>?_;refine N.cy 23 o (fun n k=>M.hh (ae.T.aL k) o cd o bV) cp A ?_;refine N.cy 24 o (fun n k=>aY (ae.T.nK.aL k) cQ) cp A ?_;refine N.cy 25 o (fun n k=>M.geq o o o) cp A ?_;refine N.t1 26 o (fun n k=>kj) A ?_;exact a6 _ (bn (fun b=>some<|Value.bool b) (by simp[K]))<|dS<|dS<|dS<|dS<|iW.b o<|bn Value.bool (fB K).symm;refine N.g1 23 o o o o A ?_;refine N.g1 24 o o o o A ?_;refine N.g1 25 o o o o A ?_;refine N.t1 26 o (fun n k=>jO) A ?_;exact a6 _ (bn (fun b=>some<|Value.bool b) (by simp[K]))<|dS<|dS<|dS<|dS<|iW.b o<|bn Value.bool (fG K).symm;refine N.bo 27 o A ?_;refine N.join (d:=45) (v:= .bool (decide ((¬x.bw=bO/\0<=x.dn)/\x.dn<=x.bF.length))) 28 [32,31,30,29,28,27,26,25,24,23,22,21,20,19,18,17,16,15,14,11,8,58,57,13,12,10,9,7,6,5,4,3,2,1,0] (fun a7=>?_) ?_;refine N.mQ (d:=40) o (fun L=>?_) fun L=>?_;refine N.cy 28 o (fun n k=>M.hh (ae.T.aL k) o cd o bV) cp A ?_;refine N.cy 29 o (fun n k=>aY (ae.T.nK.aL k) cQ) cp A ?_;refine N.cy 30 o (fun n k=>gh) cp A ?_;refine N.cy 31 o (fun n k=>M.leq o o o) cp A ?_;refine N.t1 32 o (fun n k=>kj) A ?_;exact a7 _ (bn (fun b=>some<|Value.bool b) (by simp[L]))<|dS<|dS<|dS<|dS<|dS<|iW.b o<|bn Value.bool (fB L).symm;refine N.g1 28 o o o o A ?_;refine N.g1 29 o o o o A ?_;refine N.g1 30 o o o o A ?_;refine N.g1 31 o o o o A ?_;refine N.t1 32 o (fun n k=>jO) A ?_;exact a7 _ (bn (fun b=>some<|Value.bool b) (by simp[L]))<|dS<|dS<|dS<|dS<|dS<|iW.b o<|bn Value.bool (fG L).symm;refine N.bo 33 o A ?_;refine N.join (d:=50) (v:= .bool (decide (((¬x.bw=bO/\0<=x.dn)/\x.dn<=x.bF.length)/\0<=x.md))) 23 [37,36,35,34,33,32,31,30,29,28,27,26,25,24,23,22,21,20,19,18,17,16,15,14,11,8,58,57,13,12,10,9,7,6,5,4,3,2,1,0] (fun a_=>?_) ?_;refine N.mQ (d:=46) o (fun O=>?_) fun O=>?_;refine N.cy 34 o (fun n k=>M.hh (ae.T.aL k) o cd o bV) cp A ?_;refine N.cy 35 o (fun n k=>aY (ae.T.qT.aL k) cQ) cp A ?_;refine N.cy 36 o (fun n k=>M.geq o o o) cp A ?_;refine N.t1 37 o (fun n k=>kj) A ?_;exact a_ _ (bn (fun b=>some<|Value.bool b) (by simp[O]))<|dS<|dS<|dS<|dS<|iW.b o<|bn Value.bool (fB O).symm;refine N.g1 34 o o o o A ?_;refine N.g1 35 o o o o A ?_;refine N.g1 36 o o o o A ?_;refine N.t1 37 o (fun n k=>jO) A ?_;exact a_ _ (bn (fun b=>some<|Value.bool b) (by simp[O]))<|dS<|dS<|dS<|dS<|iW.b o<|bn Value.bool (fG O).symm;refine N.bo 38 o A ?_;refine N.join (d:=57) (v:= .bool (decide ((((¬x.bw=bO/\0<=x.dn)/\x.dn<=x.bF.length)/\0<=x.md)/\x.md<=x.dn))) 16 [44,43,42,41,40,39,38,37,36,35,34,33,32,31,30,29,28,27,26,25,24,23,22,21,20,19,18,17,16,15,14,11,8,58,57,13,12,10,9,7,6,5,4,3,2,1,0] (fun ba=>?_) ?_;refine N.mQ (d:=51) o (fun P=>?_) fun P=>?_;refine N.cy 39 o (fun n k=>M.hh (ae.T.aL k) o cd o bV) cp A ?_;refine N.cy 40 o (fun n k=>aY (ae.T.qT.aL k) cQ) cp A ?_;refine N.cy 41 o (fun n k=>M.hh (ae.T.aL k) o cd o bV) cp A ?_;refine N.cy 42 o (fun n k=>aY (ae.T.nK.aL k) cQ) cp A ?_;refine N.cy 43 o (fun n k=>M.leq o o o) cp A ?_;refine N.t1 44 o (fun n k=>kj) A ?_;exact ba _ (bn (fun b=>some<|Value.bool b) (by simp[P]))<|dS<|dS<|dS<|dS<|dS<|dS<|iW.b o<|bn Value.bool (fB P).symm;refine N.g1 39 o o o o A ?_;refine N.g1 40 o o o o A ?_;refine N.g1 41 o o o o A ?_;refine N.g1 42 o o o o A ?_;refine N.g1 43 o o o o A ?_;refine N.t1 44 o (fun n k=>jO) A ?_;exact ba _ (bn (fun b=>some<|Value.bool b) (by simp[P]))<|dS<|dS<|dS<|dS<|dS<|dS<|iW.b o<|bn Value.bool (fG P).symm;refine N.bo 45 o A ?_;refine N.join (d:=68) (v:= .bool (decide (((((¬x.bw=bO/\0<=x.dn)/\x.dn<=x.bF.length)/\0<=x.md)/\x.md<=x.dn)/\¬(x.st=true/\x.dn=x.bF.length)))) 5 [55,54,53,52,51,50,49,48,47,46,45,44,43,42,41,40,39,38,37,36,35,34,33,32,31,30,29,28,27,26,25,24,23,22,21,20,19,18,17,16,15,14,11,8,58,57,13,12,10,9,7,6,5,4,3,2,1,0] (fun bc=>?_) ?_;refine N.mQ (d:=58) o (fun Q=>?_) fun Q=>?_;refine N.cy 46 o (fun n k=>M.hh (ae.T.aL k) o cd o c8) cp A ?_;refine N.cy 47 o (fun n k=>aY (ae.T.uC.aL k) eW) cp A ?_;refine N.cy 48 o (fun n k=>gh) cp A ?_;refine N.join (d:=66) (v:= .bool (decide (x.st=true/\x.dn=x.bF.length))) 7 [53,52,51,50,49,48,47,46,45,44,43,42,41,40,39,38,37,36,35,34,33,32,31,30,29,28,27,26,25,24,23,22,21,20,19,18,17,16,15,14,11,8,58,57,13,12,10,9,7,6,5,4,3,2,1,0] (fun bd=>?_) ?_;refine N.split (d:=61) o (fun R=>?_) fun R=>?_;refine N.cy 49 o (fun n k=>M.hh (ae.T.aL k) o cd o bV) cp A ?_;refine N.cy 50 o (fun n k=>aY (ae.T.nK.aL k) cQ) cp A ?_;refine N.cy 51 o (fun n k=>gh) cp A ?_;refine N.cy 52 o (fun n k=>M.eql o o o) cp A ?_;refine N.cy 53 o (fun n k=>kj) cp A ?_;exact bd _ (bn (fun b=>some<|Value.bool b) (by simp[R]))<|dS<|dS<|dS<|dS<|dS<|iW.b o<|bn Value.bool R.symm;refine N.g1 49 o o o o A ?_;refine N.g1 50 o o o o A ?_;refine N.g1 51 o o o o A ?_;refine N.g1 52 o o o o A ?_;refine N.cy 53 o (fun n k=>jO) cp A ?_;exact bd _ (bn (fun b=>some<|Value.bool b) (by simp[R]))<|dS<|dS<|dS<|dS<|dS<|iW.b o<|bn Value.bool R.symm;refine N.cy 54 o (fun n k=>M.mL o o) cp A ?_;refine N.t1 55 o (fun n k=>kj) A ?_;exact bc _ (bn (fun b=>some<|Value.bool b) (by simp[Q]))<|dS<|dS<|dS<|dS<|dS<|dS<|iW.b o<|bn Value.bool (fB Q).symm;refine N.g1 46 o o o o A ?_;refine N.g1 47 o o o o A ?_;refine N.g1 48 o o o o A ?_;refine N.n1 49 o o o o A ?_;refine N.n1 50 o o o o A ?_;refine N.n1 51 o o o o A ?_;refine N.n1 52 o o o o A ?_;refine N.g1 53 o o o o A ?_;refine N.g1 54 o o o o A ?_;refine N.t1 55 o (fun n k=>jO) A ?_;exact bc _ (bn (fun b=>some<|Value.bool b) (by simp[Q]))<|dS<|dS<|dS<|dS<|dS<|dS<|dS<|dS<|dS<|dS<|iW.b o<|bn Value.bool (fG Q).symm;refine N.ba 56 ?_;refine fN.call o o kt o fE o o (lp (k6 x) (e:=1) (by first|exact Ej X|exact El X K L O P Q R|exact Ek X K L O P Q R|exact(fG (by rintro⟨aQ,aR,ca,cb,cc,cf,cj⟩;first|(exact absurd aQ ch)|(exact absurd aR ch)|omega)).symm) (w0:=w0)) ?_;rintro bR aP ⟨rfl,aA⟩;obtain⟨E,_⟩:=cv aA E;have aL:=A.al aA;refine N.cx aL ?_;refine N.ba 59 ?_;refine fN.call o o kt o fE o o (lp (decide (x.bF.length<=100)) (e:=4) (by first|(exact(fB I).symm)|(exact(fG I).symm)|(exact decide_eq_decide.2 I)) (w0:=w0)) ?_;rintro bS al ⟨rfl,aH⟩;obtain⟨E,_⟩:=cv aH E;have am:=(an.refl aP).al aH;refine N.cx am ?_;refine N.ba 60 ?_;refine eP o (c5 _ ([fR (decide (x.k=1\/x.k=2)) 3,fi x.br,fR (k6 x) 1,fR (decide (x.bF.length<=100)) 4]) pF nW nX) ?_;rintro bT aq ⟨aJ,ap,b5,aK⟩;have dB:aq.size=al.size+1:=by rw[aK];simp
 obtain⟨E,_⟩:=cv ap E;have aU:=(an.refl al).al ap;refine N.cx aU ?_;refine N.ba 61 ?_;refine cK py (pW (l:=[fR (decide (x.k=1\/x.k=2)) 3,fi x.br,fR (k6 x) 1,fR (decide (x.bF.length<=100)) 4]) (w0:=w0) aJ.rd.any) ?_;rintro bU be ⟨rfl,aB⟩;obtain⟨E,_⟩:=cv aB E;have aM:=(an.refl aq).al aB;refine N.cx aM ?_;have ax:=an.refl be;refine N.t1 62 o (fun n k=>fl) ax ?_;refine G.dn aW ?_;have aX:=ax;exact G.aQ o<|bg (rh x) _ ⟨o,E⟩;refine N.g1 17 o o o o B ?_;refine N.g1 18 o o o o B ?_;refine N.g1 19 o o o o B ?_;refine N.g1 20 o o o o B ?_;refine N.t1 21 o (fun n k=>jO) B ?_;refine N.bo 22 o B ?_;refine N.g1 23 o o o o B ?_;refine N.g1 24 o o o o B ?_;refine N.g1 25 o o o o B ?_;refine N.t1 26 o (fun n k=>jO) B ?_;refine N.bo 27 o B ?_;refine N.g1 28 o o o o B ?_;refine N.g1 29 o o o o B ?_;refine N.g1 30 o o o o B ?_;refine N.g1 31 o o o o B ?_;refine N.t1 32 o (fun n k=>jO) B ?_;refine N.bo 33 o B ?_;refine N.g1 34 o o o o B ?_;refine N.g1 35 o o o o B ?_;refine N.g1 36 o o o o B ?_;refine N.t1 37 o (fun n k=>jO) B ?_;refine N.bo 38 o B ?_;refine N.g1 39 o o o o B ?_;refine N.g1 40 o o o o B ?_;refine N.g1 41 o o o o B ?_;refine N.g1 42 o o o o B ?_;refine N.g1 43 o o o o B ?_;refine N.t1 44 o (fun n k=>jO) B ?_;refine N.bo 45 o B ?_;refine N.g1 46 o o o o B ?_;refine N.g1 47 o o o o B ?_;refine N.g1 48 o o o o B ?_;refine N.n1 49 o o o o B ?_;refine N.n1 50 o o o o B ?_;refine N.n1 51 o o o o B ?_;refine N.n1 52 o o o o B ?_;refine N.g1 53 o o o o B ?_;refine N.g1 54 o o o o B ?_;refine N.t1 55 o (fun n k=>jO) B ?_;refine N.ba 56 ?_;refine fN.call o o kt o fE o o (lp (k6 x) (e:=1) (by first|exact Ej X|exact El X K L O P Q R|exact Ek X K L O P Q R|exact(fG (by rintro⟨aQ,aR,ca,cb,cc,cf,cj⟩;first|(exact absurd aQ ch)|(exact absurd aR ch)|omega)).symm) (w0:=w0)) ?_;rintro bR aP ⟨rfl,aA⟩;obtain⟨E,_⟩:=cv aA E;have aL:=B.al aA;refine N.cx aL ?_;refine N.ba 59 ?_;refine fN.call o o kt o fE o o (lp (decide (x.bF.length<=100)) (e:=4) (by first|(exact(fB I).symm)|(exact(fG I).symm)|(exact decide_eq_decide.2 I)) (w0:=w0)) ?_;rintro bS al ⟨rfl,aH⟩;obtain⟨E,_⟩:=cv aH E;have am:=(an.refl aP).al aH;refine N.cx am ?_;refine N.ba 60 ?_;refine eP o (c5 _ ([fR (decide (x.k=1\/x.k=2)) 3,fi x.br,fR (k6 x) 1,fR (decide (x.bF.length<=100)) 4]) pF nW nX) ?_;rintro bT aq ⟨aJ,ap,b5,aK⟩;have dB:aq.size=al.size+1:=by rw[aK];simp
 obtain⟨E,_⟩:=cv ap E;have aU:=(an.refl al).al ap;refine N.cx aU ?_;refine N.ba 61 ?_;refine cK py (pW (l:=[fR (decide (x.k=1\/x.k=2)) 3,fi x.br,fR (k6 x) 1,fR (decide (x.bF.length<=100)) 4]) (w0:=w0) aJ.rd.any) ?_;rintro bU be ⟨rfl,aB⟩;obtain⟨E,_⟩:=cv aB E;have aM:=(an.refl aq).al aB;refine N.cx aM ?_;have ax:=an.refl be;refine N.t1 62 o (fun n k=>fl) ax ?_;refine G.dn aW ?_;have aX:=ax;exact G.aQ o<|bg (rh x) _ ⟨o,E⟩;intro bN bw bt;obtain⟨ck,bC⟩:=bt;obtain⟨F,ae,T,_⟩:=cg bC F ae T;refine G.a1 o ae.T.iQ cd gz h4 o<|G.O o (bz F iF) ?_
 refine G.bd o (fun(cl:Nat×Int)=>match cl with|(i,e)=>[(4,.int .i64 e),(76,x.c4.v),(77,.int .i64 x.bF.length),(78,.int .i64 i)])
  (fun(i,e) (H:Heap)=>(i<=x.bF.length)/\(e=if rh x≠0 then rh x else jK (x.bF.take i))/\an bw H)
  (fun(i,e)=>x.bF.length-i) (0,bN) ⟨I,(by rw[ck];split;rfl;rename_i h;simpa[jK]using h),W.refl _ _⟩ ?_
 rintro⟨i,e⟩ cx ⟨cD,he,ac⟩ cy c7;obtain⟨F,T,_⟩:=bG ac F T;refine G.ip o ?_ ?_<;>intro cA;have bl:i<x.bF.length:=by omega
 obtain⟨t,aZ⟩:∃t,t=x.bF[i]:=⟨_,o⟩;refine G.pp o (M.cw F i o iF kD o o) fun cC b6=>G.O o (M.cast (v2:= .agg (eH t).toArray) (bu b6.T s4 kD<|ib _) (by rw[aZ]))<|G.aR o (Z.bt zI) ?_;rintro v6 cq ⟨rfl,aa,bW,_⟩;have b8:=U.new ac.size;obtain⟨ac,_⟩:=cv bW ac;refine G.bl o (S.var aa _ (eH t) o o o o (ma t) kD (ib _) aO ((ea (ib _).symm))) ?_;rintro bi ⟨aa,b1⟩;obtain⟨ac,_⟩:=cz b1 ac b8;refine G.cJ o (fun n=>an bi n) [] o ?_;have C:=an.refl bi;refine N.bo 0 o C ?_;refine N.aK 1 nn bV C ?_;refine N.t1 2 o (fun n k=>aY (aa.T.aL k) cQ) C ?_;refine N.t1 3 o (fun n k=>M.geq o o o) C ?_;refine N.bo 4 o C ?_;refine N.mQ (d:=86) o (fun bY=>?_) fun bY=>?_;refine N.cy 5 o (fun n k=>M.hh (aa.T.aL k) o nn o bV) cp C ?_;refine N.cy 6 o (fun n k=>aY (aa.T.aL k) cQ) cp C ?_;refine N.cy 7 o (fun n k=>M.leq o o o) cp C ?_;refine N.t1 8 o (fun n k=>kj) C ?_;refine N.aK 10 nn bE C ?_;refine N.t1 11 o (fun n k=>M.cast (v2:=b4 t.i) (bu (((aa.T.drop 1).aL k).take 32) dj bE (by rw[pE];exact bJ _))<|dk<|pE _) C ?_;refine N.ba 9 ?_;refine fN.call o o kt o fE o o (lp (decide (1<=t.d/\t.d<=3)) (e:=3) (by first|(exact(fB I).symm)|(exact(fG I).symm)|(exact decide_eq_decide.2 I)) (w0:=w0)) ?_;rintro bZ aT ⟨rfl,aC⟩;obtain⟨ac,_⟩:=cv aC ac;have aN:=C.al aC;refine N.cx aN ?_;refine N.ba 12 ?_;refine cK pz (pY t.i (w0:=w0)) ?_;rintro bF bD ⟨rfl,ag⟩;obtain⟨ac,_⟩:=cv ag ac;have aE:=(an.refl aT).al ag;refine N.cx aE ?_;have ay:=an.refl bD;refine N.t1 13 o (fun n k=>M.mL o o) ay ?_;refine N.ba 14 ?_;refine cK kt (lp (decide (¬t.i=bO)) (e:=1) o (w0:=w0)) ?_;rintro bX av ⟨rfl,ah⟩;obtain⟨ac,_⟩:=cv ah ac;have aF:=ay.al ah;refine N.cx aF ?_;refine N.ba 15 ?_;refine eP o (c5 _ ([e,fR (decide (1<=t.d/\t.d<=3)) 3,fR (decide (¬t.i=bO)) 1]) pF nW nX) ?_;rintro bM aw ⟨a0,ai,b9,bq⟩;have b2:aw.size=av.size+1:=by rw[bq];simp
 obtain⟨ac,_⟩:=cv ai ac;have aG:=(an.refl av).al ai;refine N.cx aG ?_;refine N.ba 16 ?_;refine cK py (pW (l:=[e,fR (decide (1<=t.d/\t.d<=3)) 3,fR (decide (¬t.i=bO)) 1]) (w0:=w0) a0.rd.any) ?_;rintro bH c9 ⟨rfl,ak⟩;obtain⟨ac,_⟩:=cv ak ac;rw[Kd];have aI:=(an.refl aw).al ak;refine N.cx aI ?_;have az:=an.refl c9;refine N.t1 17 o (fun n k=>fl) az ?_;refine G.dn aW ?_;have aX:=az;exact G.O o bB<|G.aQ o<|c7 (i+1,if e≠0 then e else kc t) _ ⟨I,(by rw[he,DF bl,<-aZ];split<;>simp_all),ac⟩;refine N.g1 5 o o o o C ?_;refine N.g1 6 o o o o C ?_;refine N.g1 7 o o o o C ?_;refine N.t1 8 o (fun n k=>jO) C ?_;refine N.aK 10 nn bE C ?_;refine N.t1 11 o (fun n k=>M.cast (v2:=b4 t.i) (bu (((aa.T.drop 1).aL k).take 32) dj bE (by rw[pE];exact bJ _))<|dk<|pE _) C ?_;refine N.ba 9 ?_;refine fN.call o o kt o fE o o (lp (decide (1<=t.d/\t.d<=3)) (e:=3) (by first|(exact(fB I).symm)|(exact(fG I).symm)|(exact decide_eq_decide.2 I)) (w0:=w0)) ?_;rintro bZ aT ⟨rfl,aC⟩;obtain⟨ac,_⟩:=cv aC ac;have aN:=C.al aC;refine N.cx aN ?_;refine N.ba 12 ?_;refine cK pz (pY t.i (w0:=w0)) ?_;rintro bF bD ⟨rfl,ag⟩;obtain⟨ac,_⟩:=cv ag ac;have aE:=(an.refl aT).al ag;refine N.cx aE ?_;have ay:=an.refl bD;refine N.t1 13 o (fun n k=>M.mL o o) ay ?_;refine N.ba 14 ?_;refine cK kt (lp (decide (¬t.i=bO)) (e:=1) o (w0:=w0)) ?_;rintro bX av ⟨rfl,ah⟩;obtain⟨ac,_⟩:=cv ah ac;have aF:=ay.al ah;refine N.cx aF ?_;refine N.ba 15 ?_;refine eP o (c5 _ ([e,fR (decide (1<=t.d/\t.d<=3)) 3,fR (decide (¬t.i=bO)) 1]) pF nW nX) ?_;rintro bM aw ⟨a0,ai,b9,bq⟩;have b2:aw.size=av.size+1:=by rw[bq];simp
 obtain⟨ac,_⟩:=cv ai ac;have aG:=(an.refl av).al ai;refine N.cx aG ?_;refine N.ba 16 ?_;refine cK py (pW (l:=[e,fR (decide (1<=t.d/\t.d<=3)) 3,fR (decide (¬t.i=bO)) 1]) (w0:=w0) a0.rd.any) ?_;rintro bH c9 ⟨rfl,ak⟩;obtain⟨ac,_⟩:=cv ak ac;rw[Kd];have aI:=(an.refl aw).al ak;refine N.cx aI ?_;have az:=an.refl c9;refine N.t1 17 o (fun n k=>fl) az ?_;refine G.dn aW ?_;have aX:=az;exact G.O o bB<|G.aQ o<|c7 (i+1,if e≠0 then e else kc t) _ ⟨I,(by rw[he,DF bl,<-aZ];split<;>simp_all),ac⟩;exact G.rt o ⟨by rw[aD bj,he,Ty,e5 I],T⟩
abbrev av:=List UInt8
def blt(a b:av):Prop:=Op.bytesLess a b=true
instance (a b:av):Decidable (blt a b):=inferInstanceAs (Decidable (_=_))
def ps{a:av}:¬blt a a:=by
 unfold blt;induction a with
 |nil=>simp[Op.bytesLess]
 |cons x a ih=>simp only[Op.bytesLess];simpa using ih
def qh:∀{a b:av},¬blt a b->¬blt b a->a=b
 |[],[],_,_=>rfl
 |[],_::_,h,_=>by simp[blt,Op.bytesLess]at h
 |_::_,[],_,h=>by simp[blt,Op.bytesLess]at h
 |x::a,y::b,k,n=>by
  simp only[blt,Op.bytesLess]at k n;by_cases bc:x<y;simp[bc]at k;by_cases r:y<x;simp[r]at n;have:x=y:=by apply qx;rw[tJ]at bc r;omega
  subst this;rw[qh (a:=a) (b:=b) (by simpa[blt]using k) (by simpa[blt]using n)]
def r6:∀{a b c:av},blt a b->blt b c->blt a c
 |[],[],_,h,_=>by simp[blt,Op.bytesLess]at h
 |_::_,[],_,h,_=>by simp[blt,Op.bytesLess]at h
 |_,_::_,[],_,h=>by simp[blt,Op.bytesLess]at h
 |[],_::_,_::_,_,_=>by simp[blt,Op.bytesLess]
 |x::a,y::b,z::c,n,k=>by
  simp only[blt,Op.bytesLess,vx,lf,ob,beq_iff_eq]at n k⊢;rcases n with n|⟨rfl,n⟩;rcases k with k|⟨rfl,k⟩;left;rw[tJ]at*;omega;exact .inl n;rcases k with k|⟨rfl,k⟩;exact .inl k;exact .inr ⟨o,r6 n k⟩
def te{a b:av}(h:blt a b):¬blt b a:=fun k=>ps (a:=a) (r6 h k)
def qg{a b:av}(h:blt a b):a≠b:=fun e=>by subst e;exact ps h
def iH(l:List av):Prop:=l.Pairwise blt
def ur{l:List av}(h:iH l):l.Nodup:=by
 rw[vB];exact h.imp fun h=>qg h
def zd:∀{a b:List av},iH a->iH b->(∀x,x∈a↔x∈b)->a=b
 |[],[],_,_,_=>rfl
 |[],y::b,_,_,h=>by have:=(h y).2 fZ;cases this
 |x::a,[],_,_,h=>by have:=(h x).1 fZ;cases this
 |x::a,y::b,n,hb,h=>by
  unfold iH at n hb;rw[jU]at n hb;have e:x=y:=by
   rcases dI.1 ((h x).1 fZ)with e|k;exact e;rcases dI.1 ((h y).2 fZ)with e|A;exact e.symm;exact absurd (n.1 _ A)<|te<|hb.1 _ k
  subst e;congr 1;refine zd n.2 hb.2 fun z=>⟨fun r=>?_,fun r=>?_⟩;rcases dI.1 ((h z).1 (gx _ r))with e|k;subst e;exact absurd (n.1 _ r) (ps);exact k;rcases dI.1 ((h z).2 (gx _ r))with e|k;subst e;exact absurd (hb.1 _ r) (ps);exact k
abbrev ca:=List (av×Nat)
def cX(l:ca):Prop:=l.Pairwise (fun x y=>blt x.1 y.1)
def cX.rH{l:ca}(h:cX l):iH (l.map (·.1)):=by unfold iH;rw[su];exact h
def cX.nodup{l:ca}(h:cX l):(l.map (·.1)).Nodup:=ur h.rH
def cX.filter{l:ca}(h:cX l)(p:av×Nat->Bool):cX (l.filter p):=tK _ h
def hM:ca->av->Nat->ca
 |[],p,i=>[(p,i)]
 |x::l,p,i=>if blt x.1 p then x::hM l p i else if x.1=p then(p,i)::l else(p,i)::x::l
def rv(l:ca)(p:av)(i:Nat)(q:av):ax (hM l p i) q=if q=p then some i else ax l q:=by
 induction l with
 |nil=>simp[hM,ax]
 |cons x l ih=>
  unfold hM;split;rename_i h;simp only[ax,ih];by_cases k:q=x.1;have:¬q=p:=fun e=>qg h (by rw[<-k,e]);rw[aD k,aD k,au this];rw[au k,au k];split;rename_i r n;simp only[ax];by_cases k:q=p;simp[k];rw[au k,au k,au (fun e=>k (e.trans n))];simp only[ax]
def HP{l:ca}{p:av}{i:Nat}{x:av×Nat}(h:x∈hM l p i):x=(p,i)\/x∈l:=by
 induction l with
 |nil=>simp[hM]at h;exact .inl h
 |cons y l ih=>
  unfold hM at h;split at h;rcases dI.1 h with e|h;exact .inr (by rw[e];exact fZ);rcases ih h with e|h;exact .inl e;exact .inr (gx _ h);split at h;rcases dI.1 h with e|h;exact .inl e;exact .inr (gx _ h);rcases dI.1 h with e|h;exact .inl e;exact .inr h
def s_{l:ca}(h:cX l){p:av}{i:Nat}:cX (hM l p i):=by
 induction l with
 |nil=>exact Bt _ _
 |cons x l ih=>
  unfold cX at h⊢;rw[jU]at h;unfold hM;split;rename_i n;rw[jU];refine⟨fun y hy=>?_,ih h.2⟩;rcases HP hy with e|hy;rw[e];exact n;exact h.1 y hy;rename_i n;split;rename_i r;rw[jU];exact⟨fun y hy=>by rw[<-r];exact h.1 y hy,h.2⟩;rename_i r;have k:blt p x.1:=kQ (fun k=>r (qh n k));rw[jU];refine⟨fun y hy=>?_,jU.2 h⟩;rcases dI.1 hy with e|hy;rw[e];exact k;exact r6 k<|h.1 y hy
def s8{a b:ca}(n:cX a)(hb:cX b)(h:∀p,ax a p=ax b p):a=b:=by
 have k:a.map (·.1)=b.map (·.1):=zd n.rH hb.rH (fun x=>by rw[<-gM,<-gM,h]);have key:∀(a b:ca),a.map (·.1)=b.map (·.1)->cX a->cX b->(∀p,ax a p=ax b p)->a=b:=by
  intro a;induction a with
  |nil=>intro b k _ _ _;cases b with
   |nil=>rfl
   |cons y b=>cases k
  |cons x a ih=>
   intro b k n hb h;cases b with
   |nil=>cases k
   |cons y b=>
    simp only[dQ,j6]at k;have C:x.2=y.2:=by
     have:=h x.1;simp only[ax,aD,k.1]at this;exact mG this
    have e:x=y:=Prod.ext k.1 C;subst e;congr 1;refine ih b k.2 (jU.1 n).2 (jU.1 hb).2 fun p=>?_;have A:=h p;simp only[ax]at A;by_cases r:p=x.1;have bx:ax a p=none:=Bu.1 (fun q=>by
     rw[gM]at q;obtain⟨z,B,e⟩:=dp.1 q;exact qg ((jU.1 n).1 z B) (by rw[e,r]))
    have fr:ax b p=none:=Bu.1 (fun q=>by
     rw[gM]at q;obtain⟨z,B,e⟩:=dp.1 q;exact qg ((jU.1 hb).1 z B) (by rw[e,r]))
    rw[bx,fr];rw[au r,au r]at A;exact A
 exact key a b k n hb h
def z_{l:ca}(h:cX l){p:av}:cX (ey l p):=tK _ h
def yG{l:ca}{f:av->Bool}(p:av):ax (l.filter (fun x=>f x.1)) p=if f p=true then ax l p else none:=by
 induction l with
 |nil=>simp[ax]
 |cons x l ih=>
  by_cases n:f x.1=true;rw[oa (by simpa using n)];simp only[ax,ih];by_cases k:p=x.1;rw[aD k,aD k,k,aD n];rw[au k,au k];rw[n_ (by simpa using n),ih];simp only[ax];by_cases k:p=x.1;rw[k,au n,au n];rw[au k]
def pV(c:UInt8):Bool:=(97<=c&&c<=122)||(48<=c&&c<=57)||c==46||c==95||c==45||c==47
def zo(p:av):Bool:=(List.range p.length).all (fun i=> !(p.getD i 0==47&&(i==0||i==p.length-1||p.getD (i-1) 0==47)))
def cR(p:av):Bool:=decide (1<=p.length)&&decide (p.length<=100)&&p.all pV&&zo p
def nz(p:av):av:=p.take (p.length-1-(p.reverse.takeWhile (fun c=>c≠47)).length)
def bI(p:av):av:=if cR p=true then nz p else[]
structure dy where
 g:av
 n:av
 f:Option Nat
 deriving DecidableEq
def dy.ap(c:dy)(l:ca):ca:=
 let k:=if c.g=[]then l else ey l c.g
 match c.f with
 |none=>k
 |some i=>hM k c.n i
def dy.dir(c:dy):av:=bI (if c.g=[]then c.n else c.g)
def iX(cs:List dy)(l:ca):ca:=cs.foldl (fun l c=>c.ap l) l
def Ed(a b:List dy)(l:ca):iX (a++b) l=iX b (iX a l):=by unfold iX;rw[oc]
def r5{l:ca}(h:cX l)(c:dy):cX (c.ap l):=by
 unfold dy.ap;have k:cX (if c.g=[]then l else ey l c.g):=by split;exact h;exact z_ h
 cases c.f with
 |none=>exact k
 |some i=>exact s_ k
def u2{l:ca}(h:cX l):∀cs:List dy,cX (iX cs l):=by
 intro cs;induction cs generalizing l with
 |nil=>exact h
 |cons c cs ih=>exact ih<|r5 h c
def dy.at(c:dy)(q:av)(J:Option Nat):Option Nat:=
 match c.f with
 |none=>if c.g≠[]/\q=c.g then none else J
 |some i=>if q=c.n then some i else if c.g≠[]/\q=c.g then none else J
def ng(c:dy)(l:ca)(q:av):ax (c.ap l) q=c.at q (ax l q):=by
 unfold dy.ap dy.at;cases c.f with
 |none=>
  simp only;by_cases k:c.g=[];simp[k];rw[au k,mK];simp[k]
 |some i=>
  simp only;rw[rv];by_cases k:c.g=[];simp[k];rw[au k,mK];simp[k]
structure cn where
 b:Bool
 d:List UInt8
 deriving DecidableEq,Inhabited
structure fg where
 now:List UInt8
 stays:List UInt8
 w:List cn
 deriving DecidableEq,Inhabited
def cn.on(w:cn)(b:List UInt8)(n:Nat):List UInt8:=(if w.b=true then b else[])++w.d.take n
def cn.ways(w:cn):Nat:=max 1 (2*w.d.length)
def cn.part(w:cn)(b:List UInt8)(k:Nat):List UInt8:=
 if k<w.d.length\/w.d.length=0 then w.on b (min (k+1) w.d.length)else w.on b (k-w.d.length)++List.replicate (w.d.length-(k-w.d.length)) 0
def hg(ws:List cn):Nat:=1+(ws.map cn.ways).sum
def im:List cn->List UInt8->Nat->List UInt8
 |[],b,_=>b
 |w::ws,b,k=>if k=0 then b else if k<=w.ways then w.part b (k-1)else im ws (w.on b w.d.length) (k-w.ways)
def hs(ws:List cn)(b:List UInt8):List UInt8:=ws.foldl (fun b w=>w.on b w.d.length) b
structure ao where
 cap:Nat
 en:Nat
 fs:List fg
 now:ca
 stays:ca
 log:List dy
 ops:Nat
 left:Nat
 dead:Bool
def aM(fs:List fg)(i:Nat):fg:=fs.getD i ⟨[],[],[]⟩
def ao.empty(cap en:Nat):ao:=⟨cap,en,[],[],[],[],0,0,false⟩
def ao.begin(d:ao):Bool×ao:=
 if d.dead=true then(false,d)
 else if d.left=1 then(false,{d with left:=0,dead:=true})
 else(true,{d with left:=d.left-1,ops:=d.ops+1})
def ao.look(d:ao)(p:av):Nat:=if cR p=true then(if(ax d.now p).isSome then 0 else 2)else 7
def kI(fs:List fg)(l:ca):Nat:=(l.map (fun x=>(aM fs x.2).now.length)).sum
def ao.used(d:ao):Nat:=kI d.fs d.now
def ao.c0(d:ao)(n:av):List dy:=d.log.filter (fun c=>c.dir=n)
def ao.change(d:ao)(c:dy):ao:={d with now:=c.ap d.now,log:=d.log++[c]}
def ao.make(d:ao)(p:av):ao×Nat:=match ax d.now p with
 |some i=>(d,i)
 |none=>(({d with fs:=d.fs++[⟨[],[],[]⟩]}:ao).change ⟨[],p,some d.fs.length⟩,d.fs.length)
def ao.dO(d:ao)(p:av):List UInt8:=match ax d.now p with
 |some i=>(aM d.fs i).now
 |none=>[]
def ao.fk(d:ao)(i:Nat)(x:fg):ao:={d with fs:=d.fs.set i x}
def ao.write(d:ao)(p:av)(w:cn):ao:=
 let(d2,i):=d.make p
 d2.fk i ⟨w.on (aM d2.fs i).now w.d.length,(aM d2.fs i).stays,(aM d2.fs i).w++[w]⟩
def ao.iL(d:ao)(p:av)(w:cn):Nat:=
 if cR p=false then 7
 else if d.en<(w.on (d.dO p) w.d.length).length then 5
 else if d.cap+(d.dO p).length<d.used+(w.on (d.dO p) w.d.length).length then 12
 else 0
def ao.lay(d:ao)(p:av)(w:cn):Nat×ao:=
 let(g,d1):=d.begin
 if g=false then(11,d1)else(d1.iL p w,if d1.iL p w=0 then d1.write p w else d1)
def ao.uD(d:ao)(i:Nat):ao:=d.fk i ⟨(aM d.fs i).now,(aM d.fs i).now,[]⟩
def ao.sync(d:ao)(p:av):Nat×ao:=
 let(g,d1):=d.begin
 if g=false then(11,d1)else(d1.look p,if d1.look p=0 then d1.uD ((ax d1.now p).getD 0)else d1)
def ao.oo(d:ao)(a b:av):Nat:=
 if cR a=false\/cR b=false then 7 else if bI a≠bI b then 13 else d.look a
def ao.rename(d:ao)(a b:av):Nat×ao:=
 let(g,d1):=d.begin
 if g=false then(11,d1)else(d1.oo a b,if d1.oo a b=0/\a≠b then d1.change ⟨a,b,some ((ax d1.now a).getD 0)⟩else d1)
def merge(now stays:ca)(n:av):ca:=(now.filter (fun x=>bI x.1=n)).foldl (fun l x=>hM l x.1 x.2) (stays.filter (fun x=> !decide (bI x.1=n)))
def ao.nL(d:ao)(n:av):ao:={d with stays:=merge d.now d.stays n,log:=d.log.filter (fun c=> !decide (c.dir=n))}
def lL(n:av):Nat:=if n≠[]/\cR n=false then 7 else 0
def ao.iS(d:ao)(n:av):Nat×ao:=
 let(g,d1):=d.begin
 if g=false then(11,d1)else(lL n,if lL n=0 then d1.nL n else d1)
def ao.fC(d:ao)(p:av):Nat:=if d.dead=true then 11 else d.look p
def ao.cB(d:ao)(p:av):List UInt8:=if d.fC p=0 then d.dO p else[]
def ao.stop(d:ao)(n:Nat):ao:={d with left:=n}
def gJ(picks:List Int)(at_ of:Nat):Nat:=if at_<picks.length then(picks.getD at_ 0%(of:Int)).toNat else 0
def eF(picks:List Int)(d:ao)(s:ca×Nat)(n:av):ca×Nat:=
 if d.c0 n=[]then s else(iX ((d.c0 n).take (gJ picks s.2 ((d.c0 n).length+1))) s.1,s.2+1)
def hS(picks:List Int)(s:List fg×Nat)(x:av×Nat):List fg×Nat:=
 let f:=aM s.1 x.2
 if f.w=[]then s
 else
  let b:=im f.w f.stays (gJ picks s.2 (hg f.w))
  (s.1.set x.2 ⟨b,b,[]⟩,s.2+1)
def qt:List av->av->List av
 |[],p=>[p]
 |x::l,p=>if blt x p then x::qt l p else if x=p then x::l else p::x::l
def ao.sa(d:ao):List av:=(d.log.map dy.dir).foldl qt []
def ao.m4(d:ao)(picks:List Int):ca×Nat:=d.sa.foldl (eF picks d) (d.stays,0)
def ao.qk(d:ao)(picks:List Int):List fg×Nat:=(d.m4 picks).1.foldl (hS picks) (d.fs,(d.m4 picks).2)
def ao.mE(d:ao)(picks:List Int):ao:=
 {d with fs:=(d.qk picks).1,now:=(d.m4 picks).1,stays:=(d.m4 picks).1,log:=[],left:=0,dead:=false}
def HO{l:List av}{p q:av}:q∈qt l p↔q=p\/q∈l:=by
 induction l with
 |nil=>simp[qt]
 |cons x l ih=>
  unfold qt;split;simp only[dI,ih];constructor;rintro(h|h|h);exact .inr (.inl h);exact .inl h;exact .inr (.inr h);rintro(h|h|h);exact .inr (.inl h);exact .inl h;exact .inr (.inr h);split;rename_i h;subst h;simp only[dI];constructor;rintro(h|h);exact .inl h;exact .inr (.inr h);rintro(h|h|h);exact .inl h;exact .inl h;exact .inr h;simp only[dI]
def SM{l:List av}(h:iH l)(p:av):iH (qt l p):=by
 induction l with
 |nil=>exact Bt _ _
 |cons x l ih=>
  unfold iH at h⊢;have r:=h;rw[jU]at h;unfold qt;split;rename_i n;rw[jU];refine⟨fun y hy=>?_,ih h.2⟩;rcases HO.1 hy with e|hy;rw[e];exact n;exact h.1 y hy;rename_i n;split;exact r;rename_i A;have k:blt p x:=kQ (fun k=>A (qh n k));rw[jU];refine⟨fun y hy=>?_,r⟩;rcases dI.1 hy with e|hy;rw[e];exact k;exact r6 k<|h.1 y hy
def GU{m:List av}:∀{l:List av},iH l->iH (m.foldl qt l)/\∀q,q∈m.foldl qt l↔q∈m\/q∈l:=by
 induction m with
 |nil=>intro l h;exact⟨h,fun q=>by simp⟩
 |cons p m ih=>
  intro l h;obtain⟨k,n⟩:=ih (SM h p);refine⟨k,fun q=>?_⟩;rw[kO,n,HO,dI];constructor;rintro(h|h|h);exact .inl (.inr h);exact .inl (.inl h);exact .inr h;rintro((h|h)|h);exact .inr (.inl h);exact .inl h;exact .inr (.inr h)
def ao.FT(d:ao):iH d.sa:=(GU List.Pairwise.nil).1
def ao.QN(d:ao)(n:av):n∈d.sa↔d.c0 n≠[]:=by
 unfold ao.sa;rw[(GU List.Pairwise.nil).2];unfold ao.c0;rw[ne_eq,rn];simp
def vf{picks:List Int}{d:ao}{s:ca×Nat}{n:av}(h:d.c0 n=[]):eF picks d s n=s:=by unfold eF;rw[aD h]
def Oy(d:ao)(picks:List Int):∀(L:List av) (s:ca×Nat),L.foldl (eF picks d) s=(L.filter (fun n=> !(d.c0 n).isEmpty)).foldl (eF picks d) s:=by
 intro L;induction L with
 |nil=>intro s;rfl
 |cons n L ih=>
  intro s;rw[kO];by_cases h:d.c0 n=[];rw[n_ (by simp[h]),vf h,ih];rw[oa (by simpa using h),kO,ih]
def ao.Ox(d:ao)(picks:List Int){L:List av}(r:iH L)(h:∀n,d.c0 n≠[]->n∈L):L.foldl (eF picks d) (d.stays,0)=d.m4 picks:=by
 unfold ao.m4;rw[Oy];congr 1;refine zd (tK _ r) d.FT fun n=>?_;rw[iK,d.QN];constructor;rintro⟨_,k⟩;simpa using k;intro k;exact⟨h n k,by simpa using k⟩
def QT{l:ca}:∀(m:ca) (q:av),cX l->ax (l.foldl (fun l x=>hM l x.1 x.2) m) q=match ax l q with|some i=>some i|none=>ax m q:=by
 induction l with
 |nil=>intro m q _;rfl
 |cons x l ih=>
  intro m q h;unfold cX at h;rw[jU]at h;rw[kO,ih _ _ h.2,rv];simp only[ax];by_cases k:q=x.1;have:ax l q=none:=Bu.1 (fun c=>by
   rw[gM]at c;obtain⟨z,n,e⟩:=dp.1 c;exact qg (h.1 z n) (by rw[e,k]))
  rw[aD k,aD k,this];rw[au k,au k]
def oe{now stays:ca}(h:cX now)(n q:av):ax (merge now stays n) q=if bI q=n then ax now q else ax stays q:=by
 unfold merge;rw[QT _ _ (h.filter _),yG (f:=fun p=>decide (bI p=n)),yG (f:=fun p=> !decide (bI p=n))];by_cases k:bI q=n;simp only[k,decide_true,if_true,vG,nb,if_false];cases ax now q<;>rfl;simp[k]
def LQ{l:ca}:∀m:ca,cX m->cX (l.foldl (fun l x=>hM l x.1 x.2) m):=by
 induction l with
 |nil=>intro m h;exact h
 |cons x l ih=>intro m h;exact ih _<|s_ h
def s9{now stays:ca}(h:cX stays)(n:av):cX (merge now stays n):=LQ _ (h.filter _)
def lcs{α:Type}[DecidableEq α]:List α->List α->Nat
 |[],_=>0
 |_::_,[]=>0
 |x::xs,y::ys=>if x=y then lcs xs ys+1 else max (lcs xs (y::ys)) (lcs (x::xs) ys)
termination_by a b => a.length + b.length
def uT{α:Type}[DecidableEq α]:List α->List α->List Int
 |[],[]=>[]
 |[],_::ys=>2::uT [] ys
 |_::xs,[]=>1::uT xs []
 |x::xs,y::ys=>if x=y then 0::uT xs ys else if lcs xs (y::ys)=lcs (x::xs) (y::ys)then 1::uT xs (y::ys)else 2::uT (x::xs) ys
termination_by a b => a.length + b.length
def B7{κ β:Type}[DecidableEq κ]{k s:κ}{b:β}:∀{m:List (κ×β)},ax (m++[(s,b)]) k=(ax m k).or (if k=s then some b else none)
 |[]=>by by_cases h:k=s<;>simp[ax,h]
 |(a,c)::m=>by
  simp only[me,ax];split;rfl;exact B7
def fh(l:List (av×aP)):Prop:=l.Pairwise (fun x y=>blt x.1 y.1)
def fh.rH{l:List (av×aP)}(h:fh l):iH (l.map (·.1)):=by unfold iH;rw[su];exact h
def fh.nodup{l:List (av×aP)}(h:fh l):(l.map (·.1)).Nodup:=ur h.rH
def fh.nil:fh ([]:List (av×aP)):=List.Pairwise.nil
def fh.tail{x:av×aP}{l:List (av×aP)}(h:fh (x::l)):fh l:=(jU.1 h).2
def gr:List (av×aP)->av->aP->List (av×aP)
 |[],p,i=>[(p,i)]
 |x::l,p,i=>if x.1=p then(p,i)::l else if blt p x.1 then(p,i)::x::l else x::gr l p i
def v_{l:List (av×aP)}{p:av}{i:aP}{q:av}(h:fh l):ax (gr l p i) q=if q=p then some i else ax l q:=by
 induction l with
 |nil=>simp[gr,ax]
 |cons x l ih=>
  unfold gr;split;rename_i r;simp only[ax];by_cases k:q=p;simp[k];rw[au k,au k,au (fun e=>k (e.trans r))];split;simp only[ax];simp only[ax,ih h.tail];by_cases k:q=x.1;rw[aD k,aD k,au (fun e=>by rename_i n _;exact n (by rw[<-k,e]))];rw[au k,au k]
def yE{l:List (av×aP)}{p:av}{i:aP}{x:av×aP}(h:x∈gr l p i):x=(p,i)\/x∈l:=by
 induction l with
 |nil=>simp[gr]at h;exact .inl h
 |cons y l ih=>
  unfold gr at h;split at h;rcases dI.1 h with e|h;exact .inl e;exact .inr (gx _ h);split at h;rcases dI.1 h with e|h;exact .inl e;exact .inr h;rcases dI.1 h with e|h;exact .inr (by rw[e];exact fZ);rcases ih h with e|h;exact .inl e;exact .inr (gx _ h)
def tB{l:List (av×aP)}(h:fh l){p:av}{i:aP}:fh (gr l p i):=by
 induction l with
 |nil=>exact Bt _ _
 |cons x l ih=>
  have aj:=jU.1 h;unfold gr;split;rename_i k;exact jU.2 ⟨fun y hy=>by rw[<-k];exact aj.1 y hy,aj.2⟩;split;rename_i n k;refine jU.2 ⟨fun y hy=>?_,h⟩;rcases dI.1 hy with e|hy;rw[e];exact k;exact r6 k<|aj.1 y hy;rename_i n k;refine jU.2 ⟨fun y hy=>?_,ih aj.2⟩;rcases yE hy with e|hy;rw[e];refine kQ fun r=>n ?_;exact qh r k;exact aj.1 y hy
def A7{l:List (av×aP)}(h:fh l){p:av}:fh (ey l p):=tK _ h
def yD{l:List (av×aP)}{p:av}{x:av×aP}(h:x∈ey l p):x∈l/\x.1≠p:=by
 have:=iK.1 h;exact⟨this.1,by simpa using this.2⟩
def Ja{α:Type}{R:α->α->Prop}(A:∀x,¬R x x)(wQ:∀x y,R x y->¬R y x):∀{a b:List α},a.Pairwise R->b.Pairwise R->(∀x,x∈a↔x∈b)->a=b
 |[],[],_,_,_=>rfl
 |[],y::b,_,_,h=>by have:=(h y).2 fZ;cases this
 |x::a,[],_,_,h=>by have:=(h x).1 fZ;cases this
 |x::a,y::b,r,hb,h=>by
  rw[jU]at r hb;have e:x=y:=by
   rcases dI.1 ((h x).1 fZ)with e|k;exact e;rcases dI.1 ((h y).2 fZ)with e|B;exact e.symm;exact absurd (r.1 _ B)<|wQ _ _<|hb.1 _ k
  subst e;congr 1;refine Ja A wQ r.2 hb.2 fun z=>⟨fun n=>?_,fun n=>?_⟩;rcases dI.1 ((h z).1 (gx _ n))with e|k;subst e;exact absurd (r.1 _ n)<|A _;exact k;rcases dI.1 ((h z).2 (gx _ n))with e|k;subst e;exact absurd (hb.1 _ n)<|A _;exact k
def A8{a b:List (av×aP)}(A:fh a)(hb:fh b)(h:∀q,ax a q=ax b q):a=b:=
 Ja (R:=fun x y:av×aP=>blt x.1 y.1) (fun x=>ps) (fun x y=>te) A hb (fun x=>by
  have r:=h x.1;constructor;intro n;have k:=o0 A.nodup (show(x.1,x.2)∈a from n);rw[r]at k;exact E.ru k;intro n;have k:=o0 hb.nodup (show(x.1,x.2)∈b from n);rw[<-r]at k;exact E.ru k)
def ub{α:Type}[DecidableEq α]:∀{a b:List α},a.Nodup->(∀k∈a,k∈b)->a.length<=b.length
 |[],b,_,_=>gH _
 |x::a,b,ar,Y=>by
  rw[oV]at ar;have h:=ub (b:=b.erase x) ar.2 (fun k n=>(List.mem_erase_of_ne (fun e=>ar.1 (by rw[<-e];exact n))).2 (Y k (gx _ n)));have r:=Y x fZ;rw[Hj r]at h;have:=List.length_pos_of_mem r;simp only[fA];omega
def B4{a b:List (av×aP)}(B:(a.map (·.1)).Nodup)(hb:(b.map (·.1)).Nodup)(h:∀q,ax a q=ax b q):a.length=b.length:=by
 have r:=ub B (fun k n=>by rw[<-gM,<-h,gM];exact n);have A:=ub hb (fun k n=>by rw[<-gM,h,gM];exact n);rw[dK,dK]at r A;omega
def G0(l:List (av×aP))(p:av)(i:aP):(gr l p i).length<=l.length+1:=by
 induction l with
 |nil=>simp[gr]
 |cons x l ih=>unfold gr;split<;>(try split)<;>simp<;>omega
def Px{l:List (av×aP)}{p:av}{i:aP}(B:k<l.length)(A:∀j (h:j<l.length),j<k->blt l[j].1 p)(r:l[k].1=p):gr l p i=l.set k (p,i):=by
 induction l generalizing k with
 |nil=>simp at B
 |cons x l ih=>
  cases k with
  |zero=>simp only[pM]at r;rw[gr,aD r];rfl
  |succ k=>
   have n:=A 0 a_ I;simp only[pM]at n;rw[gr,au (qg n),au (te n),Bj];congr 1;exact ih (by simpa using B) (fun j h C=>by have:=A (j+1) bU I;simpa using this) (by simpa using r)
def Ba{l:List (av×aP)}{p:av}{i:aP}(B:k<=l.length)(r:∀j (h:j<l.length),j<k->blt l[j].1 p)(A:∀h:k<l.length,blt p l[k].1):gr l p i=l.take k++(p,i)::l.drop k:=by
 induction l generalizing k with
 |nil=>simp[gr]
 |cons x l ih=>
  cases k with
  |zero=>
   have n:=A a_;simp only[pM]at n;rw[gr,au (fun e=>qg n e.symm),aD n];rfl
  |succ k=>
   have n:=r 0 a_ I;simp only[pM]at n;rw[gr,au (qg n),au (te n),vH,List.drop_succ_cons,me];congr 1;exact ih (by simpa using B) (fun j h C=>by have:=r (j+1) bU I;simpa using this) fun h=>by have:=A bU;simpa using this
def dX.p(x:dX):dX:={x with c4:=dq}
abbrev gb:=List (av×eb)
abbrev oD:=List (av×List eo)
abbrev nP:=List (av×List UInt8)
structure eS where
 ab:List UInt8
 cC:gb
 eT:oD
 q:dX
 jC:nP
def cH(l:List eh):gb:=l.map (fun x=>(x.n,x.i))
def dL(l:List ir):oD:=l.map (fun x=>(x.n,x.l))
def dV(l:List b1):nP:=l.map (fun x=>(x.k.1,x.d))
def cf.m(s:cf):eS:=⟨s.ab,cH s.bK,dL s.cT,s.q.p,dV s.el⟩
def fS(l:gb)(m:b9):gb:=if m.w=bO then ey l m.n else gr l m.n m.w
def lh(l:List eo):List eo:=l.drop (l.length-100)
def j9(l:oD)(m:b9):oD:=if m.w=bO then ey l m.n else gr l m.n (lh ((ax l m.n).getD []++[⟨m.J,m.w,m.y⟩]))
def jf(l:nP)(el:List b1):nP:=el.foldl (fun l x=>gr l x.k.1 x.d) l
def eS.ap(s:eS)(t:b5):eS:=⟨if t.bP=true then t.ab else s.ab,t.ml.foldl fS s.cC,t.ml.foldl j9 s.eT,if t.Y=true then(if t.q.k=0 then ga else t.q.p)else s.q,jf s.jC t.el⟩
def kK:eS:=⟨[],[],[],ga,[]⟩
def k7(l:gb)(n:av):eb:=(ax l n).getD bO
def jF(l:gb)(pre:List b9)(m:b9):Int:=if fi m.n≠0 then 7 else if m.n∈pre.map (·.n)then 18 else if k7 l m.n≠m.J then 21 else if m.w=m.J then 26 else 0
def ll(l:gb):List b9->List b9->Int
 |_,[]=>0
 |pre,m::r=>if jF l pre m≠0 then jF l pre m else ll l (pre++[m]) r
def kM(u:gb)(m:b9):Bool:=decide (m.J=bO/\m.w≠bO)&&(u.map (·.1)).any (fun x=>decide (x≠m.n)&&m2 m.n x)
def tv(u:gb)(l:List b9):Int:=if l.any (kM u)=true then 13 else 0
def ix(l:gb)(ml:List b9):Int:=if ll l [] ml≠0 then ll l [] ml else if 200<(ml.foldl fS l).length then 4 else tv (ml.foldl fS l) ml
def mi(l:nP)(el:List b1):Int:=if lU el≠0 then lU el else if 500<(jf l el).length then 4 else 0
def iv(t:b5):Int:=if t.bP=true/\t.ab≠[]then fi t.ab else 0
def jc(t:b5):Int:=if t.Y=true/\t.q.k≠0 then jI t.q else 0
def hF(t:b5):Int:=if t.bP=false/\t.Y=false/\t.ml=[]/\t.el=[]then 1 else 0
def fx(s:eS)(t:b5):Int:=if hF t≠0 then hF t else if iv t≠0 then iv t else if ix s.cC t.ml≠0 then ix s.cC t.ml else if jc t≠0 then jc t else mi s.jC t.el
structure eS.Ok (s:eS):Prop where
 cJ:fh s.cC
 Rt:∀x∈s.cC,x.2≠bO
 dh:s.eT.map (·.1)=s.cC.map (·.1)
 oZ:fh s.jC
 jl:s.cC.length<=200
 mm:s.jC.length<=500
 bK:∀x∈s.cC,x.1.length<=60
 cT:∀x∈s.eT,x.2.length<=100
 md:∀x∈s.jC,x.2.length<=65536
 mT:s.q.bF.length<=100
def ph:kK.Ok:=⟨fh.nil,(fun x h=>by cases h),rfl,fh.nil,by simp[kK],by simp[kK],(fun x h=>by cases h),(fun x h=>by cases h),(fun x h=>by cases h),by simp[kK,ga]⟩
def eS.Ok.fK{s:eS}(h:s.Ok):fh s.eT:=by
 have k:=h.cJ.rH;rw[<-h.dh]at k;unfold iH at k;rw[su]at k;exact k
def wa{l:gb}(h:fh l)(m:b9)(q:av):ax (fS l m) q=if q=m.n then(if m.w=bO then none else some m.w)else ax l q:=by
 unfold fS;split;rw[mK];rw[v_ h]
def xZ{l:gb}(h:fh l)(m:b9):fh (fS l m):=by
 unfold fS;split;exact A7 h;exact tB h
def Pv{l:oD}(h:fh l){m:b9}:fh (j9 l m):=by
 unfold j9;split;exact A7 h;exact tB h
def oS:∀{ml:List b9} {l:gb},fh l->fh (ml.foldl fS l)
 |[],_,h=>h
 |m::ml,l,h=>oS (ml:=ml) (xZ h m)
def xY:∀{ml:List b9} {l:oD},fh l->fh (ml.foldl j9 l)
 |[],_,h=>h
 |m::ml,l,h=>xY (ml:=ml) (Pv h)
def xX:∀{el:List b1} {l:nP},fh l->fh (jf l el)
 |[],_,h=>h
 |m::el,l,h=>xX (el:=el) (tB h)
def Hr{β γ:Type}:∀{l:List (av×β)} {k:List (av×γ)} (p:av) (b:β) (c:γ),l.map (·.1)=k.map (·.1)->(gr l p b).map (·.1)=(gr k p c).map (·.1)
 |[],[],p,b,c,_=>rfl
 |x::l,[],p,b,c,h=>by simp at h
 |[],y::k,p,b,c,h=>by simp at h
 |x::l,y::k,p,b,c,h=>by
  simp only[dQ,j6]at h;have ih:=Hr p b c h.2;unfold gr;rw[h.1];split;simp[h.2];split;simp[h.1,h.2];simp[h.1,ih]
def Hq{β γ:Type}:∀{l:List (av×β)} {k:List (av×γ)} (p:av),l.map (·.1)=k.map (·.1)->(ey l p).map (·.1)=(ey k p).map (·.1)
 |[],[],p,_=>rfl
 |x::l,[],p,h=>by simp at h
 |[],y::k,p,h=>by simp at h
 |x::l,y::k,p,h=>by
  simp only[dQ,j6]at h;have ih:=Hq p h.2;unfold ey at ih⊢;by_cases n:y.1=p;rw[n_ (by simp[h.1,n]),n_ (by simp[n]),ih];rw[oa (by simp[h.1,n]),oa (by simp[n]),dQ,dQ,h.1,ih]
def yx:∀{ml:List b9} {l:oD} {k:gb},l.map (·.1)=k.map (·.1)->(ml.foldl j9 l).map (·.1)=(ml.foldl fS k).map (·.1)
 |[],_,_,h=>h
 |m::ml,l,k,h=>by
  refine yx (ml:=ml) (l:=j9 l m) (k:=fS k m) ?_;unfold j9 fS;split;exact Hq _ h;exact Hr _ _ _ h
def Q1{l:gb}{m:b9}{x:av×eb}(h:x∈fS l m):x∈l\/(x=(m.n,m.w)/\m.w≠bO):=by
 unfold fS at h;split at h;exact .inl (yD h).1;rename_i k;rcases yE h with e|h;exact .inr ⟨e,k⟩;exact .inl h
def yJ:∀{ml:List b9} {l:gb} {x:av×eb},x∈ml.foldl fS l->x∈l\/∃m∈ml,x=(m.n,m.w)/\m.w≠bO
 |[],_,_,h=> .inl h
 |m::ml,l,x,h=>by
  rcases yJ (ml:=ml) (l:=fS l m) h with h|⟨y,hy,h⟩;rcases Q1 h with h|h;exact .inl h;exact .inr ⟨m,fZ,h⟩;exact .inr ⟨y,gx _ hy,h⟩
def yz(l:List eo):(lh l).length<=100:=by unfold lh;rw[h6];omega
def Ch:∀{ml:List b9} {l:oD},(∀x∈l,x.2.length<=100)->∀x∈ml.foldl j9 l,x.2.length<=100
 |[],_,h=>h
 |m::ml,l,h=>by
  refine Ch (ml:=ml) (l:=j9 l m) fun x k=>?_;unfold j9 at k;split at k;exact h x (yD k).1;rcases yE k with e|k;rw[e];exact yz _;exact h x k
def D9:∀{el:List b1} {l:nP} {x:av×List UInt8},x∈jf l el->x∈l\/∃m∈el,x=(m.k.1,m.d)
 |[],_,_,h=> .inl h
 |m::el,l,x,h=>by
  rcases D9 (el:=el) (l:=gr l m.k.1 m.d) h with h|⟨y,hy,h⟩;rcases yE h with h|h;exact .inr ⟨m,fZ,h⟩;exact .inl h;exact .inr ⟨y,gx _ hy,h⟩
def ua:∀{ml:List b9} {l:gb} {pre:List b9},ll l pre ml=0->∀m∈ml,fi m.n=0
 |[],_,_,_,m,h=>by cases h
 |x::ml,l,pre,h,m,hm=>by
  rw[ll]at h;by_cases k:jF l pre x≠0;rw[aD k]at h;exact absurd h k;rw[au k]at h;rcases dI.1 hm with rfl|hm;unfold jF at k;refine kQ fun n=>k ?_;rw[aD n];decide;exact ua h m hm
def v8:∀{el:List b1},lU el=0->∀y∈el,jj y=0
 |[],_,y,h=>by cases h
 |x::el,h,y,hy=>by
  rw[lU]at h;by_cases k:jj x≠0;rw[aD k]at h;exact absurd h k;rw[au k]at h;rcases dI.1 hy with rfl|hy;simpa using k;exact v8 h y hy
def Tz{x:dX}(h:jI x=0):x.bF.length<=100:=by
 unfold jI at h;split at h;cases h;split at h;rename_i k n;cases h;split at h;cases h;split at h;cases h;omega
structure Lc (s:eS) (t:b5):Prop where
 no:hF t=0
 ab:iv t=0
 fH:ll s.cC [] t.ml=0
 jl:(t.ml.foldl fS s.cC).length<=200
 vu:tv (t.ml.foldl fS s.cC) t.ml=0
 e1:jc t=0
 jC:lU t.el=0
 mm:(jf s.jC t.el).length<=500
def xB{s:eS}{t:b5}(h:fx s t=0):Lc s t:=by
 unfold fx at h;split at h;rename_i n;exact absurd h n;rename_i n;split at h;rename_i r;exact absurd h r;rename_i r;split at h;rename_i A;exact absurd h A;rename_i A;split at h;rename_i B;exact absurd h B;rename_i B;have k:ix s.cC t.ml=0:=by simpa using A
 unfold ix at k;split at k;rename_i C;exact absurd k C;rename_i C;split at k;cases k;rename_i F;unfold mi at h;split at h;rename_i E;exact absurd h E;rename_i E;split at h;cases h;rename_i H;exact⟨by simpa using n,by simpa using r,by simpa using C,by omega,k,by simpa using B,by simpa using E,by omega⟩
def eS.Ok.ap{s:eS}{t:b5}(h:s.Ok)(aj:fx s t=0):(s.ap t).Ok:=by
 have c:=xB aj;refine⟨oS h.cJ,fun x n=>?_,yx h.dh,xX h.oZ,c.jl,c.mm,fun x n=>?_,Ch h.cT,fun x n=>?_,?_⟩;rcases yJ n with n|⟨m,_,e,k⟩;exact h.Rt x n;rw[e];exact k;rcases yJ n with n|⟨m,hm,e,k⟩;exact h.bK x n;rw[e];exact((r8 m.n).1 (ua c.fH m hm)).1;rcases D9 n with n|⟨m,hm,e⟩;exact h.md x n;rw[e];have k:=v8 c.jC m hm;unfold jj at k;split at k;cases k;split at k;cases k;show m.d.length<=65536;omega
 show(if t.Y=true then(if t.q.k=0 then ga else t.q.p)else s.q).bF.length<=100
 by_cases k:t.Y=true;rw[aD k];by_cases r:t.q.k=0;rw[aD r];simp[ga];rw[au r];have A:=c.e1;unfold jc at A;rw[aD ⟨k,r⟩]at A;exact Tz A;rw[au k];exact h.mT
def B6(m:List (av×eb))(x:b9)(q:av):ax (oh m x) q=if q=x.n then(if x.w=bO then none else some x.w)else ax m q:=by
 unfold oh;split;rw[mK];rw[o1]
def HZ:∀(l:List eh),((cH l).map (·.1)).Nodup->∀q,ax (qU l) q=ax (cH l) q:=by
 have key:∀(k:List eh),((cH k.reverse).map (·.1)).Nodup->∀q,ax (qU k.reverse) q=ax (cH k.reverse) q:=by
  intro k;induction k with
  |nil=>intro _ q;rfl
  |cons x k ih=>
   intro ar q;rw[List.reverse_cons]at ar⊢;rw[Ki,o1];have e:cH (k.reverse++[x])=cH k.reverse++[(x.n,x.i)]:=by simp[cH]
   rw[e]at ar⊢;rw[hc,qy]at ar;rw[E.B7,ih ar.1];by_cases n:q=x.n;subst n;have:ax (cH k.reverse) x.n=none:=by
    cases r:ax (cH k.reverse) x.n with
    |none=>rfl
    |some z=>exact absurd o<|ar.2.2 x.n (gM.1 (by rw[r];rfl)) x.n a_
   rw[this];simp;simp[n]
 intro l ar q;have:=key l.reverse (by rwa[vI]) q;rwa[vI]at this
def oP{β:Type}{f:β->aP->β}{l:List aP}{b:β}{j:Nat}(h:j<l.length):(l.take (j+1)).foldl f b=f ((l.take j).foldl f b) l[j]:=by
 rw[fc h,oc];rfl
def xa{l:nP}{el:List b1}{j:Nat}(h:j<el.length):jf l (el.take (j+1))=gr (jf l (el.take j)) el[j].k.1 el[j].d:=oP h
def zR:∀(el:List b1) (l:nP),(jf l el).length<=l.length+el.length
 |[],l=>dF _
 |x::el,l=>by
  have k:=zR el (gr l x.k.1 x.d);have n:=G0 l x.k.1 x.d;show(jf (gr l x.k.1 x.d) el).length<=_;simp only[fA];omega
def D8:∀{el:List b1} {l:nP},fh l->∀(k:av),(k∈(jf l el).map (·.1)↔k∈l.map (·.1)\/∃x∈el,x.k.1=k)
 |[],l,_,k=>by simp[jf]
 |x::el,l,h,k=>by
  have ih:=D8 (el:=el) (tB h (p:=x.k.1) (i:=x.d)) k;show k∈(jf (gr l x.k.1 x.d) el).map (·.1)↔_;rw[ih,<-gM,<-gM,v_ h];by_cases n:k=x.k.1;subst n;simp;rw[au n];have r:¬x.k.1=k:=fun e=>n e.symm;simp[r]
def P2{s el:List b1}(Y:fh (dV s)){m:List (eb×Int)}(ar:(m.map (·.1)).Nodup)(hm:∀k,k∈m.map (·.1)↔(∃x∈s,x.k=k)\/∃x∈el,x.k=k):m.length=(jf (dV s) el).length:=by
 have C:=(xX (el:=el) Y).nodup;have F:((m.map (·.1)).map (·.1)).Nodup:=by
  rw[vB]at ar⊢;rw[su];exact ar.imp fun h e=>h<|ij e
 have e:∀k,k∈(m.map (·.1)).map (·.1)↔k∈(jf (dV s) el).map (·.1):=by
  intro k;rw[D8 Y];constructor;intro h;obtain⟨i,E,rfl⟩:=dp.1 h;rcases(hm i).1 E with⟨x,n,e⟩|⟨x,n,e⟩;exact .inl (dp.2 ⟨(x.k.1,x.d),dp.2 ⟨x,n,o⟩,by rw[e]⟩);exact .inr ⟨x,n,by rw[e]⟩;rintro(h|⟨x,n,rfl⟩);obtain⟨y,hy,rfl⟩:=dp.1 h;obtain⟨x,n,rfl⟩:=dp.1 hy;exact dp.2 ⟨x.k,(hm _).2 (.inl ⟨x,n,o⟩),o⟩;exact dp.2 ⟨x.k,(hm _).2 (.inr ⟨x,n,o⟩),o⟩
 have A:=ub F (fun k r=>(e k).1 r);have B:=ub C (fun k r=>(e k).2 r);rw[dK,dK,dK]at A;rw[dK,dK,dK]at B;omega
def Cj:∀{ml:List b9} {l:gb} {pre:List b9} {j:Nat} (k:j<ml.length),(∀i (h:i<j),jF l (pre++ml.take i) (ml[i]' I)=0)->jF l (pre++ml.take j) ml[j]≠0->ll l pre ml=jF l (pre++ml.take j) ml[j]
 |x::ml,l,pre,0,k,_,h=>by
  simp only[pN,hD,pM]at h⊢;rw[ll,aD h]
 |x::ml,l,pre,j+1,k,h,r=>by
  have n:=h 0 I;simp only[pN,hD,pM]at n;rw[ll,au (by rw[n];decide)];have ih:=Cj (ml:=ml) (l:=l) (pre:=pre++[x]) (j:=j) (by simpa using k) (fun i A=>by have:=h (i+1) I;simpa using this) (by simpa using r);simpa using ih
def Ck:∀{ml:List b9} {l:gb} {pre:List b9},(∀i (h:i<ml.length),jF l (pre++ml.take i) ml[i]=0)->ll l pre ml=0
 |[],_,_,_=>rfl
 |x::ml,l,pre,h=>by
  have k:=h 0 a_;simp only[pN,hD,pM]at k;rw[ll,au (by rw[k];decide)];exact Ck fun i n=>by have:=h (i+1) bU;simpa using this
def QZ(l:gb)(pre:List b9)(m:b9):lb [fi m.n,fR (!(pre.any (fun x=>decide (x.n=m.n)))) 18,fR (decide (k7 l m.n=m.J)) 21,fR (decide (¬m.w=m.J)) 26]=jF l pre m:=by
 unfold jF;have e:(pre.any (fun x=>decide (x.n=m.n)))=decide (m.n∈pre.map (·.n)):=by
  rw[Bv];simp
 rw[e];simp only[lb,fR,lf,tI,decide_eq_false_iff_not];rcases xE m.n with aj|aj<;>by_cases k:m.n∈pre.map (·.n)<;>by_cases n:k7 l m.n=m.J<;>by_cases r:m.w=m.J<;>simp[aj,k,n,r]
def GO{s:av}{l:List av}(aj:fi s=0)(ar:s∉l):mF s l=if l.any (m2 s)=true then 13 else 0:=by
 have e:base s l=0:=by unfold base;rw[au (by rw[aj];decide),au ar]
 unfold mF;rw[e,au aO]
def dH:Nat->UInt64->List UInt8
 |0,_=>[]
 |j+1,x=>UInt8.ofNat (mo x (8*j)).toNat::dH j x
def ft:∀(n:Nat) (x:UInt64),(dH n x).length=n
 |0,_=>rfl
 |n+1,x=>by rw[dH,fA,ft]
def pU(k:Nat)(v:Value)(xs:List UInt8)(n:Nat)(x:UInt64)(w0:World)(B:Heap)
 (A:aS k 5 B a7 1 v xs)(ar:n<=8)(aC:xs.length<=1099511627776):
 a8 prog w0 115 #[v,.int .i64 n,.int .u64 x.toNat] B (fun r O=>∃v2:Value,∃R:Nat,r=v2/\aS R 5 O a7 1 v2 (xs++dH n x)/\U k B.size R/\W (aq [k]) B O):=by
 refine G.bc [k] func115 o fun K=>?_;have P:=U.refl k B.size;have ad:=A.le;refine G.O o eA ?_
 refine G.bd o (fun(ak:Nat×Value×Nat×(List UInt8))=>match ak with|(j,F,E,ys)=>[(0,F),(2,.int .u64 x.toNat),(7,.int .i64 ((j:Int)-1))])
  (fun(j,F,E,ys) (H:Heap)=>(j<=n)/\aS E 5 H a7 1 F ys/\ys++dH j x=xs++dH n x/\U k B.size E/\W (aq [k]) B H)
  (fun(j,F,E,ys)=>j) (n,v,k,xs) ⟨I,A,o,U.refl _ _,W.refl _ _⟩ ?_
 rintro⟨j,F,E,ys⟩ aw ⟨aB,A,L,ac,C⟩ al ag;have ai:=U.al P ac K.size;obtain⟨K,_⟩:=cz C K (ah.r P);have ad:=A.le;have aH:=ac;have aE:ys.length+j=xs.length+n:=by have:=bn List.length L;simpa[ft]using this
 refine G.ip o ?_ ?_<;>intro av;obtain⟨j,rfl⟩:∃q,j=q+1:=⟨j-1,by omega⟩;refine G.O o lB<|G.O o (M.uB (8*j) o o o hd I)<|G.O o (M.r9 o hO kg o)<|G.aR o (Z.cV<|c5 _ ([UInt8.ofNat (mo x (8*j)).toNat]) dv eM fy) ?_;rintro ax ay ⟨X,aa,_⟩;obtain⟨A,C,_⟩:=bG aa A C;refine G.aR o (dd A X.rd dv gm gm) ?_;rintro S az ⟨T,Q,ae,N⟩;have N:=N.md;have V:=U.al aH ae C.size;obtain⟨C,_⟩:=cz N C (ah.r aH);have aA:=Q.le;exact G.O o eA<|G.aQ o<|ag (j,S,T,ys++[UInt8.ofNat (mo x (8*j)).toNat]) _ ⟨I,Q,by rw[<-L,ew]<;>rfl,V,C⟩;obtain rfl:j=0:=by omega
 rw[dH,hD]at L;subst L;exact G.rt o ⟨F,E,o,A,ai,K⟩
def jq(n:Nat)(s:List UInt8):List UInt8:=dH n (UInt64.ofNat s.length)++s
def lV(m:b9):List UInt8:=jq 1 m.n++(m.J.1++(m.w.1++jq 2 m.y))
def mS(t:hz):List UInt8:=dH 1 (UInt64.ofNat t.d.toNat)++t.i.1
def iR(q:dX):List UInt8:=dH 1 (UInt64.ofNat q.k.toNat)++(if q.k=0 then[]else jq 1 q.br++(q.cU.1++(q.bw.1++(dH 2 (UInt64.ofNat q.bF.length)++(q.bF.flatMap mS++(dH 2 (UInt64.ofNat q.dn.toNat)++(dH 2 (UInt64.ofNat q.md.toNat)++dH 1 (if q.st=true then 1 else 0))))))))
def kA(m:b1):List UInt8:=m.k.1++jq 4 m.d
def tx(t:b5):UInt64:=(if t.bP=true then 1 else 0)|||(if t.Y=true then 2 else 0)
def ej(t:b5):List UInt8:=dH 1 (tx t)++((if t.bP=true then jq 1 t.ab else[])++(dH 2 (UInt64.ofNat t.ml.length)++(t.ml.flatMap lV++((if t.Y=true then iR t.q else[])++(dH 2 (UInt64.ofNat t.el.length)++t.el.flatMap kA)))))
def jr(n:Nat)(s:List UInt8):(jq n s).length=n+s.length:=by unfold jq;rw[b2,ft]
def we(m:b9):(lV m).length=67+m.n.length+m.y.length:=by
 unfold lV;simp only[b2,jr,m.J.2,m.w.2];omega
def wS(t:hz):(mS t).length=33:=by unfold mS;rw[b2,ft,t.i.2]
def Cc(m:b1):(kA m).length=36+m.d.length:=by unfold kA;rw[b2,jr,m.k.2];omega
def tA{f:aP->List UInt8}{l:List aP}{j:Nat}(h:j<l.length):(l.take (j+1)).flatMap f=(l.take j).flatMap f++f l[j]:=by
 rw[fc h,j5];simp
def sj{α:Type}{f:α->List UInt8}{n:Nat}:∀{l:List α},(∀x∈l,(f x).length<=n)->(l.flatMap f).length<=n*l.length
 |[],_=>by simp
 |x::l,h=>by
  rw[mH,b2,fA,Nat.mul_succ];have k:=h x fZ;have r:=sj (l:=l) (fun y hy=>h y (gx _ hy));omega
structure uP (x:dX):Prop where
 k:0<=x.k/\x.k<=255
 br:x.br.length<=255
 bF:x.bF.length<=65535
 dn:0<=x.dn/\x.dn<=65535
 md:0<=x.md/\x.md<=65535
 hJ:∀t∈x.bF,0<=t.d/\t.d<=255
structure qa (t:b5):Prop where
 ml:t.ml.length<=65535
 el:t.el.length<=65535
 ab:t.bP=true->t.ab.length<=255
 mm:∀m∈t.ml,m.n.length<=255/\m.y.length<=65535
 md:∀m∈t.el,m.d.length<=65536
 j4:t.Y=true->0<=t.q.k/\t.q.k<=255
 e1:t.Y=true->t.q.k≠0->uP t.q
def zr{q:dX}(h:q.k=0):iR q=dH 1 (UInt64.ofNat q.k.toNat):=by unfold iR;rw[aD h,hD]
def zt{q:dX}(h:q.k≠0):iR q=dH 1 (UInt64.ofNat q.k.toNat)++(jq 1 q.br++(q.cU.1++(q.bw.1++(dH 2 (UInt64.ofNat q.bF.length)++(q.bF.flatMap mS++(dH 2 (UInt64.ofNat q.dn.toNat)++(dH 2 (UInt64.ofNat q.md.toNat)++dH 1 (if q.st=true then 1 else 0)))))))):=by unfold iR;rw[au h]
def TU{q:dX}(h:uP q):(iR q).length<=3000000:=by
 have k:=sj (f:=mS) (n:=33) (l:=q.bF) (fun x _=>by rw[wS];omega);have r:=h.bF;have A:=h.br;unfold iR;split<;>simp only[b2,ft,jr,q.cU.2,q.bw.2,ie]<;>omega
def vX{w0:World}:
 a8 prog w0 172 #[.int .i64 1] H (fun r k=>r= .int .i64 255/\an H k):=by
 exact G.bN func172 o fun n=>G.O o (M.cast (v2:= .int .i64 8) (M.ry o o o aO) o) (G.O o (M.cast (v2:= .int .i64 256) (M.o_ (8) o o o o aO aO) o)<|G.O o (M.zy o o o aO)<|G.rt o ⟨o,n⟩)
def HK{w0:World}:
 a8 prog w0 172 #[.int .i64 2] H (fun r k=>r= .int .i64 65535/\an H k):=by
 exact G.bN func172 o fun n=>G.O o (M.cast (v2:= .int .i64 16) (M.ry o o o aO) o) (G.O o (M.cast (v2:= .int .i64 65536) (M.o_ (16) o o o o aO aO) o)<|G.O o (M.zy o o o aO)<|G.rt o ⟨o,n⟩)
def QB{w0:World}:
 a8 prog w0 172 #[.int .i64 4] H (fun r k=>r= .int .i64 4294967295/\an H k):=by
 exact G.bN func172 o fun n=>G.O o (M.cast (v2:= .int .i64 32) (M.ry o o o aO) o) (G.O o (M.cast (v2:= .int .i64 4294967296) (M.o_ (32) o o o o aO aO) o)<|G.O o (M.zy o o o aO)<|G.rt o ⟨o,n⟩)
def DI{b:Bool}{n:UInt64}{w0:World}:
 a8 prog w0 100 #[.bool b,.int .u64 n.toNat] H (fun r A=>r= .int .u64 (if b=true then n else 0:UInt64).toNat/\an H A):=by
 refine G.bN func100 o fun k=>G.ci o (fun B=>?_) (fun B=>?_);exact G.rt o ⟨by first|(rw[aD ch])|(rw[au iN]<;>rfl),k⟩;exact G.rt o ⟨by first|(rw[aD ch])|(rw[au iN]<;>rfl),k⟩
def oy{v:Value}{e:Int}{w0:World}:
 a8 prog w0 53 #[v,.bool true,.int .i64 e] H (fun r k=>r= .tuple #[]/\an H k):=by
 exact G.bN func53 o fun n=>G.O o e7 (G.dP o<|G.rt o ⟨o,n⟩)
def p8{E:Nat}{s:ay}{xs:List UInt8}(n:Nat){x:UInt64}{w0:World}(B:Var 226 V E [s.v,.int .i64 0,.int .i64 0])(C:aS k 5 V a7 1 s.v xs)(ab:ai (E+1) k)(ar:n<=8)(aZ:xs.length<=1099511627776):
 a8 prog w0 99 #[.pointer (some ⟨E,0,none⟩),.int .i64 n,.int .u64 x.toNat] V (fun r X=>∃s2:ay,∃al:Nat,r= .tuple #[]/\Var 226 X E [s2.v,.int .i64 0,.int .i64 0]/\aS al 5 X a7 1 s2.v (xs++dH n x)/\U k V.size al/\ai (E+1) al/\W (aq [(E+1),k]) V X):=by
 refine G.bc [(E+1),k] func99 o fun R=>?_;have aX:=B.lt;have ac:=U.refl k V.size;have av:=C.le;refine G.O o (M.cast (v2:= .int .i64 ((n:Int)-1)) eA o) ?_
 refine G.bd o (fun(aM:Nat×ay×Nat×(List UInt8))=>match aM with|(j,s1,F,ys)=>[(0,.pointer (some ⟨E,0,none⟩)),(2,.int .u64 x.toNat),(6,.int .i64 ((j:Int)-1))])
  (fun(j,s1,F,ys) (H:Heap)=>(j<=n)/\Var 226 H E [s1.v,.int .i64 0,.int .i64 0]/\aS F 5 H a7 1 s1.v ys/\ys++dH j x=xs++dH n x/\U k V.size F/\ai (E+1) F/\W (aq [(E+1),k]) V H)
  (fun(j,s1,F,ys)=>j) (n,s,k,xs) ⟨I,B,C,o,U.refl _ _,ab,W.refl _ _⟩ ?_
 rintro⟨j,s1,F,ys⟩ P ⟨aY,B,C,T,aw,aG,K⟩ aN aB;have aC:=U.al ac aw R.size;have R:=R.bf K (ag.cons (ah.r (U.refl (E+1) V.size)) (ag.J (ah.r ac)));have aT:=K.size;have av:=C.le;have am:=aG;have ax:=aw;have a1:ys.length+j=xs.length+n:=by have:=bn List.length T;simpa[ft]using this
 refine G.ip o ?_ ?_<;>intro aQ;obtain⟨j,rfl⟩:∃q,j=q+1:=⟨j-1,by omega⟩;refine G.cJ o (fun O=>W (aq [F]) P O) [13,14,15,16] o ?_;have A:W (aq [F]) P P:=W.refl _ _;refine N.bo 0 o A ?_;refine N.bo 1 o A ?_;refine N.bx 2 o A ?_;refine N.t1 3 o (fun O L=>M.fieldAddr (B.aA L<|ak.J am).T o rU o o iD aO o) A ?_;refine N.t1 4 o (fun O L=>M.fieldAddr (B.aA L<|ak.J am).T o iE o o cZ aO o) A ?_;refine N.t1 5 o (fun O L=>M.gV (B.aA L<|ak.J am).T o eI o) A ?_;refine N.bo 6 o A ?_;refine N.bo 7 o A ?_;refine N.t1 8 o (fun O L=>lB) A ?_;refine N.t1 9 o (fun O L=>M.uB (8*j) o o o hd I) A ?_;refine N.t1 10 o (fun O L=>M.r9 o hO kg o) A ?_;refine N.ba 11 ?_;refine eP o (Z.cV<|c5 _ ([UInt8.ofNat (mo x (8*j)).toNat]) dv eM fy) ?_;rintro aV Q ⟨aL,aI,_⟩;have aE:=U.new A.size;obtain⟨C,B,K,A,_⟩:=dZ aI C B K A;refine N.aN A (ag.cons (ah.r<|U.refl F P.size)<|ag.J<|ah.q aE) ?_;have A:W (aq [F,(P.size+1)]) Q Q:=W.refl _ _;have ap:=U.refl F Q.size;refine N.ba 12 ?_;refine eP o (dd C aL.rd dv bU bU) ?_;rintro az aR ⟨aA,C,aa,ae⟩;have ae:=ae.md;have aU:=ai.app am B.lt aa;have aJ:=U.al ax aa K.size;have aK:=U.al ap aa A.size;obtain⟨B,K,A,_⟩:=dg ae B am K (ah.r ax) A (ah.r ap);have av:=C.le;obtain⟨aF,rfl⟩:∃s:ay,az=s.v:=⟨ck az,C.a6.symm⟩;refine N.aN A (ag.cons (ah.r aK)<|ag.J<|ah.r<|U.refl (P.size+1) Q.size) ?_;refine N.ba 13 ?_;refine hH o mu (.inl o) ?_;refine N.ba 14 ?_;refine hH o (M.hh B.T o rU o iD) (.inl o) ?_;refine N.ba 15 ?_;refine hH o (M.hh B.T o iE o cZ) (.inl o) ?_;refine N.ba 16 ?_;refine hX o (S.df B 0 _ o o o o cZ a_ o) ?_;rintro aP ⟨B,aH⟩;obtain⟨C,K,_⟩:=de aH C aU.symm K (ah.r (U.refl (E+1) V.size));refine⟨.inl o,?_⟩;exact G.dn aW<|G.O o eA<|G.aQ o<|aB (j,aF,aA,ys++[UInt8.ofNat (mo x (8*j)).toNat]) _ ⟨I,B,C,by rw[<-T,ew]<;>rfl,aJ,aU,K⟩;obtain rfl:j=0:=by omega
 rw[dH,hD]at T;subst T;exact G.rt o ⟨s1,F,o,B,C,aC,am,R⟩
def w1{E:Nat}{s:ay}{xs:List UInt8}(n:Nat)(t:List UInt8){w0:World}(A:Var 226 H E [s.v,.int .i64 0,.int .i64 0])(B:aS k 5 H a7 1 s.v xs)(ab:ai (E+1) k)(aA:xs.length<=549755813888)(ar:n<=8)(az:t.length<=549755813888):
 a8 prog w0 101 #[.pointer (some ⟨E,0,none⟩),.int .i64 n,aJ t] H (fun r F=>∃s2:ay,∃K:Nat,r= .tuple #[]/\Var 226 F E [s2.v,.int .i64 0,.int .i64 0]/\aS K 5 F a7 1 s2.v (xs++jq n t)/\U k H.size K/\ai (E+1) K/\W (aq [(E+1),k]) H F):=by
 refine G.bc [(E+1),k] func101 o fun C=>?_;have L:=U.refl (E+1) H.size;have ae:=A.lt;have N:=U.refl k H.size;have ac:=B.le;refine G.O o (hn e6)<|G.O o (M.jh o ht hO o)<|G.aC o pB (p8 n A B ab ar I) ?_;rintro ak al ⟨bt,av,rfl,A,B,X,T,O⟩;have Q:=U.al N X C.size;have C:=C.bf O (ag.cons (ah.r L) (ag.J (ah.r N)));have aw:=O.size;have ac:=B.le;refine G.aK o rU iD o<|G.aG o A.T iE cZ eI o o<|G.aR o (Z.xe B o dv underlying9 o o (by simp[ft];omega)) ?_;rintro R ax ⟨aa,B,P,ad⟩;have ad:=ad.md;have aH:=ai.app T A.lt P;have ap:=U.al Q P C.size;obtain⟨A,C,_⟩:=de ad A T C (ah.r Q);obtain⟨aU,rfl⟩:∃s:ay,R=s.v:=⟨ck R,B.a6.symm⟩;refine G.aK o rU iD o<|G.aK o iE cZ o<|G.bl o (S.df A 0 _ o o o o cZ a_ o) ?_;rintro am ⟨A,V⟩;obtain⟨B,C,_⟩:=de V B aH.symm C (ah.r L);exact G.rt o ⟨aU,aa,o,A,by rw[jq,<-ew];exact B,ap,aH,C⟩
def uL{s:ay}{xs:List UInt8}(i:eb){w0:World}(A:Var 226 H n [s.v,.int .i64 0,.int .i64 0])(B:aS k 5 H a7 1 s.v xs)(ab:ai (n+1) k)(aB:xs.length<=549755813888):
 a8 prog w0 102 #[.pointer (some ⟨n,0,none⟩),b4 i] H (fun r O=>∃s2:ay,∃Q:Nat,r= .tuple #[]/\Var 226 O n [s2.v,.int .i64 0,.int .i64 0]/\aS Q 5 O a7 1 s2.v (xs++i.1)/\U k H.size Q/\ai (n+1) Q/\W (aq [(n+1),k]) H O):=by
 refine G.bc [(n+1),k] func102 o fun C=>?_;have ax:=A.lt;have R:=U.refl k H.size;have az:=B.le;have aA:=i.2;refine G.aR o (Z.bT<|i.1.map fun b=>Value.int .u8 b.toNat) ?_;rintro v3 K ⟨rfl,aa,ap,_⟩;obtain⟨A,B,C,_⟩:=cg ap A B C;refine G.cJ o (fun L=>W (aq [k]) K L) [8,9,10,11] o ?_;have ac:W (aq [k]) K K:=W.refl _ _;have T:=U.refl k K.size;refine N.bo 0 o ac ?_;refine N.bo 1 o ac ?_;refine N.bx 2 o ac ?_;refine N.t1 3 o (fun L E=>M.fieldAddr (A.aA E<|ak.J ab).T o rU o o iD aO o) ac ?_;refine N.t1 4 o (fun L E=>M.fieldAddr (A.aA E<|ak.J ab).T o iE o o cZ aO o) ac ?_;refine N.t1 5 o (fun L E=>M.gV (A.aA E<|ak.J ab).T o eI o) ac ?_;refine N.e (g:=fun v=>v) 6 aW o aW aW aW (M.wL (F:=fun c=>c=H.size) (f:=a7) (xs:=i.1) aa.T o aa.lt i.2 (fun i x h=>⟨by simp[h],o⟩) (0) (32) o (fun w=> .inl (kf w)) db o (.inl ⟨o,o⟩) (.inl ⟨o,o⟩) I I aO) fE o o ac fun bt X=>?_;rw[mf,e5 I]at X;refine N.ba 7 ?_;refine eP o (dd B X dv I I) ?_;rintro V aU ⟨al,B,ad,P⟩;have P:=P.md;have aH:=ai.app ab A.lt ad;have av:=U.al R ad C.size;have aw:=U.al T ad ac.size;obtain⟨A,C,ac,_⟩:=dg P A ab C (ah.r R) ac (ah.r T);obtain⟨am,rfl⟩:∃s:ay,V=s.v:=⟨ck V,B.a6.symm⟩;refine N.aN ac (ag.J<|ah.r aw) ?_;refine N.ba 8 ?_;refine hH o mu (.inl o) ?_;refine N.ba 9 ?_;refine hH o (M.hh A.T o rU o iD) (.inl o) ?_;refine N.ba 10 ?_;refine hH o (M.hh A.T o iE o cZ) (.inl o) ?_;refine N.ba 11 ?_;refine hX o (S.df A 0 ([am.v,.int .i64 0,.int .i64 0]) o o o o cZ a_ o) ?_;rintro dm ⟨A,ae⟩;obtain⟨B,C,_⟩:=de ae B aH.symm C (ah.r (U.refl (n+1) H.size));refine⟨.inl o,?_⟩;exact G.dn aW<|G.rt o ⟨am,al,o,A,B,av,aH,C⟩
def UP{s:ay}{w0:World}(A:Var 226 H n [s.v,.int .i64 0,.int .i64 0]):
 a8 prog w0 104 #[.pointer (some ⟨n,0,none⟩)] H (fun r B=>r= .tuple #[s.v,.int .i64 0]/\an H B):=by
 refine G.bN func104 o fun C=>G.aK o rU iD o (G.aG o A.T iE nJ oH o o<|G.ip o (fun k=>?_) fun k=>?_);exact absurd o k;exact G.aK o rU iD o<|G.aG o A.T iE cZ eI o o<|G.rt o ⟨o,C⟩
def U4{K:Nat}{s:ay}{xs:List UInt8}{x:dX}{w0:World}(C:Var 226 V K [s.v,.int .i64 0,.int .i64 0])(A:aS k 5 V a7 1 s.v xs)(ab:ai (K+1) k)(dN:xs.length<=274877906944)(E:Rd F V eH 33 x.c4.v x.bF)(Q:bk F V.size)(f1:aw F (K+1))(f2:aw F k)(bc:0<=x.k/\x.k<=255)(cz:x.k≠0->uP x):
 a8 prog w0 103 #[.pointer (some ⟨K,0,none⟩),jJ x] V (fun r av=>∃s2:ay,∃aL:Nat,r= .tuple #[]/\Var 226 av K [s2.v,.int .i64 0,.int .i64 0]/\aS aL 5 av a7 1 s2.v (xs++iR x)/\U k V.size aL/\ai (K+1) aL/\W (aq [(K+1),k]) V av):=by
 refine G.bc [(K+1),k] func103 o fun B=>?_;have N:=U.refl (K+1) V.size;have cF:=C.lt;have bG:=U.refl k V.size;have L:=A.le;have dM:=E.len;refine G.aR o (Z.bT<|dD x) ?_;rintro v3 cD ⟨rfl,ae,bW,_⟩;have dm:=ai.new C.lt;have bI:=ai.new A.le;obtain⟨C,A,E,B,_⟩:=dZ bW C A E B;refine G.aK o cd bV o<|G.O o (M.cast (v2:= .int .i64 ((x.k).toNat:Nat)) (aY ae.T cQ)<|di I)<|G.O o (M.jh o ht hO o)<|G.aC o pB (p8 1 (w0:=w0) C A ab aO I) fun cP dd bY=>?_;have bZ:=ae.lt;obtain⟨b0,b1,rfl,C,A,az,bK,T⟩:=bY;have bH:=aw.app f2 (Q.mono B.size) az;have aM:=ai.app bI.symm bZ az;have ap:=U.al bG az B.size;have E:=E.aA T (aB.cons f1 (aB.J f2));have ae:=ae.aA T (ak.cons dm.symm (ak.J bI.symm));have B:=B.bf T (ag.cons (ah.r N) (ag.J (ah.r bG)));have de:=T.size;have L:=A.le;refine G.aG o ae.T cd bV cQ o o<|G.ip o ?_ ?_<;>intro cL;have R:x.k=0:=by omega
 exact G.rt o ⟨b0,b1,o,C,by rw[zr R];exact A,ap,bK,B⟩;have R:x.k≠0:=by omega
 have he:=cz R;have dE:=he.br;have dF:=he.bF;have dG:=he.dn;have dI:=he.md;refine G.aG o ae.T cd b7 cm o o<|G.aC o u6 (w1 1 x.br (w0:=w0) C A bK (by simp only[b2,ft,jr,x.cU.2,x.bw.2];omega) aO I) fun df gF b5=>?_;have a0:=ae.lt;obtain⟨ce,dh,rfl,C,A,aU,cp,X⟩:=b5;have aN:=aw.app bH (Q.mono B.size) aU;have aP:=ai.app aM a0 aU;have aQ:=U.al ap aU B.size;have E:=E.aA X (aB.cons f1 (aB.J bH));have ae:=ae.aA X (ak.cons dm.symm (ak.J aM));have B:=B.bf X (ag.cons (ah.r N) (ag.J (ah.r ap)));have dp:=X.size;have L:=A.le;refine G.aK o cd bE o<|G.O o (M.cast (v2:=b4 x.cU) (bu ((ae.T.drop 2).take 32) dj bE (by rw[n0];exact bJ _))<|dk<|n0 _)<|G.aC o tf (uL x.cU (w0:=w0) C A cp (by simp only[b2,ft,jr,x.cU.2,x.bw.2];omega)) fun gG ci b6=>?_;have bq:=ae.lt;obtain⟨dq,dr,rfl,C,A,aA,cq,aa⟩:=b6;have aR:=aw.app aN (Q.mono B.size) aA;have aV:=ai.app aP bq aA;have aX:=U.al aQ aA B.size;have E:=E.aA aa (aB.cons f1 (aB.J aN));have ae:=ae.aA aa (ak.cons dm.symm (ak.J aP));have B:=B.bf aa (ag.cons (ah.r N) (ag.J (ah.r aQ)));have aC:=aa.size;have L:=A.le;refine G.aK o cd bE o<|G.O o (M.cast (v2:=b4 x.bw) (bu ((ae.T.drop 34).take 32) dj bE (by rw[nZ];exact bJ _))<|dk<|nZ _)<|G.aC o tf (uL x.bw (w0:=w0) C A cq (by simp only[b2,ft,jr,x.cU.2,x.bw.2];omega)) fun dt du b8=>?_;have a2:=ae.lt;obtain⟨co,dv,rfl,C,A,aE,cr,aH⟩:=b8;have aZ:=aw.app aR (Q.mono B.size) aE;have a1:=ai.app aV a2 aE;have a6:=U.al aX aE B.size;have E:=E.aA aH (aB.cons f1 (aB.J aR));have ae:=ae.aA aH (ak.cons dm.symm (ak.J aV));have B:=B.bf aH (ag.cons (ah.r N) (ag.J (ah.r aX)));have dw:=aH.size;have L:=A.le;refine G.a1 o ae.T.iQ cd gz h4 o<|G.O o (bz E iF)<|G.O o (M.jh o ht hO o)<|G.aC o pB (p8 2 (w0:=w0) C A cr aO (by simp only[b2,ft,jr,x.cU.2,x.bw.2];omega)) fun dx a3 b9=>?_;have a4:=ae.lt;obtain⟨b_,a5,rfl,C,A,aF,ct,am⟩:=b9;have bN:=aw.app aZ (Q.mono B.size) aF;have ba:=ai.app a1 a4 aF;have bd:=U.al a6 aF B.size;have E:=E.aA am (aB.cons f1 (aB.J aZ));have ae:=ae.aA am (ak.cons dm.symm (ak.J a1));have B:=B.bf am (ag.cons (ah.r N) (ag.J (ah.r a6)));have cs:=am.size;have L:=A.le;refine G.a1 o ae.T.iQ cd gz h4 o<|G.O o (bz E iF) ?_
 refine G.bd o (fun(cC:Nat×ay×Nat×(List UInt8))=>match cC with|(i,s1,O,ys)=>[(0,.pointer (some ⟨K,0,none⟩)),(3,.pointer (some ⟨V.size,0,none⟩)),(33,x.c4.v),(34,.int .i64 x.bF.length),(35,.int .i64 i)])
  (fun(i,s1,O,ys) (H:Heap)=>(i<=x.bF.length)/\Var 226 H K [s1.v,.int .i64 0,.int .i64 0]/\aS O 5 H a7 1 s1.v ys/\ys=xs++dH 1 (UInt64.ofNat x.k.toNat)++jq 1 x.br++x.cU.1++x.bw.1++dH 2 (UInt64.ofNat x.bF.length)++(x.bF.take i).flatMap mS/\U a5 a3.size O/\ai (K+1) O/\W (aq [(K+1),a5]) a3 H)
  (fun(i,s1,O,ys)=>x.bF.length-i) (0,b_,a5,xs++dH 1 (UInt64.ofNat x.k.toNat)++jq 1 x.br++x.cU.1++x.bw.1++dH 2 (UInt64.ofNat x.bF.length)) ⟨I,C,A,a_,U.refl _ _,ct,W.refl _ _⟩ ?_
 rintro⟨i,s1,O,ys⟩ dy ⟨dK,C,A,al,ax,bP,ac⟩ fO a9;have bf:=ai.app ba ae.lt ax;have bg:=U.al bd ax B.size;have E:=E.aA ac (aB.cons f1 (aB.J bN));have ae:=ae.aA ac (ak.cons dm.symm (ak.J ba));have B:=B.bf ac (ag.cons (ah.r N) (ag.J (ah.r bd)));have dz:=ac.size;have L:=A.le;have bh:=bP;have bF:=U.refl (K+1) a3.size;have bj:=ax;have dO:ys.length<=xs.length+3000000:=by have cA:=sj (f:=mS) (n:=33) (l:=x.bF.take i) (fun x _=>by rw[wS];omega);rw[eC]at cA;rw[al];simp only[b2,ft,jr,x.cU.2,x.bw.2];omega
 refine G.ip o ?_ ?_<;>intro cN;have bL:i<x.bF.length:=by omega
 obtain⟨t,aK⟩:∃t,t=x.bF[i]:=⟨_,o⟩;have dJ:=he.hJ t (by rw[aK];exact cS bL);refine G.pp o (M.cw E i o iF kD o o) fun cO cb=>G.O o (M.cast (v2:= .agg (eH t).toArray) (bu cb.T s4 kD<|ib _) (by rw[aK]))<|G.aR o (Z.bt zI) ?_;rintro v5 cE ⟨rfl,P,ca,_⟩;have bl:=ai.new A.le;have bm:=ai.new C.lt;have cc:=U.new ac.size;obtain⟨A,C,ac,_⟩:=cg ca A C ac;refine G.bl o (S.var P _ (eH t) o o o o (ma t) kD (ib _) aO ((ea (ib _).symm))) ?_;rintro cG ⟨P,bO⟩;obtain⟨A,C,ac,_⟩:=dg bO A bl C bm ac (ah.q cc);refine G.aK o nn bV o<|G.O o (M.cast (v2:= .int .i64 ((t.d).toNat:Nat)) (aY P.T cQ)<|di I)<|G.O o (M.jh o ht hO o)<|G.aC o pB (p8 1 (w0:=w0) C A bh aO I) ?_;rintro dA dB ⟨dC,cU,rfl,C,A,cf,cu,aG⟩;have bo:=U.al bj cf ac.size;have P:=P.aA aG (ak.cons bm.symm (ak.J bl.symm));have ac:=ac.bf aG (ag.cons (ah.r bF) (ag.J (ah.r bj)));have bX:=aG.size;have L:=A.le;refine G.aK o nn bE o<|G.O o (M.cast (v2:=b4 t.i) (bu ((P.T.drop 1).take 32) dj bE (by rw[pE];exact bJ _))<|dk<|pE _)<|G.aC o tf (uL t.i (w0:=w0) C A cu (by rw[b2,ft];omega)) ?_;rintro cV cW ⟨bM,bQ,rfl,C,A,aT,cv,bt⟩;have bD:=U.al bo aT ac.size;have ac:=ac.bf bt (ag.cons (ah.r bF) (ag.J (ah.r bo)));have cH:=bt.size;have L:=A.le;exact G.O o bB<|G.aQ o<|a9 (i+1,bM,bQ,ys++dH 1 (UInt64.ofNat t.d.toNat)++t.i.1) _ ⟨I,C,A,(by rw[tA bL,<-aK,al,mS];simp only[ew]),bD,cv,ac⟩;obtain rfl:i=x.bF.length:=by omega
 rw[eQ]at al;refine G.aK o cd bV o<|G.O o (M.cast (v2:= .int .i64 ((x.dn).toNat:Nat)) (aY ae.T.nK cQ)<|di I)<|G.O o (M.jh o ht hO o)<|G.aC o pB (p8 2 (w0:=w0) C A bh aO I) fun cX cY bR=>?_;have c9:=ae.lt;obtain⟨cZ,c0,rfl,C,A,bw,cw,aI⟩:=bR;have ch:=ai.app bf c9 bw;have bA:=U.al bg bw B.size;have ae:=ae.aA aI (ak.cons dm.symm (ak.J bf));have B:=B.bf aI (ag.cons (ah.r N) (ag.J (ah.r bg)));have cI:=aI.size;have L:=A.le;refine G.aK o cd bV o<|G.O o (M.cast (v2:= .int .i64 ((x.md).toNat:Nat)) (aY ae.T.qT cQ)<|di I)<|G.O o (M.jh o ht hO o)<|G.aC o pB (p8 2 (w0:=w0) C A cw aO (by rw[b2,ft];omega)) ?_;rintro c1 c3 ⟨c4,c5,rfl,C,A,bT,cx,aJ⟩;have bC:=U.al bA bT B.size;have ae:=ae.aA aJ (ak.cons dm.symm (ak.J ch));have B:=B.bf aJ (ag.cons (ah.r N) (ag.J (ah.r bA)));have cK:=aJ.size;have L:=A.le;refine G.a1 o ae.T.uC cd c8 eW o<|G.aC o Aj (DI (b:=x.st) (n:=1) (w0:=w0)) ?_;rintro c_ da ⟨rfl,bs⟩;obtain⟨A,C,B,_⟩:=cg bs A C B;refine G.aC o pB (p8 1 (w0:=w0) C A cx aO (by simp only[b2,ft];omega)) ?_;rintro db dc ⟨bS,bU,rfl,C,A,cj,cy,ck⟩;have cl:=U.al bC cj B.size;have B:=B.bf ck (ag.cons (ah.r N) (ag.J (ah.r bC)));exact G.rt o ⟨bS,bU,o,C,by rw[zt R];rw[al]at A;simpa only[ew]using A,cl,cy,B⟩
def nj(t:b5):List UInt8:=dH 1 (tx t)++(if t.bP=true then jq 1 t.ab else[])
def wy{t:b5}(h:qa t):(nj t).length<=257:=by
 unfold nj;rw[b2,ft];split;rename_i k;rw[jr];have:=h.ab k;omega;simp
def nh(t:b5):List UInt8:=nj t++dH 2 (UInt64.ofNat t.ml.length)++t.ml.flatMap lV++(if t.Y=true then iR t.q else[])
def B_{t:b5}(h:qa t)(i:Nat):((t.ml.take i).flatMap lV).length<=66000*i:=by
 have A:=sj (f:=lV) (n:=66000) (l:=t.ml.take i) (fun x r=>by rw[we];have:=h.mm x (ky r);omega);have k:(t.ml.take i).length<=i:=by rw[eC];exact Bw _ _
 have B:66000*(t.ml.take i).length<=66000*i:=Bx _ k;omega
def Gb{t:b5}(h:qa t)(i:Nat):((t.el.take i).flatMap kA).length<=66000*i:=by
 have A:=sj (f:=kA) (n:=66000) (l:=t.el.take i) (fun x r=>by rw[Cc];have:=h.md x (ky r);omega);have k:(t.el.take i).length<=i:=by rw[eC];exact Bw _ _
 have B:66000*(t.el.take i).length<=66000*i:=Bx _ k;omega
def yH{t:b5}(h:qa t):(nh t).length<=4400000000:=by
 have A:=wy h;have n:=B_ h t.ml.length;rw[eQ]at n;have B:=h.ml;unfold nh;simp only[b2,ft];split;rename_i r;by_cases k:t.q.k=0;rw[zr k,ft];omega;have:=TU (h.e1 r k);omega;rw[ie];omega
def Gg(t:b5):ej t=nh t++dH 2 (UInt64.ofNat t.el.length)++t.el.flatMap kA:=by unfold ej nh nj;simp only[ew]
def cL.zD{x:b5}(h:cL H bL (cM x)):cL H (bL.add 4) (dD x.q++[x.dG.v]):=h.drop 4
def cL.uE{x:b5}(h:cL H bL (cM x)):cL H ((bL.add 4).add 0) (dD x.q++[x.dG.v]):=h.zD.drop 0
def LR{x:b5}{w0:World}:
 a8 prog w0 171 #[hG x] H (fun r E=>r= .tuple #[jJ x.q,.bool (x.Y&&decide (x.q.k≠0))]/\an H E):=by
 refine G.bN func171 o fun B=>G.aR o (Z.bT<|cM x) ?_;rintro v1 H1 ⟨rfl,ae,O,_⟩;obtain⟨B,_⟩:=cv O B;refine G.aR o (Z.bt zK) ?_;rintro v2 E ⟨rfl,F,P,_⟩;have ad:=ai.new ae.lt;have L:=U.new B.size;obtain⟨ae,B,_⟩:=bG P ae B;refine G.cJ o (fun A=>W (aq [(H1.size+1)]) E A) [] o ?_;have k:W (aq [(H1.size+1)]) E E:=W.refl _ _;have K:=U.refl (H1.size+1) E.size;refine N.t1 0 o (fun A n=>M.fieldAddr (ae.aA n<|ak.J ad).T o b0 o o eK aO o) k ?_;refine N.t1 1 o (fun A n=>M.cast (v2:=jJ x.q) (bu (((ae.aA n<|ak.J ad).T.drop 4).take 70) l6 eK (by rw[m6];exact e_ _))<|dk<|m6 x) k ?_;refine N.t1 2 o (fun A n=>M.fieldAddr (ae.aA n<|ak.J ad).T o b0 o o c8 aO o) k ?_;refine N.t1 3 o (fun A n=>aY ((ae.aA n<|ak.J ad).T.drop 3) eW) k ?_;refine N.bo 4 o k ?_;refine N.split (d:=8) o (fun g8=>?_) fun g8=>?_;refine N.cy 5 o (fun A n=>M.fieldAddr (ae.aA n<|ak.J ad).T o b0 o o eK aO o) cp k ?_;refine N.cy 6 o (fun A n=>M.fieldAddr ((ae.aA n<|ak.J ad).T.drop 4) o cd o o bV aO o) cp k ?_;refine N.cy 7 o (fun A n=>M.gV (ae.aA n<|ak.J ad).T.uE o cQ o) cp k ?_;refine N.cy 8 o (fun A n=>M.neq o o o) cp k ?_;refine N.t1 9 o (fun A n=>kj) k ?_;refine N.ba 10 ?_;refine hX o (S.var F _ (dD x.q) o o o o (nw) eK (e_ _) aO ((ea (e_ _).symm))) ?_;rintro ac ⟨F,C⟩;have C:=C.eU;obtain⟨B,k,_⟩:=de C B L k (ah.r K);refine N.aN k (ag.J<|ah.r K) ?_;have k:W (aq [(H1.size+1)]) ac ac:=W.refl _ _;refine N.t1 11 o (fun A n=>fl) k ?_;exact G.dn aW<|G.rc o (qP o o F.T l6 eK (e_ _) o) ⟨by first|(rw[show x.Y=true by assumption]<;>rfl)|(rw[show x.Y=false by simp_all]<;>rfl),B⟩;refine N.g1 5 o o o o k ?_;refine N.g1 6 o o o o k ?_;refine N.g1 7 o o o o k ?_;refine N.g1 8 o o o o k ?_;refine N.t1 9 o (fun A n=>jO) k ?_;refine N.ba 10 ?_;refine hX o (S.var F _ (dD x.q) o o o o (nw) eK (e_ _) aO ((ea (e_ _).symm))) ?_;rintro ac ⟨F,C⟩;have C:=C.eU;obtain⟨B,k,_⟩:=de C B L k (ah.r K);refine N.aN k (ag.J<|ah.r K) ?_;have k:W (aq [(H1.size+1)]) ac ac:=W.refl _ _;refine N.t1 11 o (fun A n=>fl) k ?_;exact G.dn aW<|G.rc o (qP o o F.T l6 eK (e_ _) o) ⟨by first|(rw[show x.Y=true by assumption]<;>rfl)|(rw[show x.Y=false by simp_all]<;>rfl),B⟩
def U3{x:b5}{w0:World}(hm:b_ V ep 66 x.fH.v x.ml)(C:b_ V eH 33 x.q.c4.v x.q.bF)(he:b_ V cA 33 x.dG.v x.el)(ab:∀y∈x.el,b_ V a7 1 y.v.v y.d)(P:qa x):
 a8 prog w0 98 #[hG x] V (fun r bH=>r= .int .i64 0/\an V bH):=by
 refine G.bN func98 o fun B=>?_;have hm:=hm.cD;have a5:=hm.c7;have C:=C.cD;have bI:=C.c7;have he:=he.cD;have bK:=he.c7;have ab:=fun y dj=>(ab y dj).cD;have aV:bk (fun b=>True/\b<V.size) V.size:=fun b h=>h.2;have ej:=hm.len;have ei:=C.len;have eg:=he.len;have bc:=P.ml;have ef:=P.el;obtain⟨ag,bF⟩:∃b,b=(x.Y&&decide (x.q.k≠0)):=⟨_,o⟩;have aR:ag=true->x.Y=true/\x.q.k≠0:=fun h=>by rw[bF,ob,lf]at h;exact h
 refine G.aR o (Z.bT<|cM x) ?_;rintro v1 H1 ⟨rfl,ae,c4,_⟩;obtain⟨hm,C,he,ab,B,_⟩:=d_ c4 hm C he ab B;refine G.O o (M.build (v:= .agg #[(.slice none 0 0),.int .i64 0,.int .i64 0]) o o eN)<|G.aR o (Z.bT ([(.slice none 0 0),.int .i64 0,.int .i64 0])) ?_;rintro ho dy ⟨rfl,E,ca,_⟩;obtain⟨hm,C,he,ab,ae,B,_⟩:=f_ ca hm C he ab ae B;refine G.O o (bu ae.T gY fe<|cY _)<|G.aC o MV (LR) ?_;rintro dZ X ⟨rfl,cb⟩;obtain⟨hm,C,he,ab,ae,E,B,_⟩:=ja cb hm C he ab ae E B;rw[<-bF];refine G.aR o (Z.bt zK) ?_;rintro v4 dq ⟨rfl,vs,cF,_⟩;have cc:=aw.new (a5.mono B.size);have cf:=aw.new (bI.mono B.size);have ch:=aw.new (bK.mono B.size);have cj:=aw.new (aV.mono B.size);have ck:=ai.new ae.lt;have cl:=ai.new E.lt;have cq:=U.new B.size;obtain⟨hm,C,he,ab,ae,E,B,_⟩:=ja cF hm C he ab ae E B;refine G.bl o (S.var vs _ (dD x.q) o o o o (nw) eK (e_ _) aO ((ea (e_ _).symm))) ?_;rintro aN ⟨vs,bL⟩;obtain⟨hm,C,he,ab,ae,E,B,_⟩:=pc bL hm cc C cf he ch ab cj ae ck E cl B cq
 refine G.bw 0 o (fun(_:Unit)=>[(1,.pointer (some ⟨V.size,0,none⟩)),(3,.pointer (some ⟨H1.size,0,none⟩)),(4,.pointer (some ⟨X.size,0,none⟩)),(5,.bool ag)])
  (fun(_:Unit) (H:Heap)=>True/\an aN H) (fun _ bw=>?_) ?_
 have al:an aN aN:=W.refl _ _;refine G.aG o ae.T b0 gn gU o o<|G.O o (bz hm gg)<|G.ae 0 o ((M.leq o o o).ji I)<|G.a1 o ae.T.iT b0 fo gE o<|G.O o (bz he er)<|G.ae 0 o ((M.leq o o o).ji I)<|G.O o e7<|G.sb 1 35 o ?_ ?_<;>intro cP;refine G.aC o mD (oy) ?_;rintro cG cH ⟨rfl,a0⟩;obtain⟨al,_⟩:=cv a0 al;exact G.aQ o<|bw () _ ⟨trivial,al⟩;have n:=aR (by simpa using cP);have F:=P.e1 n.1 n.2;have dp:=F.bF;refine G.a1 o vs.T.iQ cd gz h4 o<|G.O o (bz C iF)<|G.ae 0 o ((M.leq o o o).ji I)<|G.aC o mD (oy) ?_;rintro cG cH ⟨rfl,a0⟩;obtain⟨al,_⟩:=cv a0 al;exact G.aQ o<|bw () _ ⟨trivial,al⟩;intro _ az bQ;obtain⟨aT,bM⟩:=bQ;obtain⟨hm,C,he,ab,ae,E,vs,B,_⟩:=hr bM hm C he ab ae E vs B
 refine G.bw 0 o (fun(_:Unit)=>[(1,.pointer (some ⟨V.size,0,none⟩)),(3,.pointer (some ⟨H1.size,0,none⟩)),(4,.pointer (some ⟨X.size,0,none⟩)),(5,.bool ag)])
  (fun(_:Unit) (H:Heap)=>True/\an az H) (fun _ bA=>?_) ?_
 have R:an az az:=W.refl _ _;refine G.cJ o (fun A=>an az A) [] o ?_;have k:=an.refl az;refine N.bo 0 o k ?_;refine N.aK 1 b0 c8 k ?_;refine N.t1 2 o (fun A n=>aY (ae.T.aL n) eW) k ?_;refine N.t1 3 o (fun A n=>e7) k ?_;refine N.bo 4 o k ?_;refine N.split (d:=47) o (fun bC=>?_) fun bC=>?_;refine N.g1 5 o o o o k ?_;refine N.g1 6 o o o o k ?_;refine N.g1 7 o o o o k ?_;refine N.g1 8 o o o o k ?_;refine N.g1 9 o o o o k ?_;refine N.t1 10 o (fun A n=>kj) k ?_;refine N.ba 11 ?_;refine cK mD (oy) ?_;rintro cI a9 ⟨rfl,ax⟩;obtain⟨R,_⟩:=cv ax R;have aG:=k.al ax;refine N.cx aG ?_;refine G.dn aW ?_;have F:=(an.refl a9);exact G.aQ o<|bA () _ ⟨trivial,R⟩;have eh:=P.ab (by simpa using bC);refine N.cy 5 o (fun A n=>M.hh (ae.T.aL n) o b0 o b7) cp k ?_;refine N.cy 6 o (fun A n=>aY ((ae.T.drop 1).aL n) cm) cp k ?_;refine N.cy 7 o (fun A n=>hn e6) cp k ?_;refine N.ba 8 ?_;refine fN.call o o q7 o cp o o (vX) ?_;rintro ec cU ⟨rfl,bd⟩;obtain⟨R,_⟩:=cv bd R;have cu:=k.al bd;refine N.cx cu ?_;have aI:=an.refl cU;refine N.cy 9 o (fun A n=>(M.leq o o o).ji I) cp aI ?_;refine N.t1 10 o (fun A n=>jO) aI ?_;refine N.ba 11 ?_;refine cK mD (oy) ?_;rintro cI a9 ⟨rfl,ax⟩;obtain⟨R,_⟩:=cv ax R;have aG:=aI.al ax;refine N.cx aG ?_;refine G.dn aW ?_;have F:=(an.refl a9);exact G.aQ o<|bA () _ ⟨trivial,R⟩;intro _ bq bR;obtain⟨aT,bN⟩:=bR;obtain⟨hm,C,he,ab,ae,E,vs,B,_⟩:=hr bN hm C he ab ae E vs B;refine G.aG o ae.T b0 gn gU o o<|G.O o (bz hm gg) ?_
 refine G.bd o (fun(i:Nat)=>[(1,.pointer (some ⟨V.size,0,none⟩)),(3,.pointer (some ⟨H1.size,0,none⟩)),(4,.pointer (some ⟨X.size,0,none⟩)),(5,.bool ag),(56,x.fH.v),(57,.int .i64 (x.ml.length:Int)),(58,.int .i64 i)])
  (fun(i:Nat) (H:Heap)=>(i<=x.ml.length)/\an bq H)
  (fun(i:Nat)=>x.ml.length-i) 0 ⟨I,W.refl _ _⟩ ?_
 rintro i cL ⟨aQ,K⟩ du da;obtain⟨hm,C,he,ab,ae,E,vs,B,_⟩:=hr K hm C he ab ae E vs B;refine G.ip o ?_ ?_<;>intro bh;have aa:i<x.ml.length:=by omega
 obtain⟨y,T⟩:∃q,q=x.ml[i]:=⟨_,o⟩;have av:y∈x.ml:=by rw[T];exact cS aa
 have en:=P.mm y av;refine G.pp o (M.cw hm i o gg fD o o) fun eY cr=>G.O o (M.cast (v2:= .agg (ep y).toArray) (bu cr.T lI fD<|fF _) (by rw[T]))<|G.aR o (Z.bt p9) ?_;rintro ey dr ⟨rfl,ah,dg,_⟩;have ct:=U.new K.size;obtain⟨K,_⟩:=cv dg K;refine G.bl o (S.var ah _ (ep y) o o o o (l9 y) fD (fF _) aO ((ea (fF _).symm))) ?_;rintro bb ⟨ah,cw⟩;obtain⟨K,_⟩:=cz cw K ct;refine G.cJ o (fun A=>an bb A) [] o ?_;have k:=an.refl bb;refine N.bo 0 o k ?_;refine N.aK 1 dJ b7 k ?_;refine N.t1 2 o (fun A n=>aY (ah.T.aL n) cm) k ?_;refine N.t1 3 o (fun A n=>hn e6) k ?_;refine N.ba 4 ?_;refine cK q7 (vX) ?_;rintro ed cV ⟨rfl,dB⟩;obtain⟨ah,K,_⟩:=bG dB ah K;have be:=k.al dB;refine N.cx be ?_;have ak:=an.refl cV;refine N.t1 5 o (fun A n=>(M.leq o o o).ji I) ak ?_;refine N.bo 6 o ak ?_;refine N.cy 7 o (fun A n=>M.hh (ah.T.aL n) o dJ o b7) cp ak ?_;refine N.cy 8 o (fun A n=>aY (ah.T.sE.aL n) cm) cp ak ?_;refine N.cy 9 o (fun A n=>hn e6) cp ak ?_;refine N.ba 10 ?_;refine fN.call o o q7 o cp o o (HK) ?_;rintro ee cW ⟨rfl,bf⟩;obtain⟨K,_⟩:=cv bf K;have cx:=ak.al bf;refine N.cx cx ?_;have aJ:=an.refl cW;refine N.cy 11 o (fun A n=>(M.leq o o o).ji I) cp aJ ?_;refine N.t1 12 o (fun A n=>kj) aJ ?_;refine N.ba 13 ?_;refine cK mD (oy) ?_;rintro dA cX ⟨rfl,bi⟩;obtain⟨K,_⟩:=cv bi K;have cy:=aJ.al bi;refine N.cx cy ?_;refine G.dn aW ?_;have F:=(an.refl cX);exact G.O o bB<|G.aQ o<|da (i+1) _ ⟨I,K⟩;refine G.a1 o ae.T.iT b0 fo gE o<|G.O o (bz he er) ?_
 refine G.bd o (fun(i:Nat)=>[(1,.pointer (some ⟨V.size,0,none⟩)),(3,.pointer (some ⟨H1.size,0,none⟩)),(4,.pointer (some ⟨X.size,0,none⟩)),(5,.bool ag),(78,x.dG.v),(79,.int .i64 (x.el.length:Int)),(80,.int .i64 i)])
  (fun(i:Nat) (H:Heap)=>(i<=x.el.length)/\an cL H)
  (fun(i:Nat)=>x.el.length-i) 0 ⟨I,W.refl _ _⟩ ?_
 rintro i bD ⟨aQ,L⟩ dC bY;obtain⟨hm,C,he,ab,ae,E,vs,B,_⟩:=hr L hm C he ab ae E vs B;refine G.ip o ?_ ?_<;>intro dS;have aa:i<x.el.length:=by omega
 obtain⟨y,T⟩:∃q,q=x.el[i]:=⟨_,o⟩;have av:y∈x.el:=by rw[T];exact cS aa
 have dk:=P.md y av;refine G.pp o (M.cw he i o er dM o o) fun dT db=>G.O o (M.cast (v2:= .agg (cA y).toArray) (bu db.T lH dM<|eG _) (by rw[T]))<|G.aR o (Z.bt pf) ?_;rintro v9 dt ⟨rfl,aU,dh,_⟩;have dc:=U.new L.size;obtain⟨ab,L,_⟩:=bG dh ab L;refine G.bl o (S.var aU _ (cA y) o o o o (iJ y) dM (eG _) aO ((ea (eG _).symm))) ?_;rintro aX ⟨aU,a2⟩;obtain⟨ab,L,_⟩:=de a2 ab (aw.new (aV.mono B.size)) L dc;refine G.cJ o (fun A=>an aX A) [] o ?_;have k:=an.refl aX;refine N.bo 0 o k ?_;refine N.aK 1 hN cZ k ?_;refine N.t1 2 o (fun A n=>aY (aU.T.og.aL n) eI) k ?_;refine N.t1 3 o (fun A n=>bz ((ab y av).aL n) c_) k ?_;refine N.ba 4 ?_;refine cK q7 (QB) ?_;rintro dE c0 ⟨rfl,bg⟩;obtain⟨L,_⟩:=cv bg L;have c9:=k.al bg;refine N.cx c9 ?_;have aZ:=an.refl c0;refine N.t1 5 o (fun A n=>(M.leq o o o).ji I) aZ ?_;refine N.ba 6 ?_;refine cK mD (oy) ?_;rintro dF c1 ⟨rfl,bl⟩;obtain⟨L,_⟩:=cv bl L;have cC:=aZ.al bl;refine N.cx cC ?_;refine G.dn aW ?_;have F:=(an.refl c1);exact G.O o bB<|G.aQ o<|bY (i+1) _ ⟨I,L⟩
 refine G.bw 0 o (fun(_:Unit)=>[(1,.pointer (some ⟨V.size,0,none⟩)),(3,.pointer (some ⟨H1.size,0,none⟩)),(4,.pointer (some ⟨X.size,0,none⟩)),(5,.bool ag)])
  (fun(_:Unit) (H:Heap)=>True/\an bD H) (fun _ bs=>?_) ?_
 have ac:an bD bD:=W.refl _ _;refine G.cJ o (fun A=>an bD A) [] o ?_;have k:=an.refl bD;refine N.bo 0 o k ?_;refine N.bo 1 o k ?_;refine N.t1 2 o (fun A n=>e7) k ?_;refine N.bo 3 o k ?_;refine N.split (d:=95) o (fun bE=>?_) fun bE=>?_;refine N.g1 4 o o o o k ?_;refine N.g1 5 o o o o k ?_;refine N.g1 6 o o o o k ?_;refine N.g1 7 o o o o k ?_;refine N.g1 8 o o o o k ?_;refine N.t1 9 o (fun A n=>kj) k ?_;refine N.ba 10 ?_;refine cK mD (oy) ?_;rintro gF aK ⟨rfl,aH⟩;obtain⟨ac,_⟩:=cv aH ac;have am:=k.al aH;refine N.cx am ?_;refine G.dn aW ?_;have F:=(an.refl aK);exact G.aQ o<|bs () _ ⟨trivial,ac⟩;have n:=aR (by simpa using bE);have F:=P.e1 n.1 n.2;have dp:=F.br;refine N.cy 4 o (fun A n=>M.hh (vs.T.aL n) o cd o b7) cp k ?_;refine N.cy 5 o (fun A n=>aY ((vs.T.drop 1).aL n) cm) cp k ?_;refine N.cy 6 o (fun A n=>hn e6) cp k ?_;refine N.ba 7 ?_;refine fN.call o o q7 o cp o o (vX) ?_;rintro dG c3 ⟨rfl,bm⟩;obtain⟨ac,_⟩:=cv bm ac;have cD:=k.al bm;refine N.cx cD ?_;have aL:=an.refl c3;refine N.cy 8 o (fun A n=>(M.leq o o o).ji I) cp aL ?_;refine N.t1 9 o (fun A n=>jO) aL ?_;refine N.ba 10 ?_;refine cK mD (oy) ?_;rintro gF aK ⟨rfl,aH⟩;obtain⟨ac,_⟩:=cv aH ac;have am:=aL.al aH;refine N.cx am ?_;refine G.dn aW ?_;have F:=(an.refl aK);exact G.aQ o<|bs () _ ⟨trivial,ac⟩;intro _ ay bO;obtain⟨aT,bW⟩:=bO;obtain⟨hm,C,ae,E,vs,B,_⟩:=f_ bW hm C ae E vs B
 refine G.bw 0 o (fun(_:Unit)=>[(3,.pointer (some ⟨H1.size,0,none⟩)),(4,.pointer (some ⟨X.size,0,none⟩)),(5,.bool ag)])
  (fun(_:Unit) (H:Heap)=>True/\an ay H) (fun _ bo=>?_) ?_
 have Q:an ay ay:=W.refl _ _;refine G.cJ o (fun A=>an ay A) [] o ?_;have k:=an.refl ay;refine N.bo 0 o k ?_;refine N.aK 1 b0 c8 k ?_;refine N.t1 2 o (fun A n=>aY ((ae.T.drop 3).aL n) eW) k ?_;refine N.t1 3 o (fun A n=>e7) k ?_;refine N.bo 4 o k ?_;refine N.split (d:=107) o (fun bt=>?_) fun bt=>?_;refine N.g1 5 o o o o k ?_;refine N.g1 6 o o o o k ?_;refine N.g1 7 o o o o k ?_;refine N.g1 8 o o o o k ?_;refine N.n1 9 o o o o k ?_;refine N.n1 10 o o o o k ?_;refine N.n1 11 o o o o k ?_;refine N.n1 12 o o o o k ?_;refine N.g1 13 o o o o k ?_;refine N.t1 14 o (fun A n=>kj) k ?_;refine N.ba 15 ?_;refine cK mD (oy) ?_;rintro ce aM ⟨rfl,aA⟩;obtain⟨Q,_⟩:=cv aA Q;have ap:=k.al aA;refine N.cx ap ?_;refine G.dn aW ?_;have F:=(an.refl aM);exact G.aQ o<|bo () _ ⟨trivial,Q⟩;have dH:=P.j4 (by simpa using bt);refine N.cy 5 o (fun A n=>M.hh (vs.T.aL n) o cd o bV) cp k ?_;refine N.cy 6 o (fun A n=>aY (vs.T.aL n) cQ) cp k ?_;refine N.cy 7 o (fun A n=>(M.geq o o o).ji I) cp k ?_;refine N.cy 8 o (fun A n=>gh) cp k ?_;refine N.cy 9 o (fun A n=>M.hh (vs.T.aL n) o cd o bV) cp k ?_;refine N.cy 10 o (fun A n=>aY (vs.T.aL n) cQ) cp k ?_;refine N.ba 11 ?_;refine fN.call o o q7 o cp o o (vX) ?_;rintro dU cE ⟨rfl,a1⟩;obtain⟨Q,_⟩:=cv a1 Q;have bS:=k.al a1;refine N.cx bS ?_;have aF:=an.refl cE;refine N.cy 12 o (fun A n=>(M.leq o o o).ji I) cp aF ?_;refine N.cy 13 o (fun A n=>kj) cp aF ?_;refine N.t1 14 o (fun A n=>jO) aF ?_;refine N.ba 15 ?_;refine cK mD (oy) ?_;rintro ce aM ⟨rfl,aA⟩;obtain⟨Q,_⟩:=cv aA Q;have ap:=aF.al aA;refine N.cx ap ?_;refine G.dn aW ?_;have F:=(an.refl aM);exact G.aQ o<|bo () _ ⟨trivial,Q⟩;intro _ dv bP;obtain⟨aT,bX⟩:=bP;obtain⟨hm,C,E,vs,B,_⟩:=d_ bX hm C E vs B;refine G.ci o ?_ ?_<;>intro bZ;have n:=aR bZ;have F:=P.e1 n.1 n.2;have et:=F.bF;have eu:=F.dn;have ev:=F.md;refine G.a1 o vs.T.nK cd bV cQ o<|G.a1 o vs.T.qT cd bV cQ o<|G.aR o (Z.cV<|c5 _ ([x.q.dn,x.q.md]) Be nW nX) ?_;rintro ci dd ⟨aB,b1,_⟩;obtain⟨hm,C,E,vs,B,_⟩:=d_ b1 hm C E vs B;refine G.O o (bz aB.rd sU) ?_
 refine G.bd o (fun(i:Nat)=>[(3,.pointer (some ⟨H1.size,0,none⟩)),(4,.pointer (some ⟨X.size,0,none⟩)),(124,ci),(125,.int .i64 2),(126,.int .i64 i)])
  (fun(i:Nat) (H:Heap)=>(i<=2)/\an dd H)
  (fun(i:Nat)=>2-i) 0 ⟨I,W.refl _ _⟩ ?_
 rintro i di ⟨aQ,aq⟩ dK aC;obtain⟨hm,C,E,vs,aB,B,_⟩:=f_ aq hm C E vs aB B;refine G.ip o ?_ ?_<;>intro dz;have aa:i<[x.q.dn,x.q.md].length:=by simp;omega
 have n:0<=[x.q.dn,x.q.md][i]/\[x.q.dn,x.q.md][i]<=65535:=by
  have hm:=cS aa;rcases dI.1 hm with h|h;rw[h];omega;rw[fm.1 h];omega
 refine G.O o (jP aB i sU bV)<|G.O o (aY (aB.T (j:=i) gj) cQ)<|G.ae 3 o ((M.geq o o o).ji I)<|G.aC o q7 (HK) ?_;rintro bj dV ⟨rfl,b2⟩;obtain⟨aq,_⟩:=cv b2 aq;refine G.ae 0 o ((M.leq o o o).ji I)<|G.aC o mD (oy) ?_;rintro dW hK ⟨rfl,b4⟩;obtain⟨aq,_⟩:=cv b4 aq;exact G.O o bB<|G.aQ o<|aC (i+1) _ ⟨I,aq⟩;refine G.a1 o vs.T.iQ cd gz h4 o<|G.O o (bz C iF) ?_
 refine G.bd o (fun(i:Nat)=>[(3,.pointer (some ⟨H1.size,0,none⟩)),(141,x.q.c4.v),(142,.int .i64 (x.q.bF.length:Int)),(143,.int .i64 i)])
  (fun(i:Nat) (H:Heap)=>(i<=x.q.bF.length)/\an di H)
  (fun(i:Nat)=>x.q.bF.length-i) 0 ⟨I,W.refl _ _⟩ ?_
 rintro i dN ⟨aQ,O⟩ dO df;obtain⟨C,E,B,_⟩:=cg O C E B;refine G.ip o ?_ ?_<;>intro dw;have aa:i<x.q.bF.length:=by omega
 obtain⟨y,T⟩:∃q,q=x.q.bF[i]:=⟨_,o⟩;have av:y∈x.q.bF:=by rw[T];exact cS aa
 have dk:=F.hJ y av;refine G.pp o (M.cw C i o iF kD o o) fun dx b6=>G.O o (M.cast (v2:= .agg (eH y).toArray) (bu b6.T s4 kD<|ib _) (by rw[T]))<|G.aR o (Z.bt zI) ?_;rintro dP dQ ⟨rfl,aE,cN,_⟩;have cO:=U.new O.size;obtain⟨O,_⟩:=cv cN O;refine G.bl o (S.var aE _ (eH y) o o o o (ma y) kD (ib _) aO ((ea (ib _).symm))) ?_;rintro a6 ⟨aE,a3⟩;obtain⟨O,_⟩:=cz a3 O cO;refine G.cJ o (fun A=>an a6 A) [] o ?_;have k:=an.refl a6;refine N.bo 0 o k ?_;refine N.aK 1 nn bV k ?_;refine N.t1 2 o (fun A n=>aY (aE.T.aL n) cQ) k ?_;refine N.t1 3 o (fun A n=>(M.geq o o o).ji I) k ?_;refine N.bo 4 o k ?_;refine N.cy 5 o (fun A n=>M.hh (aE.T.aL n) o nn o bV) cp k ?_;refine N.cy 6 o (fun A n=>aY (aE.T.aL n) cQ) cp k ?_;refine N.ba 7 ?_;refine fN.call o o q7 o cp o o (vX) ?_;rintro dX b8 ⟨rfl,a_⟩;obtain⟨O,_⟩:=cv a_ O;have bT:=k.al a_;refine N.cx bT ?_;have aP:=an.refl b8;refine N.cy 8 o (fun A n=>(M.leq o o o).ji I) cp aP ?_;refine N.t1 9 o (fun A n=>kj) aP ?_;refine N.ba 10 ?_;refine cK mD (oy) ?_;rintro dY b9 ⟨rfl,ba⟩;obtain⟨O,_⟩:=cv ba O;have bU:=aP.al ba;refine N.cx bU ?_;refine G.dn aW ?_;have F:=(an.refl b9);exact G.O o bB<|G.aQ o<|df (i+1) _ ⟨I,O⟩;exact G.aG o E.T iE nJ oH o o<|G.rt o ⟨o,B⟩;exact G.aG o E.T iE nJ oH o o<|G.rt o ⟨o,B⟩
def Gi{x:b5}{w0:World}(C:gi F V x)(aa:bk F V.size)(P:qa x):
 a8 prog w0 42 #[hG x] V (fun r bQ=>∃s2:ay,∃cq:Nat,r= .tuple #[s2.v,.int .i64 0]/\aS cq 5 bQ a7 1 s2.v (ej x)/\U 0 V.size cq/\an V bQ):=by
 refine G.bN func42 o fun B=>?_;have fG:=C.m.len;have fA:=C.e.len;have bc:=P.ml;have fw:=P.el;have dX:=wy P;refine G.aR o (Z.bT<|cM x) ?_;rintro v1 H1 ⟨rfl,ae,dd,_⟩;obtain⟨C,B,_⟩:=bG dd C B;refine G.O o (bu ae.T gY fe<|cY _)<|G.aC o NO (U3 (x:=x) (w0:=w0) C.m.any C.q.any C.e.any (fun y hy=>(C.d y hy).any) P) ?_;rintro bj E ⟨rfl,cE⟩;obtain⟨C,ae,B,_⟩:=cg cE C ae B;refine G.ae 2 o ((M.neq o o o).hp a_)<|G.dP o<|G.O o (M.build (v:= .agg #[(.slice none 0 0),.int .i64 0,.int .i64 0]) o o eN)<|G.aR o (Z.bT ([(⟨none,0,0⟩:ay).v,.int .i64 0,.int .i64 0])) ?_;rintro dn a0 ⟨rfl,A,cF,_⟩;have al:=aw.new (aa.mono B.size);have X:=ai.new ae.lt;have ax:=U.new B.size;obtain⟨C,ae,B,_⟩:=cg cF C ae B;refine G.cJ o (fun aF=>W (aq [(E.size+1)]) a0 aF) [] o ?_;have L:W (aq [(E.size+1)]) a0 a0:=W.refl _ _;have de:=U.refl (E.size+1) a0.size;refine N.bo 0 o L ?_;refine N.t1 1 o (fun aF av=>M.fieldAddr (ae.aA av<|ak.J X).T o b0 o o c8 aO o) L ?_;refine N.t1 2 o (fun aF av=>M.gV (ae.aA av<|ak.J X).T o eW o) L ?_;refine N.t1 4 o (fun aF av=>M.fieldAddr (ae.aA av<|ak.J X).T o b0 o o c8 aO o) L ?_;refine N.t1 5 o (fun aF av=>aY ((ae.aA av<|ak.J X).T.drop 3) eW) L ?_;refine N.ba 3 ?_;refine cK Aj (DI (b:=x.bP) (n:=1) (w0:=w0)) ?_;rintro fh bI ⟨rfl,cG⟩;obtain⟨C,ae,A,B,L,_⟩:=d_ cG C ae A B L;refine N.aN L (ag.J<|ah.r de) ?_;have L:W (aq [(E.size+1)]) bI bI:=W.refl _ _;have df:=U.refl (E.size+1) bI.size;refine N.ba 6 ?_;refine cK Aj (DI (b:=x.Y) (n:=2) (w0:=w0)) ?_;rintro fj bK ⟨rfl,cH⟩;obtain⟨C,ae,A,B,L,_⟩:=d_ cH C ae A B L;refine N.aN L (ag.J<|ah.r df) ?_;have L:W (aq [(E.size+1)]) bK bK:=W.refl _ _;have ck:=U.refl (E.size+1) bK.size;refine N.t1 7 o (fun aF av=>M.II o o o) L ?_;refine N.ba 8 ?_;refine cK pB (p8 (xs:=[]) 1 (w0:=w0) A (aS.nil eM fy) ai.z aO a_) fun hK aG dh=>?_;have di:=ae.lt;obtain⟨dp,aL,rfl,A,k,aV,cl,aM⟩:=dh;have a2:=aw.app aw.z (aa.mono B.size) aV;have a3:=ai.app ai.z di aV;have a4:=U.al (U.refl 0 _) aV B.size;have cI:=U.al (U.refl 0 _) aV L.size;have C:=C.aA aM (aB.cons al (aB.J aw.z));have ae:=ae.aA aM (ak.cons X (ak.J ai.z));have B:=B.gK aM (ag.cons (ah.q ax) (ag.cons ah.z ag.nil));have L:=L.bf aM (ag.cons (ah.r ck) (ag.cons ah.z ag.nil));have ds:=aM.size;have Q:=k.le;refine N.aN L (ag.cons (ah.r ck)<|ag.J<|ah.q cI) ?_;refine G.dn aW ?_
 refine G.bw 0 o (fun(aE:ay×Nat)=>match aE with|(s1,aQ)=>[(1,.pointer (some ⟨V.size,0,none⟩)),(5,.pointer (some ⟨E.size,0,none⟩))])
  (fun(s1,aQ) (H:Heap)=>(Var 226 H E.size [s1.v,.int .i64 0,.int .i64 0])/\aS aQ 5 H a7 1 s1.v (nj x)/\U aL aG.size aQ/\ai (E.size+1) aQ/\W (aq [(E.size+1),aL]) aG H) (fun _ cj=>?_) ?_
 have aN:W (aq [(E.size+1),aL]) aG aG:=W.refl _ _;have cv:=U.refl (E.size+1) aG.size;have bH:=U.refl aL aG.size;refine G.aG o ae.T b0 c8 eW o o<|G.ci o ?_ ?_<;>intro bL;refine G.aG o ae.T b0 b7 cm o o<|G.aC o u6 (w1 1 x.ab (w0:=w0) A k cl (by simp[ft]) aO (by have:=P.ab bL;omega)) ?_;rintro fk fl ⟨dq,dr,rfl,A,k,cL,dG,a5⟩;have cN:=U.al bH cL aN.size;have aN:=aN.bf a5 (ag.cons (ah.r cv) (ag.J (ah.r bH)));have ho:=a5.size;have Q:=k.le;exact G.aQ o<|cj (dq,dr) _ ⟨A,(by rw[nj,aD bL];exact k),cN,dG,aN⟩;exact G.aQ o<|cj (dp,aL) _ ⟨A,(by rw[nj,au (by simp[bL]),hD];exact k),bH,cl,aN⟩;rintro⟨s1,aQ⟩ ed cw;obtain⟨A,k,O,ac,bd⟩:=cw;have bR:=aw.app a2 (aa.mono B.size) O;have bS:=ai.app a3 ae.lt O;have bU:=U.al a4 O B.size;have C:=C.aA bd (aB.cons al (aB.J a2));have ae:=ae.aA bd (ak.cons X (ak.J a3));have B:=B.gK bd (ag.cons (ah.q ax) (ag.J (ah.q a4)));have fm:=bd.size;have Q:=k.le;have cO:=ac;refine G.aG o ae.T b0 gn gU o o<|G.O o (bz C.m gg)<|G.O o (M.jh o ht hO o)<|G.aC o pB (p8 2 (w0:=w0) A k cO aO I) fun fp bN dt=>?_;have cP:=ae.lt;obtain⟨du,bO,rfl,A,k,bm,dI,aX⟩:=dt;have a9:=aw.app bR (aa.mono B.size) bm;have b9:=ai.app bS cP bm;have b_:=U.al bU bm B.size;have C:=C.aA aX (aB.cons al (aB.J bR));have ae:=ae.aA aX (ak.cons X (ak.J bS));have B:=B.gK aX (ag.cons (ah.q ax) (ag.J (ah.q bU)));have fq:=aX.size;have Q:=k.le;refine G.aG o ae.T b0 gn gU o o<|G.O o (bz C.m gg) ?_
 refine G.bd o (fun(aE:Nat×ay×Nat)=>match aE with|(i,gA,T)=>[(1,.pointer (some ⟨V.size,0,none⟩)),(5,.pointer (some ⟨E.size,0,none⟩)),(39,x.fH.v),(40,.int .i64 (x.ml.length:Int)),(41,.int .i64 i)])
  (fun(i,gA,T) (H:Heap)=>(i<=x.ml.length)/\Var 226 H E.size [gA.v,.int .i64 0,.int .i64 0]/\aS T 5 H a7 1 gA.v ((nj x++dH 2 (UInt64.ofNat x.ml.length)++(x.ml.take i).flatMap lV))/\U bO bN.size T/\ai (E.size+1) T/\W (aq [(E.size+1),bO]) bN H)
  (fun(i,gA,T)=>x.ml.length-i) (0,du,bO) ⟨I,A,(by simpa using k),U.refl _ _,dI,W.refl _ _⟩ ?_
 rintro⟨i,gA,T⟩ aI ⟨dV,A,k,O,ac,K⟩ fu cQ;have bo:=aw.app a9 (aa.mono B.size) O;have bb:=ai.app b9 ae.lt O;have ca:=U.al b_ O B.size;have C:=C.aA K (aB.cons al (aB.J a9));have ae:=ae.aA K (ak.cons X (ak.J b9));have B:=B.gK K (ag.cons (ah.q ax) (ag.J (ah.q b_)));have eu:=K.size;have Q:=k.le;have bq:=ac;have ba:=U.refl (E.size+1) bN.size;have dB:=O;have dW:=B_ P i;have cp:(nj x++dH 2 (UInt64.ofNat x.ml.length)++(x.ml.take i).flatMap lV).length<=4400000000:=by simp only[b2,ft];omega
 refine G.ip o ?_ ?_<;>intro ev;have aP:i<x.ml.length:=by omega
 obtain⟨y,az⟩:∃q,q=x.ml[i]:=⟨_,o⟩;have bl:y∈x.ml:=by rw[az];exact cS aP
 have fL:=P.mm y bl;refine G.pp o (M.cw C.m i o gg fD o o) fun ey bX=>G.O o (M.cast (v2:= .agg (ep y).toArray) (bu bX.T lI fD<|fF _) (by rw[az]))<|G.aR o (Z.bt p9) ?_;rintro fM dY ⟨rfl,R,dv,_⟩;have bt:=ai.new k.le;have aZ:=ai.new A.lt;have bM:=U.new K.size;obtain⟨k,A,K,_⟩:=cg dv k A K;refine G.bl o (S.var R _ (ep y) o o o o (l9 y) fD (fF _) aO ((ea (fF _).symm))) ?_;rintro en ⟨R,cr⟩;obtain⟨k,A,K,_⟩:=dg cr k bt A aZ K (ah.q bM);refine G.aG o R.T dJ b7 cm o o<|G.aC o u6 (w1 1 y.n (w0:=w0) A k bq I aO I) fun eA eC c4=>?_;have cy:=R.lt;obtain⟨eD,eE,rfl,A,k,be,dK,bw⟩:=c4;have c7:=ai.app bt.symm cy be;have cb:=U.al dB be K.size;have R:=R.aA bw (ak.cons aZ.symm (ak.J bt.symm));have K:=K.bf bw (ag.cons (ah.r ba) (ag.J (ah.r dB)));have ef:=bw.size;have Q:=k.le;refine G.aK o dJ bE o<|G.O o (M.cast (v2:=b4 y.J) (bu ((R.T.drop 1).take 32) dj bE (by rw[jR];exact bJ _))<|dk<|jR _)<|G.aC o tf (uL y.J (w0:=w0) A k dK (by rw[b2,jr];omega)) fun eF eJ c5=>?_;have cz:=R.lt;obtain⟨eL,eO,rfl,A,k,cc,dN,bA⟩:=c5;have cC:=ai.app c7 cz cc;have bi:=U.al cb cc K.size;have R:=R.aA bA (ak.cons aZ.symm (ak.J c7));have K:=K.bf bA (ag.cons (ah.r ba) (ag.J (ah.r cb)));have eg:=bA.size;have Q:=k.le;refine G.aK o dJ bE o<|G.O o (M.cast (v2:=b4 y.w) (bu ((R.T.drop 33).take 32) dj bE (by rw[hA];exact bJ _))<|dk<|hA _)<|G.aC o tf (uL y.w (w0:=w0) A k dN (by rw[b2,b2,jr,y.J.2];omega)) ?_;rintro eP eR ⟨eS,eT,rfl,A,k,cD,dO,bC⟩;have cd:=U.al bi cD K.size;have R:=R.aA bC (ak.cons aZ.symm (ak.J cC));have K:=K.bf bC (ag.cons (ah.r ba) (ag.J (ah.r bi)));have eh:=bC.size;have Q:=k.le;refine G.a1 o R.T.sE dJ b7 cm o<|G.aC o u6 (w1 2 y.y (w0:=w0) A k dO (by rw[b2,b2,b2,jr,y.J.2,y.w.2];omega) aO I) ?_;rintro eU eV ⟨c_,da,rfl,A,k,cU,dP,aT⟩;have dw:=U.al cd cU K.size;have K:=K.bf aT (ag.cons (ah.r ba) (ag.J (ah.r cd)));have ei:=aT.size;have Q:=k.le;exact G.O o bB<|G.aQ o<|cQ (i+1,c_,da) _ ⟨I,A,(by rw[tA aP,<-az,lV];simpa only[ew]using k),dw,dP,K⟩;obtain rfl:i=x.ml.length:=by omega
 rw[eQ]at k cp;have dX:=wy P
 refine G.bw 0 o (fun(aE:ay×Nat)=>match aE with|(cV,aR)=>[(1,.pointer (some ⟨V.size,0,none⟩)),(5,.pointer (some ⟨E.size,0,none⟩))])
  (fun(cV,aR) (H:Heap)=>(Var 226 H E.size [cV.v,.int .i64 0,.int .i64 0])/\aS aR 5 H a7 1 cV.v (nh x)/\U T aI.size aR/\ai (E.size+1) aR/\W (aq [(E.size+1),T]) aI H) (fun _ bD=>?_) ?_
 have ap:W (aq [(E.size+1),T]) aI aI:=W.refl _ _;have aU:=U.refl (E.size+1) aI.size;have bF:=U.refl T aI.size;refine G.aG o ae.T b0 c8 eW o o<|G.ci o ?_ ?_<;>intro bg;refine G.aK o b0 eK o<|G.O o (M.cast (v2:=jJ x.q) (bu ((ae.T.drop 4).take 70) l6 eK (by rw[m6];exact e_ _))<|dk<|m6 x)<|G.aC o Mi (U4 (x:=x.q) (F:=F) (w0:=w0) A k bq I C.q (aa.mono B.size) al bo (P.j4 bg)<|P.e1 bg) ?_;rintro eX eZ ⟨db,dc,rfl,A,k,dy,dQ,c9⟩;have gF:=U.al bF dy ap.size;have ap:=ap.bf c9 (ag.cons (ah.r aU) (ag.J (ah.r bF)));have ez:=c9.size;have Q:=k.le;exact G.aQ o<|bD (db,dc) _ ⟨A,(by rw[nh,aD bg];exact k),gF,dQ,ap⟩;exact G.aQ o<|bD (gA,T) _ ⟨A,(by rw[nh,au (by simp[bg]),hD];exact k),bF,bq,ap⟩;rintro⟨cV,aR⟩ ee cx;obtain⟨A,k,O,ac,bf⟩:=cx;have cf:=aw.app bo (aa.mono B.size) O;have ce:=ai.app bb ae.lt O;have bV:=U.al ca O B.size;have C:=C.aA bf (aB.cons al (aB.J bo));have ae:=ae.aA bf (ak.cons X (ak.J bb));have B:=B.gK bf (ag.cons (ah.q ax) (ag.J (ah.q ca)));have fa:=bf.size;have Q:=k.le;have cW:=ac;refine G.a1 o ae.T.iT b0 fo gE o<|G.O o (bz C.e er)<|G.O o (M.jh o ht hO o)<|G.aC o pB (p8 2 (w0:=w0) A k cW aO (by have:=yH P;omega)) ?_;rintro e0 bP ⟨bh,gG,rfl,A,k,bT,dS,a1⟩;have bW:=aw.app cf (aa.mono B.size) bT;have bY:=U.al bV bT B.size;have C:=C.aA a1 (aB.cons al (aB.J cf));have ae:=ae.aA a1 (ak.cons X (ak.J ce));have B:=B.gK a1 (ag.cons (ah.q ax) (ag.J (ah.q bV)));have eY:=a1.size;have Q:=k.le;refine G.a1 o ae.T.iT b0 fo gE o<|G.O o (bz C.e er) ?_
 refine G.bd o (fun(aE:Nat×ay×Nat)=>match aE with|(i,aJ,aA)=>[(5,.pointer (some ⟨E.size,0,none⟩)),(75,x.dG.v),(76,.int .i64 (x.el.length:Int)),(77,.int .i64 i)])
  (fun(i,aJ,aA) (H:Heap)=>(i<=x.el.length)/\Var 226 H E.size [aJ.v,.int .i64 0,.int .i64 0]/\aS aA 5 H a7 1 aJ.v (nh x++dH 2 (UInt64.ofNat x.el.length)++(x.el.take i).flatMap kA)/\U gG bP.size aA/\ai (E.size+1) aA/\W (aq [(E.size+1),gG]) bP H)
  (fun(i,aJ,aA)=>x.el.length-i) (0,bh,gG) ⟨I,A,(by simpa using k),U.refl _ _,dS,W.refl _ _⟩ ?_
 rintro⟨i,aJ,aA⟩ e1 ⟨dV,A,k,O,ac,aH⟩ e2 aC;have br:=aw.app bW (aa.mono B.size) O;have bs:=U.al bY O B.size;have C:=C.aA aH (aB.cons al (aB.J bW));have B:=B.gK aH (ag.cons (ah.q ax) (ag.J (ah.q bY)));have fc:=aH.size;have Q:=k.le;have cX:=ac;have am:=U.refl (E.size+1) bP.size;have bZ:=O;have dW:=Gb P i;have fH:=yH P;have fB:=P.el;have cp:(nh x++dH 2 (UInt64.ofNat x.el.length)++(x.el.take i).flatMap kA).length<=8800000000:=by simp only[b2,ft];omega
 refine G.ip o ?_ ?_<;>intro iI;have aP:i<x.el.length:=by omega
 obtain⟨y,az⟩:∃q,q=x.el[i]:=⟨_,o⟩;have bl:y∈x.el:=by rw[az];exact cS aP
 have fJ:=P.md y bl;refine G.pp o (M.cw C.e i o er dM o o) fun ff dz=>G.O o (M.cast (v2:= .agg (cA y).toArray) (bu dz.T lH dM<|eG _) (by rw[az]))<|G.aR o (Z.bt pf) ?_;rintro v9 ec ⟨rfl,aK,dD,_⟩;have c0:=aw.new (aa.mono B.size);have b1:=ai.new k.le;have b6:=ai.new A.lt;have c1:=U.new aH.size;obtain⟨C,k,A,aH,_⟩:=dZ dD C k A aH;refine G.bl o (S.var aK _ (cA y) o o o o (iJ y) dM (eG _) aO ((ea (eG _).symm))) ?_;rintro et ⟨aK,ct⟩;obtain⟨C,k,A,aH,_⟩:=dx ct C c0 k b1 A b6 aH (ah.q c1);refine G.aK o hN bE o<|G.O o (M.cast (v2:=b4 y.k) (bu (aK.T.take 32) dj bE (by rw[show(cA y).take 32=cu y.k from hU y];exact bJ _))<|dk (show(cA y).take 32=cu y.k from hU y))<|G.aC o tf (uL y.k (w0:=w0) A k cX I) ?_;rintro e3 e4 ⟨e5,e6,rfl,A,k,fO,dT,a6⟩;have b8:=U.al bZ fO aH.size;have C:=C.aA a6 (aB.cons al (aB.J br));have aK:=aK.aA a6 (ak.cons b6.symm (ak.J b1.symm));have aH:=aH.bf a6 (ag.cons (ah.r am) (ag.J (ah.r bZ)));have fg:=a6.size;have Q:=k.le;refine G.a1 o aK.T.og hN cZ eI o<|G.O o (M.oK (C.d y bl) o underlying93 underlying9 underlying5 o)<|G.aC o u6 (w1 4 y.d (w0:=w0) A k dT (by rw[b2,y.k.2];omega) aO I) ?_;rintro e7 e8 ⟨dE,dF,rfl,A,k,dA,dU,ch⟩;have c3:=U.al b8 dA aH.size;have aH:=aH.bf ch (ag.cons (ah.r am) (ag.J (ah.r b8)));have dl:=ch.size;have Q:=k.le;exact G.O o bB<|G.aQ o<|aC (i+1,dE,dF) _ ⟨I,A,(by rw[tA aP,<-az,kA];simpa only[ew]using k),c3,dU,aH⟩;obtain rfl:i=x.el.length:=by omega
 rw[eQ]at k;refine G.aC o Mj (UP (w0:=w0) A) ?_;rintro e9 d0 ⟨rfl,dC⟩;obtain⟨k,B,_⟩:=bG dC k B;exact G.rt o ⟨aJ,aA,o,by rw[Gg];exact k,bs,B⟩
def tQ(p:List UInt8):List UInt8:=(p.reverse.takeWhile (fun c=>c≠47)).reverse
def Hv{p:List UInt8}{j:Nat}(E:j<=p.length)(A:∀q (h:q<p.length),j<=q->p[q]≠47)(B:∀h:0<j,p[j-1]' I=47):tQ p=p.drop j:=by
 have e:p.reverse=(p.drop j).reverse++(p.take j).reverse:=by rw[<-By,hY]
 have ab:∀c∈(p.drop j).reverse,(decide (c≠47))=true:=by
  intro c aj;rw[Bz,Bp]at aj;obtain⟨q,C,rfl⟩:=aj;rw[yn];simpa using A (j+q) (by simpa using(by rw[h6]at C;omega)) I
 unfold tQ;rw[e,BA ab];rcases qu j with k|k;subst k;simp;have r:(p.take j).reverse=47::(p.take (j-1)).reverse:=by
  have:p.take j=p.take (j-1)++[47]:=by
   have n:=fc (l:=p) (i:=j-1) I;rw[show j-1+1=j by omega,B k]at n;exact n
  rw[this];simp
 rw[r,List.takeWhile_cons];simp
def a8.T6{w0:World}{f:FuncId}{args:Array Value}{v:Value}(h:∀w,At w0 H w->Calls P f args w fun e n=>e= .returned v/\(n=w\/n=w.drew)):a8 P w0 f args H (fun r A=>r=v/\an H A):=
 fun w k=>(h w k).mono (fun e n ⟨he,hw⟩=>by
  rcases hw with rfl|rfl;exact⟨v,H,he,k,o,an.refl _⟩;exact⟨v,H,he,k.drew,o,an.refl _⟩)
def Uv(s:List UInt8){w0:World}(Y:s.length<=9223372036854775807):a8 prog w0 123 #[aJ s,aJ [47]] H (fun r n=>r=aJ (Lib.trimB s 47)/\an H n):=
 a8.T6 (fun w A=>by
  have h:Calls prog 123 #[aJ s,aJ [47]] w fun e k=>e= .returned (.string ⟨(Lib.trimB (⟨s.toArray⟩:ByteArray).data.toList 47).toArray⟩)/\(k=w\/k=w.drew):=Any.strings_Trim_one Tryz.lays160 ⟨s.toArray⟩ 47 aO w (by simpa[ByteArray.size]using Y);exact h)
def dd2q:List UInt8->Bool
 |[]=>false
 |[_]=>false
 |a::b::l=>(a==47&&b==47)||dd2q (b::l)
def FP:∀s:List UInt8,(0<=Lib.index s [47,47])↔dd2q s=true
 |[]=>by simp[Lib.index,dd2q]
 |[a]=>by simp[Lib.index,dd2q,List.isPrefixOf]
 |a::b::l=>by
  have ih:=FP (b::l);have r:=Lib.index_ge (b::l) [47,47];rw[Lib.index];by_cases h:a=47/\b=47;obtain⟨rfl,rfl⟩:=h;simp[List.isPrefixOf,dd2q];have n:([47,47]:List UInt8).isPrefixOf (a::b::l)=false:=by
   simp only[List.isPrefixOf,Bool.and_true,yl,beq_eq_false_iff_ne];by_cases k:a=47;exact .inr (fun e=>h ⟨k,e.symm⟩);exact .inl (fun e=>k e.symm)
  have ab:dd2q (a::b::l)=dd2q (b::l):=by
   rw[dd2q];have:(a==47&&b==47)=false:=by
    rw[yl,beq_eq_false_iff_ne,beq_eq_false_iff_ne];by_cases k:a=47;exact .inr (fun e=>h ⟨k,e⟩);exact .inl k
   rw[this,Br]
  rw[n,ab,<-ih];simp only[nb,if_false];by_cases hm:Lib.index (b::l) [47,47]= -1;simp[hm];simp[hm];omega
def AL:∀s:List UInt8,dd2q s=true↔∃i,i+1<s.length/\s.getD i 0=47/\s.getD (i+1) 0=47
 |[]=>by simp[dd2q]
 |[a]=>by simp[dd2q]
 |a::b::l=>by
  rw[dd2q,vx,AL (b::l),ob,beq_iff_eq,beq_iff_eq];constructor;rintro(⟨n,k⟩|⟨i,n,k,r⟩);exact⟨0,by simp,by simpa using n,by simpa using k⟩;exact⟨i+1,by simp at n⊢;omega,by simpa using k,by simpa using r⟩;rintro⟨i,n,k,r⟩;cases i with
  |zero=>exact .inl ⟨by simpa using k,by simpa using r⟩
  |succ i=>exact .inr ⟨i,by simp at n⊢;omega,by simpa using k,by simpa using r⟩
def JV{p:List UInt8}(A:1<=p.length):zo p=true↔p.getD 0 0≠47/\p.getD (p.length-1) 0≠47/\dd2q p=false:=by
 unfold zo;rw[sq];simp only[List.mem_range,tI,yl,beq_eq_false_iff_ne,Bs];constructor;intro h;refine⟨?_,?_,?_⟩;rcases h 0 I with h|h;exact h;exact absurd o h.1.1;rcases h (p.length-1) I with h|h;exact h;exact absurd o h.1.2;cases ab:dd2q p with
 |false=>rfl
 |true=>
  obtain⟨i,k,n,r⟩:=(AL p).1 ab;rcases h (i+1) k with h|h;exact absurd r h;exact absurd n (by simpa using h.2)
 rintro⟨k,n,r⟩ i B;by_cases e:p.getD i 0=47;refine .inr ⟨⟨fun bN=>?_,fun bN=>?_⟩,fun bN=>?_⟩;subst bN;exact k e;subst bN;exact n e;have:dd2q p=true:=(AL p).2 ⟨i-1,by
  rcases qu i with h|h;subst h;exact absurd e k;omega,bN,by
  rcases qu i with h|h;subst h;exact absurd e k;rw[show i-1+1=i by omega];exact e⟩
 rw[r]at this;cases this;exact .inl e
def Ks{p:List UInt8}(n:1<=p.length):Lib.trimB p 47=p↔p.getD 0 0≠47/\p.getD (p.length-1) 0≠47:=by
 have E:∀q:List UInt8,(Lib.trimLeftB q 47).length<=q.length:=fun q=>(yo _).length_le;have H:∀q:List UInt8,(Lib.trimRightB q 47).length<=q.length:=fun q=>by unfold Lib.trimRightB;rw[vJ];have:=(yo (l:=q.reverse) (fun x:UInt8=>x==47)).length_le;rwa[vJ]at this
 have k:∀q:List UInt8,1<=q.length->(Lib.trimLeftB q 47=q↔q.getD 0 0≠47):=by
  intro q F;cases q with
  |nil=>simp at F
  |cons a l=>
   unfold Lib.trimLeftB;rw[List.dropWhile_cons];by_cases B:a=47;have:(List.dropWhile (fun x:UInt8=>x==47) l).length<=l.length:=(yo _).length_le;simp only[B,beq_self_eq_true,if_true,yk,ne_eq,not_true,iff_false];intro e;rw[e]at this;simp only[fA]at this;omega;simp[B]
 have C:Lib.trimRightB p 47=p↔p.getD (p.length-1) 0≠47:=by
  have h:=k p.reverse (by rw[vJ];omega);have bc:p.reverse.getD 0 0=p.getD (p.length-1) 0:=by
   simp[List.getD,List.getElem?_reverse (show 0<p.length by omega)]
  rw[<-bc,<-h];unfold Lib.trimRightB Lib.trimLeftB;constructor;intro h;have:=bn List.reverse h;rwa[vI]at this;intro h;rw[h,vI]
 unfold Lib.trimB;constructor;intro h;have e:Lib.trimRightB p 47=p:=by
  refine(List.IsPrefix.eq_of_length_le ?_ ?_);unfold Lib.trimRightB;rw[<-List.reverse_suffix,vI];exact yo _;have r:=bn List.length h;have A:=E (Lib.trimRightB p 47);omega
 rw[e]at h;exact⟨(k p n).1 h,C.1 e⟩;rintro⟨r,A⟩;rw[C.2 A];exact(k p n).2 r
def Cn{p:List UInt8}:cR p=true↔p≠[]/\p.length<=100/\Lib.trimB p 47=p/\Lib.contains p [47,47]=false/\∀i (h:i<p.length),pV p[i]=true:=by
 have aj:Lib.contains p [47,47]=dd2q p:=by
  unfold Lib.contains;rw[Bv,decide_eq_true_iff];exact FP p
 unfold cR;simp only[ob,lf,sq];rw[aj];constructor;rintro⟨⟨⟨k,A⟩,B⟩,C⟩;have n:=(JV k).1 C;exact⟨fun e=>by rw[e]at k;simp at k,A,(Ks k).2 ⟨n.1,n.2.1⟩,n.2.2,fun i h=>B _ (cS h)⟩;rintro⟨k,A,B,C,n⟩
 have r:1<=p.length:=by cases p with
  |nil=>exact absurd o k
  |cons a l=>simp
 have E:=(Ks r).1 B;refine⟨⟨⟨r,A⟩,fun x H=>?_⟩,(JV r).2 ⟨E.1,E.2,C⟩⟩;obtain⟨i,F,rfl⟩:=Bp.1 H;exact n i F
def rz{p:List UInt8}(h:¬(p≠[]/\p.length<=100/\Lib.trimB p 47=p/\Lib.contains p [47,47]=false/\∀i (h:i<p.length),pV p[i]=true)):cR p=false:=by
 cases ar:cR p with
 |false=>rfl
 |true=>exact absurd ((Cn).1 ar) h
def o5{c:UInt8}:pV c=true↔(97<=c.toNat/\c.toNat<=122)\/(48<=c.toNat/\c.toNat<=57)\/0<=Lib.indexByte [46,95,45,47] c:=by
 have h:∀n:Fin 256,(pV (UInt8.ofNat n.val)=decide ((97<=n.val/\n.val<=122)\/(48<=n.val/\n.val<=57)\/0<=Lib.indexByte [46,95,45,47] (UInt8.ofNat n.val))):=by decide+kernel
 have:=h ⟨c.toNat,c.toNat_lt⟩;simp only[Bq]at this;rw[this,decide_eq_true_iff]
def PH{s:List UInt8}{j:Nat}(n:j<=s.length)(h:tQ s=s.drop j):nz s=s.take (j-1):=by
 unfold nz;have k:=bn List.length h;unfold tQ at k;rw[vJ,h6]at k;rw[k];congr 1;omega
def Qm{s:List UInt8}{w0:World}(O:s.length<=9223372036854775807):
 a8 prog w0 226 #[aJ s,.int .u8 (47:UInt8).toNat] V (fun r F=>∃j:Nat,r= .int .i64 ((j:Int)-1)/\j<=s.length/\tQ s=s.drop j/\an V F):=by
 refine G.bN func226 o fun k=>G.O o (hn e6) (G.O o eA ?_)
 refine G.bd o (fun(j:Nat)=>[(0,aJ s),(1,.int .u8 (47:UInt8).toNat),(5,.int .i64 ((j:Int)-1))])
  (fun(j:Nat) (H:Heap)=>(j<=s.length)/\(∀q (h:q<s.length),j<=q->s[q]≠47)/\an V H)
  (fun(j:Nat)=>j) s.length ⟨I,(fun q h B=>absurd B I),W.refl _ _⟩ ?_
 rintro j N ⟨E,n,A⟩ L K;obtain⟨k,_⟩:=cv A k;refine G.ip o ?_ ?_<;>intro M;refine G.O o (l1 (j-1) e6)<|G.ip o ?_ ?_<;>intro ac;exact G.rt o ⟨j,o,I,Hv E n (fun h=>by apply yg.1;have:=ac;simp at this⊢;omega),k⟩;exact G.O o eA<|G.aQ o<|K (j-1) _ ⟨I,(fun q h B=>by rcases sn q j with C|C;(obtain rfl:q=j-1:=by omega);exact(fun e=>ac (by first|·rw[e]|(rw[e]<;>rfl)));exact n q h C),A⟩;refine G.rt o ?_;obtain rfl:j=0:=by omega
 exact⟨0,o,I,Hv E n (fun h=>absurd h (Nat.lt_irrefl _)),k⟩
def Ql(s:List UInt8){w0:World}(B:s.length<=9223372036854775807):
 a8 prog w0 191 #[aJ s,.int .u8 (47:UInt8).toNat] H (fun r n=>∃j:Nat,r= .int .i64 ((j:Int)-1)/\j<=s.length/\tQ s=s.drop j/\an H n):=by
 refine G.bN func191 o fun k=>G.aC o M_ (Qm B) ?_;rintro K F ⟨E,rfl,A,C,ac⟩;have k:=k.al ac;exact G.rt o ⟨E,o,A,C,k⟩
def sG{mx_:Int}(l:List UInt8){w0:World}(aV:gL mx_ V)(aC:bk (fun b=>b=0) V.size)(aF:l.length<=4294967280):
 a8 prog w0 48 #[aJ l] V (fun r ae=>r= .bool (cR l)/\an V ae):=by
 refine G.bN func48 o fun k=>G.ae 2 o (M.ox o o o) (G.sp 1 7 o (fun g7=>?_) fun g7=>?_);exact G.it o<|G.rt o ⟨bn Value.bool (rz fun h=>by obtain⟨E,L,F,K,N⟩:=h;first|exact E g7|omega|exact ap F|(rw[K]at A;cases A)).symm,k⟩;refine G.O o (hn e6)<|G.sp 3 12 o ?_ ?_<;>intro aB;exact G.it o<|G.rt o ⟨bn Value.bool (rz fun h=>by obtain⟨E,L,F,K,N⟩:=h;first|exact E g7|omega|exact ap F|(rw[K]at A;cases A)).symm,k⟩;refine G.aC o Mr (Uv l I) ?_;rintro a5 aw ⟨rfl,bt⟩;obtain⟨aV,k,_⟩:=bG bt aV k;refine G.ae 1 o kJ<|G.sp 2 18 o ?_ ?_<;>intro ap;exact G.it o<|G.rt o ⟨bn Value.bool (rz fun h=>by obtain⟨E,L,F,K,N⟩:=h;first|exact E g7|omega|exact ap F|(rw[K]at A;cases A)).symm,k⟩;refine G.aC o EK (FI l aV I) ?_;rintro ax ay ⟨rfl,al⟩;obtain⟨k,_⟩:=cv al k;refine G.ci o ?_ ?_<;>intro A;exact G.rt o ⟨bn Value.bool (rz fun h=>by obtain⟨E,L,F,K,N⟩:=h;first|exact E g7|omega|exact ap F|(rw[K]at A;cases A)).symm,k⟩;refine G.aR o (Z.zw o underlying9 underlying93 underlying5 o I) ?_;rintro X a0 ⟨O,aq,az⟩;obtain⟨k,_⟩:=cv aq k;refine G.O o (bz O.rd c_) ?_
 refine G.bd o (fun(i:Nat)=>[(23,X),(24,.int .i64 l.length),(25,.int .i64 i)])
  (fun(i:Nat) (H:Heap)=>(i<=l.length)/\(∀q (h:q<l.length),q<i->pV l[q]=true)/\an a0 H)
  (fun(i:Nat)=>l.length-i) 0 ⟨I,(fun q h L=>absurd L I),W.refl _ _⟩ ?_
 rintro i T ⟨aE,aa,P⟩ a9 ag;obtain⟨O,k,_⟩:=bG P O k;refine G.ip o ?_ ?_<;>intro a2;have Q:i<l.length:=by omega
 refine G.bw 0 o (fun(_:Unit)=>[(23,X),(24,.int .i64 l.length),(25,.int .i64 i)])
  (fun(_:Unit) (H:Heap)=>(pV l[i]=true)/\an T H) (fun _ B=>?_) ?_
 have n:an T T:=W.refl _ _;refine G.O o (jP O i c_ db)<|G.O o (aY (O.T (j:=i) gj) e8)<|G.sp 4 31 o ?_ ?_<;>intro a3;refine G.sp 4 35 o ?_ ?_<;>intro a4;exact G.O o e7<|G.dP o<|G.aQ o<|B () _ ⟨(o5).2 (by simp at*;omega),n⟩;refine G.sp 3 38 o ?_ ?_<;>intro ah;refine G.sp 5 43 o ?_ ?_<;>intro ai;exact G.O o e7<|G.dP o<|G.aQ o<|B () _ ⟨(o5).2 (by simp at*;omega),n⟩;refine G.aC o nU (n3) ?_;rintro R S ⟨rfl,C⟩;obtain⟨k,n,_⟩:=bG C k n;refine G.O o (M.mL o o)<|G.ip o ?_ ?_<;>intro am;exact G.rt o ⟨bn Value.bool (rz fun h=>by have U:=(o5).1 (h.2.2.2.2 i Q);simp at*;omega).symm,k⟩;exact G.aQ o<|B () _ ⟨(o5).2 (by simp at*;omega),n⟩;refine G.aC o nU (n3) ?_;rintro R S ⟨rfl,C⟩;obtain⟨k,n,_⟩:=bG C k n;refine G.O o (M.mL o o)<|G.ip o ?_ ?_<;>intro am;exact G.rt o ⟨bn Value.bool (rz fun h=>by have U:=(o5).1 (h.2.2.2.2 i Q);simp at*;omega).symm,k⟩;exact G.aQ o<|B () _ ⟨(o5).2 (by simp at*;omega),n⟩;refine G.sp 7 38 o ?_ ?_<;>intro ah;refine G.sp 5 43 o ?_ ?_<;>intro ai;exact G.O o e7<|G.dP o<|G.aQ o<|B () _ ⟨(o5).2 (by simp at*;omega),n⟩;refine G.aC o nU (n3) ?_;rintro R S ⟨rfl,C⟩;obtain⟨k,n,_⟩:=bG C k n;refine G.O o (M.mL o o)<|G.ip o ?_ ?_<;>intro am;exact G.rt o ⟨bn Value.bool (rz fun h=>by have U:=(o5).1 (h.2.2.2.2 i Q);simp at*;omega).symm,k⟩;exact G.aQ o<|B () _ ⟨(o5).2 (by simp at*;omega),n⟩;refine G.aC o nU (n3) ?_;rintro R S ⟨rfl,C⟩;obtain⟨k,n,_⟩:=bG C k n;refine G.O o (M.mL o o)<|G.ip o ?_ ?_<;>intro am;exact G.rt o ⟨bn Value.bool (rz fun h=>by have U:=(o5).1 (h.2.2.2.2 i Q);simp at*;omega).symm,k⟩;exact G.aQ o<|B () _ ⟨(o5).2 (by simp at*;omega),n⟩;intro _ aA ak;obtain⟨av,aH⟩:=ak;obtain⟨P,_⟩:=cv aH P;exact G.O o bB<|G.aQ o<|ag (i+1) _ ⟨I,(fun q h L=>by rcases sn q i with N|N;exact aa q h N;(obtain rfl:q=i:=by omega);exact av),P⟩;refine G.rt o ?_;obtain rfl:i=l.length:=by omega
 exact⟨bn Value.bool ((Cn).2 ⟨g7,by omega,by simpa using ap,by simpa using A,fun i h=>aa i h h⟩).symm,k⟩
def tp{mx_:Int}{l:List UInt8}{w0:World}(aV:gL mx_ H)(F:bk (fun b=>b=0) H.size)(L:l.length<=4294967280):
 a8 prog w0 135 #[aJ l] H (fun r B=>r=aJ (bI l)/\an H B):=by
 refine G.bN func135 o fun k=>G.aC o r7 (sG l aV (F.mono I) L) ?_;rintro v4 O ⟨rfl,C⟩;obtain⟨k,_⟩:=cv C k;refine G.O o e7<|G.ci o ?_ ?_<;>intro n;exact G.rt o ⟨by rw[bI,au (by simpa using n)]<;>rfl,k⟩;refine G.aC o MZ (Ql l I) ?_;rintro Q P ⟨A,rfl,K,N,E⟩;obtain⟨k,_⟩:=cv E k;exact G.O o (M.cast (v2:= .int .i64 ((A-1:Nat):Int)) (M.qF o o o)<|di I)<|G.O o (M.Ds (0) (A-1) o e6 o (.inl ⟨o,o⟩) (.inr ⟨_,_,_,o,o,by first|rfl|omega⟩) I I)<|G.rt o ⟨by rw[bI,aD (by simpa using n),PH K N];simp,k⟩
open Go.ChangeShapes Go.WideShapes Go.ChangeAt Go.Deep
def Mf(l r:List (DataW aP)):Rows.uptoBulkAll (l++r)=Rows.uptoBulkAll l+Rows.uptoBulkAll r:=by
 induction l with
 |nil=>simp[Rows.uptoBulkAll]
 |cons x l ih=>simp only[me,Rows.uptoBulkAll,ih];omega
def HD{p:Nat->aP->Prop}(h:∀i,i<n->∃x,p i x):∃l:List aP,l.length=n/\∀i x,l[i]?=some x->p i x:=by
 induction n with
 |zero=>exact⟨[],o,fun i x h=>by simp at h⟩
 |succ n ih=>
  obtain⟨l,r,A⟩:=ih (fun i k=>h i I);obtain⟨x,B⟩:=h n I;refine⟨l++[x],by simp[r],fun i y hy=>?_⟩;by_cases k:i<l.length;rw[List.getElem?_append_left k]at hy;exact A i y hy;rw[List.getElem?_append_right I]at hy;have:i-l.length=0:=by have:=(List.getElem?_eq_some_iff.1 hy).1;simp at this;omega
  rw[this]at hy;simp only[List.getElem?_cons_zero,ld]at hy;subst hy;have:i=n:=by omega
  subst this;exact B
def Ua{H:Type}(B:aP->Nat)(D:Nat->DataW H)(l:List aP)(h:∀i x,l[i]?=some x->B x<=Rows.uptoBulk (D i)):∀k,k<=l.length->((l.take k).map B).sum<=Rows.uptoBulkAll ((List.range k).map D):=by
 intro k;induction k with
 |zero=>intro _;simp
 |succ k ih=>
  intro n;rw[List.range_succ,hc,Mf,fc (show k<l.length from n),hc,vK];have r:=ih I;have A:=h k l[k] (by simp[show k<l.length from n]);simp only[dQ,mJ,iB,List.sum_nil,Rows.uptoBulkAll];omega
def wC{enc:TypeId×Value->aP}{G:World}{base:Nat}{sp:Nat->Bool}{held:Bool}{α:Type}(f:α->List Value)(B:α->Nat)(Φ:α->Prop){t e:TypeId}{v:Value}{d:DataW aP}{p:List MemPlace}(aq:v.cells= #[v])(ak:P.underlying t=some (.slice e))(aj:P.cellsOf e=k)(ay:∀x,(f x).length=k)(aA:0<k)(elem:∀n r y cq,DataW.trod enc P G base sp held n e r=some (y,cq)->r.length=k->∃x,r=f x/\Φ x/\B x<=Rows.uptoBulk y)(h:DataW.Trod enc P G base sp held t v d p):
 ∃l:List α,b_ G.heap f k v l/\(∀x∈l,Φ x)/\(l.map B).sum+1<=Rows.uptoBulk d:=by
 obtain⟨fuel,h⟩:=h;rw[aq]at h;rcases open_slice ak h with⟨C,H⟩|⟨a,len,cap,m,n,D,av,C,H,aw,S,T,L,U⟩;simp only[Array.toList,j6,and_true]at C;simp only[ig]at H;obtain⟨rfl,rfl⟩:=H;subst C;exact⟨[],Rd.nil _ _ _ _,by simp,by simp[Rows.uptoBulk]⟩;simp only[j6,and_true]at C;simp only[ig]at L;obtain⟨rfl,rfl⟩:=L;subst C;have hm:len<=m:=by rw[T];split<;>omega
 have:∀i,i<len->∃x:α,∃r,G.cells? base (a.add (i*k)) k=some r/\r=f x/\Φ x/\B x<=Rows.uptoBulk (D i):=by
  intro i N;obtain⟨r,K,al⟩:=U i I;rw[aj]at K;obtain⟨_,E,_⟩:=World.cells?_some K;obtain⟨x,A⟩:=elem n r _ _ al E;exact⟨x,r,K,A⟩
 obtain⟨l,E,F⟩:=HD this;refine⟨l,⟨some a,cap,by rw[E],by omega,S,fun ai=>?_⟩,fun x A=>?_,?_⟩;have hlen:0<l.length:=yj.2 ai;obtain⟨R,ae,ax,_⟩:=F 0 l[0] (by simp[hlen]);obtain⟨_,az,Z⟩:=World.cells?_some ae;have M:=Z 0 I;have bP:G.cell? a=some (R[0]' I):=by
  simp only[vz]at M;rw[<-List.getElem?_eq_getElem,<-M];simp[Addr.add]
 have Q:a.spot=none:=World.cell?_spot bP;refine⟨a,o,Q,trivial,World.block_lt_of_cell? G a bP,fun i x A=>⟨o,fun j c O=>?_⟩⟩;obtain⟨r,aa,rfl,_,_⟩:=F i x A;obtain⟨_,ah,X⟩:=World.cells?_some aa;have ag:=(List.getElem?_eq_some_iff.1 O).1;have:=X j (by rw[<-ah];exact ag);rw[O]at this;rw[add_eq Q,add_eq rfl]at this;show cell G.heap _=_;rw[<-(At.cell (w0:=G) ⟨o,o,o,o,dF _⟩ _)];exact this;obtain⟨i,N⟩:=List.mem_iff_getElem?.1 A;obtain⟨_,_,_,V,_⟩:=F i x N;exact V;have:=Ua B D l (fun i x A=>by obtain⟨_,_,_,_,W⟩:=F i x A;exact W) l.length (dF _);rw[eQ,E]at this;simp only[Rows.uptoBulk];omega
def zz{α:Type}(B:α->Nat)(k:∀x,1<=B x):∀(l:List α),l.length<=(l.map B).sum
 |[]=>by simp
 |y::l=>by simp only[dQ,iB,fA];have:=k y;have:=zz B k l;omega
def Sp{enc:TypeId×Value->aP}{G:World}{base:Nat}{sp:Nat->Bool}{held:Bool}{k:IntKind}{t e:TypeId}{v:Value}{d:DataW aP}{p:List MemPlace}(F:v.cells= #[v])(E:P.underlying t=some (.slice e))(he:P.underlying e=some (.int k))(aj:P.cellsOf e=1)(h:DataW.Trod enc P G base sp held t v d p):
 ∃l:List Int,b_ G.heap (fun x=>[Value.int k x]) 1 v l/\(∀x∈l,(Lit.int k x).wf=true)/\l.length+1<=Rows.uptoBulk d:=by
 obtain⟨l,B,A,K⟩:=wC (fun x=>[Value.int k x]) (fun _=>1) (fun x=>(Lit.int k x).wf=true) F E aj (fun _=>rfl) I (fun n H y cq hy L=>by
  obtain⟨x,rfl,r,C⟩:=DataW.trod_int he hy;simp only[ig]at r;refine⟨x,o,C,?_⟩;rw[r.1];simp[Rows.uptoBulk]) h
 exact⟨l,B,A,by have:=zz (fun _:Int=>1) (fun _=>by omega) l;omega⟩
def KG{x:Int}(h:(Lit.int .u8 x).wf=true):∃b:UInt8,x=b.toNat:=by
 simp only[Lit.wf,ob,lf,show IntKind.u8.min=0 by decide,show IntKind.u8.max=255 by decide]at h;refine⟨UInt8.ofNat x.toNat,?_⟩;rw[tH];omega
def x3{x:Int}(h:(Lit.int .i64 x).wf=true): -9223372036854775808<=x/\x<=9223372036854775807:=by
 simpa only[Lit.wf,ob,lf,show IntKind.i64.min= -9223372036854775808 by decide,show IntKind.i64.max=9223372036854775807 by decide]using h
def Sn{enc:TypeId×Value->aP}{G:World}{base:Nat}{sp:Nat->Bool}{held:Bool}{t e:TypeId}{v:Value}{d:DataW aP}{p:List MemPlace}(C:v.cells= #[v])(B:P.underlying t=some (.slice e))(he:P.underlying e=some (.int .u8))(aj:P.cellsOf e=1)(h:DataW.Trod enc P G base sp held t v d p):
 ∃l:List UInt8,b_ G.heap a7 1 v l/\l.length+1<=Rows.uptoBulk d:=by
 obtain⟨l,r,_,F⟩:=wC a7 (fun _=>1) (fun _=>True) C B aj eM I (fun n E y cq hy H=>by
  obtain⟨x,rfl,k,A⟩:=DataW.trod_int he hy;obtain⟨b,rfl⟩:=KG A;simp only[ig]at k;refine⟨b,o,trivial,?_⟩;rw[k.1];simp[Rows.uptoBulk]) h
 exact⟨l,r,by have:=zz (fun _:UInt8=>1) (fun _=>by omega) l;omega⟩
abbrev q_(b:Bool):List Value:=[.bool b]
def Sm{enc:TypeId×Value->aP}{G:World}{base:Nat}{sp:Nat->Bool}{held:Bool}{t e:TypeId}{v:Value}{d:DataW aP}{p:List MemPlace}(B:v.cells= #[v])(A:P.underlying t=some (.slice e))(he:P.underlying e=some .bool)(aj:P.cellsOf e=1)(h:DataW.Trod enc P G base sp held t v d p):
 ∃l:List Bool,b_ G.heap q_ 1 v l/\l.length+1<=Rows.uptoBulk d:=by
 obtain⟨l,r,_,E⟩:=wC q_ (fun _=>1) (fun _=>True) B A aj (fun _=>rfl) I (fun n C y cq hy F=>by
  obtain⟨x,rfl,k⟩:=DataW.trod_bool he hy;simp only[ig]at k;refine⟨x,o,trivial,?_⟩;rw[k.1];simp[Rows.uptoBulk]) h
 exact⟨l,r,by have:=zz (fun _:Bool=>1) (fun _=>by omega) l;omega⟩
abbrev iu(x:ay×aP):List Value:=[x.1.v]
def k_(x:ay×aP):(iu x).length=1:=rfl
def la(x:ay×aP):∀u∈iu x,u.oneCell'=true:=by intro u hu;simp only[fm]at hu;subst hu;rfl
open Go.Lib
def K_{p:Prop}(h:p:=by
 have A:(f z0).length=z.cells.size:=by rw[<-h,oT]
 have bN:∀m,(Builtin.zeroCells z.cells m).toList=(List.range (m*z.cells.size)).map (fun i=>z.cells[i%z.cells.size]!):=fun m=>by
  unfold Builtin.zeroCells;rw[Array.toList_map,Array.toList_range]
 have bc:(List.range z.cells.size).map (fun i=>z.cells[i%z.cells.size]!)=f z0:=by
  rw[<-h];apply vL;simp;intro j n r;have k:j<z.cells.size:=by simpa using n
  simp[sw k,getElem!_pos z.cells j k]
 intro m;rw[bN];induction m with
 |zero=>simp
 |succ m ih=>
  rw[Nat.succ_mul,vy,List.range_add,hc,oU,bc,List.replicate_succ,mH,<-ih];congr 1;apply oW;intro j _;simp):p:=h
def Vf{α:Type}{f:α->List Value}{z:Value}{z0:α}(h:z.cells.toList=f z0):∀m,(Builtin.zeroCells z.cells m).toList=(List.replicate m z0).flatMap f:=by
 exact K_
def Z.LO{w0:World}{l:az}{J:Oper}{f:aP->List Value}{v:Value}{e:TypeId}{xs:List aP}{s x:Operand}{t mT:TypeId}{ai fM:IntKind}{bytes m:Nat}{ak:Value}(h:Own F e H f k v xs)(z0:aP)(T:J.op= .call {callee:= .builtin .append,args:= #[s,x],argTypes:= #[t,mT]})(aF:hQ P t e k bytes)(O:P.underlying mT=some (.int ai))(aN:∀w,(zeroValue e).run P w= .ok ak w)(aL:ak.cells.toList=f z0)(av:0<k)(Y:aI l s=some v)(V:aI l x=some (.int fM (m:Nat)))(hb:(xs.length+m)*bytes<=140737488355328)(hm:xs.length+m<=9223372036854775807):
 Z P w0 n l H J (fun r aa=>Own (fun b=>F b\/H.size<=b) e aa f k r (xs++List.replicate m z0)/\W F H aa):=by
 obtain⟨N,i,z,E,X,aK,ay,aM⟩:=aF;subst aK;subst ay;intro a w C A;have aO:z=ak:=by
  have Q:=aN w;simp[zeroValue,typeInfo,E,X]at Q;exact Q
 subst aO;have aq:((List.replicate m z0).flatMap f).length=m*i.size:=by rw[length_flatMap h.cells,qv]
 have Q:∀c∈(List.replicate m z0).flatMap f,c.oneCell'=true:=by
  intro c aj;obtain⟨y,hy,aj⟩:=vA.1 aj;exact h.one y c aj
 have aw:Builtin.zeroCells z.cells m=((List.replicate m z0).flatMap f).toArray:=by apply Array.ext';rw[Vf aL]
 have hw:IntKind.i64.wrap (m:Int)=m:=by rw[IntKind.wrap_i64];omega
 have aH:¬((m:Int)<0):=by omega
 have ax:¬(281474976710656<(m:Int)*(i.bytes:Int)):=by
  have:m*i.bytes<=(xs.length+m)*i.bytes:=mc _ I;rw[<-Int.natCast_mul];omega
 have grown:∀(K:Nat) (r:Value),K<xs.length+m->r= .slice (some ⟨w.heap.size,0,none⟩) (xs.length+m) (grownCap w (xs.length+m) K e)->∀L,L=Obj.cells ((xs.flatMap f).toArray++Builtin.zeroCells z.cells m++Builtin.zeroCells z.cells (grownCap w (xs.length+m) K e-(xs.length+m))) e->
  At w0 (w.drew.alloc L).heap (w.drew.alloc L)/\Own (fun b=>F b\/H.size<=b) e (w.drew.alloc L).heap f i.size r (xs++List.replicate m z0)/\W F H (w.drew.alloc L).heap:=by
  rintro K r aV rfl L rfl;have aC:=grownCap_ge w (xs.length+m) K e;have aA:grownCap w (xs.length+m) K e<=maxLen:=grownCap_le_maxLen w (xs.length+m) K e (by unfold maxLen;omega);have ae:At w0 H w.drew:=A.drew;refine⟨⟨o,A.os,A.tape,A.output,ae.hK⟩,?_,?_⟩;have:=Own.new (e:=e) (G':=fun b=>F b\/H.size<=b) (w:=w.drew) (z:=z) (cap:=grownCap w (xs.length+m) K e) (zs:=xs++List.replicate m z0) h.cells h.one aM (.inr (by rw[ae.heap];exact dF _)) (by simpa using aC) aA;rw[aw];simpa using this;rw[(ae.alloc _).heap];exact W.push _ _ _
 rcases h.ex with⟨rfl,rfl⟩|⟨g,B,cur,rfl,R,bP,aQ,aR,aT,aU⟩;by_cases S:m=0;subst S;refine⟨.slice none 0 0,H,w,?_,A,by simpa using h.imp (fun b _ R=> .inl R),W.refl _ _⟩;simp[execOp,T,resolve,invoke,builtin,C.eval Y,C.eval V,Builtin.append_,run_underlying N,run_underlying O,sizeOf,typeInfo,E,asInt,asIntOf,IntKind.wrap_i64];simp only[ie,kv]at hb hm;have M:=run_append_nil_zeros (P:=P) w t mT J.type e i z fM ai N O E X m I av I I;have:=grown 0 _ bU o _ o;simp only[ie,kv,ya,gw,Array.empty_append]at this;exact⟨_,_,_,by simp[execOp,T,resolve,invoke,builtin,C.eval Y,C.eval V,M],this.1,this.2.1,this.2.2⟩;obtain⟨fz,aE,ah⟩:=id bP;have al:w.heap[g]?=some (.cells cur e fz):=by rw[A.heap];exact aE
 by_cases ag:xs.length+m<=B;have aB:xs.length*i.size+((List.replicate m z0).flatMap f).length<=cur.size:=by rw[aq,aT,<-iw];exact mc _ ag
 have U:=sM P g (xs.length*i.size) e fz ((List.replicate m z0).flatMap f) 0 cur w al ah (by simpa using aB) Q;simp only[n6]at U;have M:(Builtin.append_ #[t,mT] J.type #[.slice (some ⟨g,0,none⟩) xs.length B,.int fM m]).run P w= .ok (.slice (some ⟨g,0,none⟩) (xs.length+m) B) (w.setRow g (cur.toList.take (xs.length*i.size)++(List.replicate m z0).flatMap f++cur.toList.drop (xs.length*i.size+((List.replicate m z0).flatMap f).length)).toArray):=by
  by_cases S:m=0;subst S;simp only[List.replicate_zero,ya]at U;simp[Builtin.append_,run_underlying N,run_underlying O,sizeOf,typeInfo,E,asInt,asIntOf,IntKind.wrap_i64,aQ,Addr.add_lit,U];have aJ:¬(m*i.size=0):=Nat.mul_ne_zero S I;simp[Builtin.append_,run_underlying N,run_underlying O,sizeOf,typeInfo,zeroValue,E,X,asInt,asIntOf,hw,aH,ax,aJ,ag,aw,Addr.add_lit,U]
 refine⟨.slice (some ⟨g,0,none⟩) (xs.length+m) B,(w.setRow g (cur.toList.take (xs.length*i.size)++(List.replicate m z0).flatMap f++cur.toList.drop (xs.length*i.size+((List.replicate m z0).flatMap f).length)).toArray).heap,w.setRow g (cur.toList.take (xs.length*i.size)++(List.replicate m z0).flatMap f++cur.toList.drop (xs.length*i.size+((List.replicate m z0).flatMap f).length)).toArray,by simp[execOp,T,resolve,invoke,builtin,C.eval Y,C.eval V,M],⟨o,A.os,A.tape,A.output,A.hK⟩,⟨h.cells,h.one,.inr ⟨g,B,_,by rw[b2,qv],.inl R,⟨fz,setRow_heap w g cur _ e _ al,ah.1,fun i E=>ah.2 i (by simp only[pK,b2,eC,h6,oT]at E;omega)⟩,by rw[b2,qv];exact ag,aR,?_,?_⟩⟩,?_⟩;simp only[pK,b2,eC,h6,oT];omega;have aG:=length_flatMap h.cells xs;rw[aU,<-j5,b2,iw,qv,<-aq,<-aG,<-b2,<-j5];exact sr;exact(wJ A).weaken (fun b _ e=>by rw[e];exact R);have holds:∀j c,(xs.flatMap f)[j]?=some c->w.drew.cell? ((⟨g,0,none⟩:Addr).add j)=some c:=h.rd.qN h.cells o A.drew;have hold:(Builtin.firstCells i.size xs.length (.slice (some ⟨g,0,none⟩) xs.length B)).run P w.drew= .ok (xs.flatMap f).toArray w.drew:=run_firstCells_some (P:=P) w.drew i.size xs.length ⟨g,0,none⟩ xs.length B _ (length_flatMap h.cells xs) holds;have M:=Lib.run_append_grow_zeros (P:=P) w t mT J.type e i z fM ai N O E X (some ⟨g,0,none⟩) xs.length B (xs.flatMap f) hold m I av I I (by
  have:m*i.bytes<=(xs.length+m)*i.bytes:=mc _ I;omega) (growslice_fits I hb)
 have:=grown B _ I o _ o;exact⟨_,_,_,by simp[execOp,T,resolve,invoke,builtin,C.eval Y,C.eval V,M],this.1,this.2.1,this.2.2⟩
def Z.z6{w0:World}{l:az}{J:Oper}{f:aP->List Value}{sz:Nat}{v:Value}{e:TypeId}{xs:List aP}{s x:Operand}{t mT:TypeId}{T fM:IntKind}{bytes m:Nat}{B:Value}(h:aS k e H f sz v xs)(z0:aP)(M:J.op= .call {callee:= .builtin .append,args:= #[s,x],argTypes:= #[t,mT]})(L:hQ P t e sz bytes)(O:P.underlying mT=some (.int T))(S:∀w,(zeroValue e).run P w= .ok B w)(R:B.cells.toList=f z0)(N:0<sz)(Y:aI l s=some v)(Q:aI l x=some (.int fM (m:Nat)))(hb:(xs.length+m)*bytes<=140737488355328)(hm:xs.length+m<=9223372036854775807):
 Z P w0 n l H J (fun r aa=>∃A,aS A e aa f sz r (xs++List.replicate m z0)/\(A=0\/A=k\/H.size<A)/\W (fun b=>b+1=k) H aa):=
 (Z.LO h.own z0 M L O S R N Y Q hb hm).mono fun r aa ⟨C,E⟩=>by
  obtain⟨A,F,K⟩:=aS.of C;refine⟨A,F,?_,E⟩;rcases K with rfl|⟨g,rfl,U⟩;exact .inl o;omega
def La{p:Prop}(h:p:=by
 intro ac w B S;have bc:∀w,(Instr.sliceBounds true len cap (A.map ac.eval) (r.map ac.eval) none).run P w= .ok (i,j,cap) w:=by
  intro w
  rcases E with⟨rfl,rfl⟩|⟨p,k,fa,rfl,Q,rfl⟩<;>rcases C with⟨rfl,rfl⟩|⟨V,U,T,rfl,R,rfl⟩<;>
   simp[Instr.sliceBounds,Instr.sliceBound,asIntOf,B.eval, *]
 have hu:∀w,(underlying t).run P w= .ok (.slice e) w:=K;simp[execOp,F,B.eval L,Instr.sliceAt,Instr.slice,hu,Y,bc]):p:=h
def M.TF{P:Program}{w0:World}{n:Nat}{l:az}{H:Heap}{J:Oper}{x:Operand}{A r:Option Operand}{t e:TypeId}{a:Option Addr}{len cap sz:Nat}(i j:Nat)(F:J.op= .slice t x A r none)(K:∀w,(underlying t).run P w= .ok (.slice e) w)(Y:∀w,(sizeOf e).run P w= .ok sz w)(L:aI l x=some (.slice a len cap))(E:A=none/\i=0\/∃p k fa,A=some p/\aI l p=some (.int k fa)/\fa=(i:Int))(C:r=none/\j=len\/∃p k fa,r=some p/\aI l p=some (.int k fa)/\fa=(j:Int))(N:i<=j)(O:j<=cap):
 M P w0 n l H J (.slice (if cap=i then a else a.map (·.add (i*sz))) (j-i) (cap-i)):=by
 exact La
def M.Fu{w0:World}{l:az}{J:Oper}{x:Operand}{t e:TypeId}{a:Option Addr}{cap:Nat}(A:J.op= .call {callee:= .builtin .cap,args:= #[x],argTypes:= #[t]})(B:∀w,(underlying t).run P w= .ok (.slice e) w)(C:aI l x=some (.slice a k cap)):M P w0 n l H J (.int .i64 cap):=by
 intro ac w r E;simp[execOp,A,r.eval C,resolve,invoke,builtin,Builtin.cap_,B,goInt]
end Go.Proofs.YtncnignagcoahaaGreatDoor.E
