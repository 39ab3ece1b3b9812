/- Arguments opened; conditions: each lemma's own. -/
import Derived.ChangeSame
import Derived.Deep.Fields
import Derived.Deep.Slices
import Derived.Lib.SmallJoins
import Derived.Test.YtfammloeljmplaaGreatDoorZ4
open Go.Value renaming int->TY,slice->T0,agg->T1,bool->T2
open Go.IntKind renaming i64->T6,u32->T7,u64->T8
open Go.Obj renaming cells->Ua
open Go renaming World->Ub,Value->Uc
namespace Go.Proofs.YtfammloeljmplaaGreatDoor
open Go.Proofs.Tryz
set_option maxRecDepth 100000
set_option maxHeartbeats 8000000
set_option linter.unusedVariables false
set_option linter.unusedSimpArgs false
section
open Go.RowKit Go.ChangeShapes Go.WideShapes Go.Deep
section
variable {H:Type} {enc:TypeId×Uc->H} {P:Program} {w:Ub}
theorem Bs{k:IntKind}{n:Int}(h:(Lit.int k n).wf=true)(b:k.signed=false):∃m:Nat,n=m/\m<2 ^ k.bits:=by
 simp only[Lit.wf,bG,aV,IntKind.min,IntKind.max,b]at h;obtain⟨a,c⟩:=h;refine⟨n.toNat,by simp at a;omega,?_⟩;simp at a c;have:((2 ^ k.bits:Nat):Int)=(2:Int) ^ k.bits:=by simp
 omega
theorem JJ{n:Int}(h:(Lit.int T7 n).wf=true):∃m:Nat,n=m/\m<4294967296:=Bs h rfl
theorem mH{n:Int}(h:(Lit.int T8 n).wf=true):∃m:Nat,n=m/\m<18446744073709551616:=Bs h rfl
theorem wb{α:Type}(p:Nat->α->Prop):∀n:Nat,(∀i,i<n->∃x,p i x)->∃l:List α,l.length=n/\∀i (h:i<l.length),p i l[i]
 |0,_=>⟨[],rfl,fun i h=>absurd h (by simp)⟩
 |n+1,h=>by
  obtain⟨l,a,c⟩:=wb p n (fun i b=>h i (by omega));obtain⟨x,d⟩:=h n (by omega);refine⟨l++[x],by simp[a],fun i b=>?_⟩;by_cases e:i<l.length
  ·rw[QS e];exact c i e
  have:i=n:=by simp at b;omega
  subst this;rw[List.getElem_append_right (by omega)];simpa[a]using d
end
end
section
open Go.RowKit
def wrongN(size at_ width:Int):Nat:=if width≠1/\width≠2/\width≠4/\width≠8 then 1 else if at_<0\/size - width<at_ then 2 else 0
def lW(l:List Nat):Nat:=l.foldl (fun n b=>256*n+b) 0
theorem GY(l:List Nat)(b:Nat):lW (l++[b])=256*lW l+b:=by unfold lW;rw[tC];rfl
theorem Bq:∀(l:List Nat) (a:Nat),(∀b∈l,b<256)->l.foldl (fun n b=>256*n+b) a<(a+1)*256 ^ l.length
 |[],a,_=>by simp
 |x::l,a,h=>by
  have e:=Bq l (256*a+x) (fun b c=>h b (by simp[c]));have d:=h x (by simp);have f:(256*a+x+1)*256 ^ l.length<=(a+1)*256*256 ^ l.length:=AE _ (by omega);rw[bC,aM,Nat.pow_succ,Jf (256 ^ l.length) 256,<-Nat.mul_assoc];omega
theorem sf(l:List Nat)(h:∀b∈l,b<256):lW l<256 ^ l.length:=by
 have:=Bq l 0 h;unfold lW;omega
def KJ(width:Int):Prop:=width=1\/width=2\/width=4\/width=8
def ud(l:List Int):List Uc:=l.map fun n:Int=>Value.int T6 n
theorem bh.Tu{w:Ub}{B n:Nat}{A:Option Addr}{l:List Int}(h:bh w B 1 A n (ud l)){k:Nat}(o:k<n):
  ∃b a,A=some ⟨b,a,none⟩/\b<B/\∀j,j<n->w.cell? ⟨b,a+j,none⟩=some (TY T6 (l.getD j 0)):=by
 obtain⟨m,rfl,i,g⟩:=h.2 (by omega);have p:n=l.length:=by have:=h.1;simp[ud]at this;omega
 have e:∀j,j<n->(ud l)[j]? =some (TY T6 (l.getD j 0)):=fun j f=>by
  simp[ud,show j<l.length by omega]
 obtain⟨b,a,spot⟩:=m;have c:=g 0 _ (e 0 (by omega));have d:spot=none:=by simpa[Addr.add]using fL c
 subst d;refine⟨b,a,rfl,i,fun j f=>?_⟩;rw[<-g j _ (e j f)];unfold Addr.add;by_cases c:j=0
 ·subst c;simp
 rw[af c]
def GW(l:List Int)(v:Int)(w:Ub)(e:Ending)(w':Ub):Prop:=∃r:Int,e=.returned (TY T6 r)/\ -1<=r/\(0<=r↔v∈l)/\w=w'
theorem Bo(l:List Int)(v:Int)(A:Option Addr)(n c:Nat)(w:Ub)(q:bh w w.heap.size 1 A n (ud l))(L:n<=1000000):
  Calls prog 260 #[T0 A n c,TY T6 v] w (GW l v w):=by
 have B:n=l.length:=by have:=q.1;simp[ud]at this;omega
 have z:=Lib.hid B;clear B;go_enter func260,ntmps260;go_wp2_with fail;go_loop [8] (fun i=>∃k:Nat,k<=n/\i=TY T6 k/\∀j,j<k->l.getD j 0≠v) (fun i=>n - (intOf i).toNat)
 case atStart=>exact⟨0,by omega,rfl,fun j u=>by omega⟩
 case round=>
  obtain⟨k,H,rfl,a⟩:=hrel;by_cases p:k<n
  ·obtain⟨b,E,rfl,G,y⟩:=q.Tu p;have r:=y k p;have f:k<l.length:=by have:=z.out;omega
   have d:l.getD k 0∈l:=by
    have:l.getD k 0=l[k]:=by simp[f]
    rw[this];exact bj f
   by_cases o:l.getD k 0=v
   ·rw[o]at d r;have J:(v==v)=true:=by simp
    clear a o y q f;go_wp2_with fail;go_ret;exact⟨k,rfl,by omega,⟨fun _=>d,fun _=>by omega⟩,rfl⟩
   have m:∀j,j<k+1->l.getD j 0≠v:=fun j u=>by
    by_cases e:j=k
    ·subst e;exact o
    exact a j (by omega)
   obtain⟨x,C⟩:∃x,x=l.getD k 0:=⟨_,rfl⟩;rw[<-C]at r o;have D:(v==x)=false:=by simp;exact fun e=>o e.symm
   have t:=Lib.hid m;clear a m C y d o f q;go_wp2_with fail;go_round;case rel=>exact⟨k+1,by omega,by go_num,t.out⟩
   case measure=>simp[intOf]<;>omega
  obtain rfl:k=n:=by omega
  have g:v∉l:=by
   intro hv;obtain⟨j,u,e⟩:=fj hv;have s:j<k:=by have:=z.out;omega
   exact a j s (by simp[u,e])
  have F:=Lib.hid g;clear a g q;go_wp2_with fail;go_ret;exact⟨-1,rfl,by omega,⟨fun h=>by omega,fun h=>absurd h F.out⟩,rfl⟩
theorem mG(l:List Int)(v:Int)(A:Option Addr)(n c:Nat)(w:Ub)(b:bh w w.heap.size 1 A n (ud l))(i:n<=1000000):
  TW 182 #[T0 A n c,TY T6 v] w (T2 (decide (v∈l))):=by
 by_cases hv:v∈l
 ·rw[bM hv];have f:=Lib.hid hv;clear hv;go_enter func182,ntmps182;go_wp2_with fail;refine(Bo l v A n c w b i).mono ?_;rintro e w' ⟨r,rfl,d,a,rfl⟩;have g:0<=r:=a.2 f.out;clear a d b;go_wp2_with fail;go_ret;exact⟨rfl,rfl⟩
 rw[aK hv];have f:=Lib.hid hv;clear hv;go_enter func182,ntmps182;go_wp2_with fail;refine(Bo l v A n c w b i).mono ?_;rintro e w' ⟨r,rfl,d,a,rfl⟩;have g:¬0<=r:=fun h=>f.out (a.1 h)
 obtain rfl:r= -1:=by omega
 clear a d b g;go_wp2_with fail;go_ret;exact⟨rfl,rfl⟩
theorem Es(width:Int):(width∈[(1:Int),2,4,8])↔KJ width:=by simp[KJ]
def GX(size at_ width:Int)(w:Ub)(e:Ending)(w':Ub):Prop:=e=.returned (TY T6 (wrongN size at_ width:Nat))/\Below w.heap.size w w'
theorem Bp(A:Option Addr)(n c:Nat)(at_ width:Int)(w:Ub)(p:(n:Int)<=9223372036854775807):
  Calls prog 112 #[T0 A n c,TY T6 at_,TY T6 width] w (GX n at_ width w):=by
 have d:bh (w.alloc (Ua #[TY T6 1,TY T6 2,TY T6 4,TY T6 8] 3)) (w.alloc (Ua #[TY T6 1,TY T6 2,TY T6 4,TY T6 8] 3)).heap.size 1 (some ⟨w.heap.size,0,none⟩) 4 (ud [1,2,4,8]):=(gZ w (ud [1,2,4,8]) 3 1 4 rfl).more (by simp);have l:Below w.heap.size w (w.alloc (Ua #[TY T6 1,TY T6 2,TY T6 4,TY T6 8] 3)):=(aw _ _).alloc (ae _) _;by_cases f:KJ width
 ·have g:decide (width∈[(1:Int),2,4,8])=true:=bM ((Es width).2 f);have a:∀c:Prop,[Decidable c]->(if width≠1/\width≠2/\width≠4/\width≠8 then 1 else if c then 2 else 0)=if c then 2 else 0:=fun c _=>af (by rcases f with h|h|h|h<;>omega)
  by_cases o:at_<0
  ·have hv:wrongN n at_ width=2:=by unfold wrongN;rw[a,aj (.inl o)]
   obtain⟨i,j⟩:=aA hv g;clear a hv g;have b:1<=width/\width<=8:=by rcases f with h|h|h|h<;>omega
   clear f;obtain⟨b,k⟩:=b;go_enter func112,ntmps112;go_wp2_with fail;refine(mG [1,2,4,8] _ _ _ _ _ d (by omega)).mono ?_;rintro e w' ⟨rfl,rfl⟩;rw[j.out];go_wp2_with fail;go_ret;exact⟨by rw[i.out];rfl,l⟩
  by_cases m:(n:Int) - width<at_
  ·have hv:wrongN n at_ width=2:=by unfold wrongN;rw[a,aj (.inr m)]
   obtain⟨i,j⟩:=aA hv g;clear a hv g;have b:1<=width/\width<=8:=by rcases f with h|h|h|h<;>omega
   clear f;obtain⟨b,k⟩:=b;go_enter func112,ntmps112;go_wp2_with fail;refine(mG [1,2,4,8] _ _ _ _ _ d (by omega)).mono ?_;rintro e w' ⟨rfl,rfl⟩;rw[j.out];go_wp2_with fail;go_ret;exact⟨by rw[i.out];rfl,l⟩
  have hv:wrongN n at_ width=0:=by unfold wrongN;rw[a,af (by omega)]
  obtain⟨i,j⟩:=aA hv g;clear a hv g;have b:1<=width/\width<=8:=by rcases f with h|h|h|h<;>omega
  clear f;obtain⟨b,k⟩:=b;go_enter func112,ntmps112;go_wp2_with fail;refine(mG [1,2,4,8] _ _ _ _ _ d (by omega)).mono ?_;rintro e w' ⟨rfl,rfl⟩;rw[j.out];go_wp2_with fail;go_ret;exact⟨by rw[i.out];rfl,l⟩
 have g:decide (width∈[(1:Int),2,4,8])=false:=aK (fun h=>f ((Es width).1 h));have hv:wrongN n at_ width=1:=by unfold wrongN;rw[aj (by unfold KJ at f;omega)]
 obtain⟨i,j⟩:=aA hv g;clear hv g f;go_enter func112,ntmps112;go_wp2_with fail;refine(mG [1,2,4,8] _ _ _ _ _ d (by omega)).mono ?_;rintro e w' ⟨rfl,rfl⟩;rw[j.out];go_wp2_with fail;go_ret;exact⟨by rw[i.out];rfl,l⟩
end
section
open Go.ChangeShapes Go.WideShapes Go.ChangeAt Go.RowKit Go.Deep
section
variable {H:Type} {enc:TypeId×Uc->H} {P:Program} {w:Ub}
theorem tv{α:Type}[Inhabited α]{t e:TypeId}{C:Nat}(W:P.underlying t=some (.slice e))(N:P.cellsOf e=C)(X:0<C)(E:α->List Uc->Prop)
  (Z:∀(n:Nat) (cs:List Uc) (x:DataW H×List MemPlace),cs.length=C->(∀y∈x.2,y.block<w.heap.size)->DataW.trod enc P w 0 (fun _=>true) true n e cs=some x->∃a:α,E a cs)
  {fuel:Nat}{cs:List Uc}{x:DataW H×List MemPlace}(h:DataW.trod enc P w 0 (fun _=>true) true fuel t cs=some x)(f:∀y∈x.2,y.block<w.heap.size):
  ∃(A:Option Addr) (cap:Nat) (l:List α),cs=[T0 A l.length cap]/\eX w w.heap.size C E A l/\l.length<=cap/\cap<=maxLen:=by
 rcases open_slice W h with⟨rfl,_⟩|⟨a,d,cap,m,n,D,Pl,rfl,_,hl,hm,g,L,hi⟩
 ·exact⟨none,0,[],rfl,fun h=>absurd h (by simp),ae _,by simp[maxLen]⟩
 simp only[lN]at g;subst g;rw[N]at L;obtain⟨xs,U,o⟩:=wb (fun i (y:α)=>∃vs:List Uc,vs.length=C/\E y vs/\∀j u,vs[j]? =some u->w.cell? (a.add (i*C+j))=some u) m (fun i p=>by
  obtain⟨s,T,G⟩:=hi i p;rw[N]at T;obtain⟨_,B,F⟩:=World.cells?_some T;obtain⟨y,hy⟩:=Z n s _ B (fun z Y=>f z (by rw[L];exact bT.2 (.inr (db.2 ⟨i,bE.2 p,Y⟩)))) G;refine⟨y,s,B,hy,fun j u S=>?_⟩;have:=F j (by have:=(cF.1 S).1;omega);rw[<-Go.Deep.add_add,this,S])
 have c:(xs.take d).length=d:=by rw[bJ];omega
 refine⟨some a,m,xs.take d,by rw[c],fun q=>?_,by rw[c];exact hl,hm⟩;rw[c]at q;obtain⟨b,r,spot⟩:=a;have M:spot=none:=by
  obtain⟨vs,R,_,J⟩:=o 0 (by omega);have:=J 0 _ (ah (by omega));simpa[Addr.add]using fL this
 subst M;refine⟨b,r,rfl,?_,fun k O=>?_⟩
 ·refine f (.cell b r) ?_;rw[L];refine bT.2 (.inl ?_);unfold MemPlace.row;exact bt.2 ⟨0,by rw[bE];exact Nat.mul_pos (by omega) X,by simp⟩
 rw[c]at O;obtain⟨vs,R,V,J⟩:=o k (by omega);have e:(xs.take d).getD k default=xs[k]'(by omega):=by
  rw[aa,eS,aj O,ah (by omega)];rfl
 refine⟨vs,R,by rw[e];exact V,fun j v hv=>?_⟩;have:=J j v hv;rw[iq,<-eF]at this;exact this
end
theorem zG{w:Ub}{B:Nat}{A:Option Addr}{l:List Cd}(h:eX w B 4 (fun(c:Cd) vs=>vs=c.vals/\c.Ok) A l):bh w B 4 A l.length (cR l)/\∀c∈l,c.Ok:=by
 refine⟨⟨ju l,fun o=>?_⟩,fun c q=>?_⟩
 ·obtain⟨b,a,rfl,i,d⟩:=h o;refine⟨_,rfl,i,fun j u f=>?_⟩;have p:=(cF.1 f).1;rw[ju]at p;have e:=jL Cd.vals 4 Cd.Sn default l (j / 4) (j % 4) (by omega) (by omega);rw[show j / 4*4+j % 4=j by omega]at e;obtain⟨vs,_,⟨rfl,_⟩,n⟩:=d (j / 4) (by omega);have:=n (j % 4) u (e.symm.trans f);rw[iq];rwa [show a+j / 4*4+j % 4=a+j by omega]at this
 obtain⟨k,d,rfl⟩:=fj q;obtain⟨b,a,_,_,g⟩:=h (by omega);obtain⟨vs,_,⟨_,m⟩,_⟩:=g k d;rwa [aa,ah d]at m
section
variable {H:Type} {enc:TypeId×Uc->H} {w:Ub}
theorem OK:prog.cellsOf 3=1/\prog.cellsOf 29=1/\prog.cellsOf 28=1/\prog.cellsOf 4=1/\prog.cellsOf 9=1/\prog.cellsOf 56=1/\prog.cellsOf 24=1/\prog.cellsOf 27=1/\prog.cellsOf 23=2/\prog.cellsOf 59=5/\prog.cellsOf 30=6/\prog.cellsOf 32=9:=by repeat' first|exact⟨by kernel_rfl,by kernel_rfl⟩|(refine⟨by kernel_rfl,?_⟩)
theorem I5(n:Nat)(cs:List Uc)(x:DataW H×List MemPlace)(i:cs.length=4)(h:DataW.trod enc prog w 0 (fun _=>true) true n 164 cs=some x):∃c:Cd,cs=c.vals/\c.Ok:=by
 obtain⟨j,m,_,_,_,b,a⟩:=iO underlying164 h;match cs,i with
 |[t,p,q,r],_=>
  match j,b with
  |[y0,y1,y2,y3],_=>
   obtain⟨n0,e0,_,w0⟩:=cS underlying3 (a 0 _ rfl);obtain⟨n1,e1,_,l⟩:=cS underlying3 (a 1 _ rfl);obtain⟨n2,e2,_,k⟩:=cS underlying29 (a 2 _ rfl);obtain⟨n3,f,_,g⟩:=cS underlying29 (a 3 _ rfl);obtain⟨d,rfl,s⟩:=mH k;obtain⟨e,rfl,o⟩:=mH g;simp[OK]at e0 e1 e2 f;subst e0;subst e1;subst e2;subst f;exact⟨⟨n0,n1,d,e⟩,rfl,⟨by unfold eC;show d<=_;omega,by unfold eC;show e<=_;omega⟩⟩
structure I6(r:Rl):Prop where
 name:r.name.size<=maxLen
 len:r.conds.length<=maxLen
 ok:∀c∈r.conds,c.Ok
theorem I7(n:Nat)(cs:List Uc)(x:DataW H×List MemPlace)(i:cs.length=4)(b:∀y∈x.2,y.block<w.heap.size)(h:DataW.trod enc prog w 0 (fun _=>true) true n 58 cs=some x):
  ∃r:Rl,se w w.heap.size r cs/\I6 r:=by
 obtain⟨B,m,_,v,_,e,d⟩:=iO underlying58 h;match cs,i with
 |[O,F,G,J],_=>
  match B,e with
  |[y0,y1,y2],_=>
   obtain⟨p,L,_,_,_,g,a⟩:=iO underlying23 (d 1 _ rfl);match p,g with
   |[M,E],_=>
    obtain⟨s,e0,_,u⟩:=DataW.trod_string underlying9 (d 0 _ rfl);obtain⟨n1,e1,_,D⟩:=cS underlying3 (a 0 _ rfl);obtain⟨n2,e2,_,N⟩:=cS underlying3 (a 1 _ rfl);obtain⟨A,cap,l,k,f,z,o⟩:=tv underlying56 (C:=4) (by kernel_rfl) (by omega) (fun(c:Cd) vs=>vs=c.vals/\c.Ok) (fun n cs x i _ h=>I5 n cs x i h) (d 2 _ rfl) (fun y q=>b y (by rw[v];simp[q]));obtain⟨t,j⟩:=zG f;simp[OK]at e0 e1 e2 k;subst e0;subst e1;subst e2;subst k;exact⟨⟨s,n1,n2,l⟩,⟨A,cap,rfl,t⟩,u,by show l.length<=_;omega,j⟩
structure P0(r:Rw):Prop where
 name:r.name.size<=maxLen
 five:r.nums.length=5
theorem Mi(n:Nat)(cs:List Uc)(x:DataW H×List MemPlace)(t:cs.length=8)(h:DataW.trod enc prog w 0 (fun _=>true) true n 61 cs=some x):∃r:Rw,Qw r cs/\P0 r:=by
 obtain⟨y,m,_,G,_,c,b⟩:=iO underlying61 h;match cs,t with
 |[N,d0,C,d2,d3,M,D,E],_=>
  match y,c with
  |[y0,y1,y2,y3],_=>
   obtain⟨l,J,_,_,_,d,a⟩:=DataW.trod_array underlying59 (b 1 _ rfl);match l,d with
   |[L,B,z,F,A],_=>
    obtain⟨s,e0,_,u⟩:=DataW.trod_string underlying9 (b 0 _ rfl);obtain⟨p,e,_,_⟩:=cS underlying3 (a 0 (by omega));obtain⟨k,f,_,_⟩:=cS underlying3 (a 1 (by omega));obtain⟨v,g,_,_⟩:=cS underlying3 (a 2 (by omega));obtain⟨o,j,_,_⟩:=cS underlying3 (a 3 (by omega));obtain⟨q,i,_,_⟩:=cS underlying3 (a 4 (by omega));obtain⟨n1,e1,_,_⟩:=cS underlying3 (b 2 _ rfl);obtain⟨n2,e2,_,_⟩:=cS underlying3 (b 3 _ rfl);simp[OK]at e0 e1 e2 e f g j i;subst e0;subst e1;subst e2;subst e;subst f;subst g;subst j;subst i;exact⟨⟨s,[p,k,v,o,q],n1,n2⟩,rfl,u,rfl⟩
theorem eX.all{α:Type}[Inhabited α]{w:Ub}{B size:Nat}{E:α->List Uc->Prop}{K:α->Prop}{A:Option Addr}{l:List α}(h:eX w B size (fun x vs=>E x vs/\K x) A l):eX w B size E A l/\∀x∈l,K x:=
 ⟨h.imp fun _ _ h=>h.1,fun x f=>by
   obtain⟨k,a,rfl⟩:=fj f;obtain⟨b,e,_,_,c⟩:=h (by omega);obtain⟨vs,_,⟨_,d⟩,_⟩:=c k a;rwa [aa,ah a]at d⟩
theorem wJ{J:Go.Reach}{G:Nat}{v:Uc}{d:DataW H}{p:List MemPlace}(hv:Value.okWide prog w J G 26 v)(h:DataW.Trod enc prog w 0 (fun _=>true) true 26 v d p)(e:∀y∈p,y.block<w.heap.size):
  ∃(q:Po) (A:Option Addr) (c:Nat),v=nu q A c/\eI w w.heap.size A q.rules/\(∀r∈q.rules,I6 r)/\q.rules.length<=c/\c<=maxLen:=by
 obtain⟨cs,rfl,s⟩:=okWide_struct underlying26 hv;obtain⟨fuel,t⟩:=h;have a:(Value.agg cs).cells.toList=cs.toList:=by simp[Value.cells]
 rw[a]at t;have B:cs.toList.length=4:=by rw[dW,s];kernel_rfl
 obtain⟨l,rfl⟩:∃l:List Uc,cs=l.toArray:=⟨cs.toList,by simp⟩;simp only at t B;obtain⟨O,m,_,D,_,j,i⟩:=iO underlying26 t;match l,B with
 |[X,S,T,U],_=>
  match O,j with
  |[y0,y1,y2],_=>
   obtain⟨F,V,_,_,_,o,f⟩:=iO underlying23 (i 0 _ rfl);match F,o with
   |[W,R],_=>
    obtain⟨n0,e0,_,_⟩:=cS underlying3 (f 0 _ rfl);obtain⟨n1,e1,_,_⟩:=cS underlying3 (f 1 _ rfl);obtain⟨b,e2,_⟩:=DataW.trod_bool underlying4 (i 1 _ rfl);simp only[Dv]at D;obtain⟨A,cap,l,E,k,u,g⟩:=tv underlying24 (C:=4) (by kernel_rfl) (by omega) (fun(r:Rl) vs=>se w w.heap.size r vs/\I6 r) (fun n cs x L e h=>I7 n cs x L e h) (i 2 _ rfl) (fun y M=>e y (by rw[D.2];simp[M]));obtain⟨N,z⟩:=k.all;simp[OK]at e0 e1 e2 E;subst e0;subst e1;subst e2;subst E;exact⟨⟨n0,n1,b,l⟩,A,cap,rfl,N,z,u,g⟩
def Dm(A:Option Addr)(n c:Nat)(r:Rc):Uc:=T1 (#[T0 A n c,TY T7 r.number,TY T7 r.arch,TY T8 r.ptr]++(r.args.map fun n:Nat=>Value.int T8 (n:Int)).toArray)
theorem I8{Z:Go.Reach}{g:Nat}{v:Uc}{d:DataW H}{p:List MemPlace}(hv:Value.okWide prog w Z g 34 v)(h:DataW.Trod enc prog w 0 (fun _=>true) true 34 v d p)(o:∀y∈p,y.block<w.heap.size):
  ∃(l:List Rw) (r:Rc) (A:Option Addr) (c:Nat),v=Dm A l.length c r/\jv w w.heap.size A l/\(∀x∈l,P0 x)/\r.Ok/\l.length<=c/\c<=maxLen:=by
 obtain⟨cs,rfl,j⟩:=okWide_struct underlying34 hv;obtain⟨fuel,q⟩:=h;have b:(Value.agg cs).cells.toList=cs.toList:=by simp[Value.cells]
 rw[b]at q;have f:cs.toList.length=10:=by rw[dW,j];kernel_rfl
 obtain⟨l,rfl⟩:∃l:List Uc,cs=l.toArray:=⟨cs.toList,by simp⟩;simp only at q f;obtain⟨ys,m,_,E,_,z,J⟩:=iO underlying34 q;match l,f with
 |[c0,c1,c2,c3,d0,d1,d2,d3,d4,d5],_=>
  match ys,z with
  |[y0,y1],_=>
   simp only[Dv]at E;obtain⟨A,cap,l,e0,u,s,t⟩:=tv underlying27 (C:=8) (by kernel_rfl) (by omega) (fun(r:Rw) vs=>Qw r vs/\P0 r) (fun n cs x hl _ h=>Mi n cs x hl h) (J 0 _ rfl) (fun y hy=>o y (by rw[E.2];simp[hy]));obtain⟨hr,k⟩:=u.all;obtain⟨us,m1,_,_,_,B,e⟩:=iO underlying32 (J 1 _ rfl);match us,B with
   |[u0,u1,u2,u3],_=>
    obtain⟨zs,m',_,_,_,i,a⟩:=DataW.trod_array underlying30 (e 3 _ rfl);match zs,i with
    |[z0,z1,z2,z3,z4,z5],_=>
     obtain⟨n0,V,_,w0⟩:=cS underlying28 (e 0 _ rfl);obtain⟨n1,N,_,w1⟩:=cS underlying28 (e 1 _ rfl);obtain⟨n2,F,_,w2⟩:=cS underlying29 (e 2 _ rfl);obtain⟨W,U,_,v0⟩:=cS underlying29 (a 0 (by omega));obtain⟨T,X,_,v1⟩:=cS underlying29 (a 1 (by omega));obtain⟨G,M,_,v2⟩:=cS underlying29 (a 2 (by omega));obtain⟨O,D,_,v3⟩:=cS underlying29 (a 3 (by omega));obtain⟨S,f,_,v4⟩:=cS underlying29 (a 4 (by omega));obtain⟨R,L,_,v5⟩:=cS underlying29 (a 5 (by omega));obtain⟨n0,rfl,g⟩:=JJ w0;obtain⟨n1,rfl,b1⟩:=JJ w1;obtain⟨n2,rfl,b2⟩:=mH w2;obtain⟨W,rfl,a0⟩:=mH v0;obtain⟨T,rfl,a1⟩:=mH v1;obtain⟨G,rfl,a2⟩:=mH v2;obtain⟨O,rfl,a3⟩:=mH v3;obtain⟨S,rfl,a4⟩:=mH v4;obtain⟨R,rfl,a5⟩:=mH v5;simp[OK]at e0 V N F U X M D f L;subst e0;subst V;subst N;subst F;subst U;subst X;subst M;subst D;subst f;subst L;refine⟨l,⟨n0,n1,n2,[W,T,G,O,S,R]⟩,A,cap,rfl,hr,k,⟨g,b1,by unfold eC;show n2<=_;omega,rfl,fun n Y=>?_⟩,s,t⟩;simp only[aP,bQ,eW]at Y;unfold eC;rcases Y with rfl|rfl|rfl|rfl|rfl|rfl<;>omega
end
end
end Go.Proofs.YtfammloeljmplaaGreatDoor
