/- The checker in plain Lean; kinds of drawn regions; conditions: each lemma's own. -/
import Derived.BigQuiet
import Derived.ChangeKeysEq
import Derived.ChangeOld
import Derived.Deep.DeepFit
import Derived.Deep.LoopGhost
import Derived.Deep.MidRow
import Derived.Deep.QuietTactic
import Derived.Deep.RegionHeld3
import Derived.IntWalk
import Derived.Laws.BitsAllLaws
import Derived.Laws.BytesArg
import Derived.OpenShut
import Derived.Outline
import Derived.ProofKit
import Derived.ShutString
import Derived.StillTailTactics
import Derived.Test.YtfammloeljmplaaGreatDoorZ2
import Derived.Test.YtfammloeljmplaaGreatDoorZC
import Derived.WalkLawsBesides
import Derived.WalkSpells
open Go.Value renaming int->TY,pointer->TZ,slice->T0,agg->T1,bool->T2,tuple->T4
open Go.IntKind renaming i64->T6,u32->T7,u16->T9
open Go.Obj renaming cells->Ua
open Go renaming World->Ub,Value->Uc
namespace Go.Proofs.YtfammloeljmplaaGreatDoor
open Go.Proofs.Tryz
set_option maxRecDepth 100000
set_option maxHeartbeats 8000000
set_option linter.unusedVariables false
set_option linter.unusedSimpArgs false
section
open Go.RowKit
theorem eL:(prog).follows .mixedOrders=true:=by kernel_rfl
def kU:List (Int×Uc):=[(32,TY T6 1),(0,TY T6 2),(96,TY T6 3),(128,TY T6 4),(1,TY T6 5),(97,TY T6 6),(129,TY T6 7),(2,TY T6 8),(3,TY T6 9),(7,TY T6 10),(135,TY T6 11),(132,TY T6 12),(5,TY T6 13),(6,TY T6 14),(22,TY T6 15)]
def sa:List (Int×Uc):=[(4,TY T6 16),(20,TY T6 17),(36,TY T6 18),(52,TY T6 19),(68,TY T6 20),(84,TY T6 21),(100,TY T6 22),(116,TY T6 23),(164,TY T6 24),(21,TY T6 25),(37,TY T6 26),(53,TY T6 27),(69,TY T6 28)]
def xM:List Nat:=[32,0,96,128,1,97,129,2,3,7,135,132,5,6,22]
def DP:List Nat:=[4,20,36,52,68,84,100,116,164,21,37,53,69]
def place:List Nat->Nat->Nat
 |[],_=>0
 |x::l,c=>if x=c then 0 else place l c+1
def sc(c:Nat):Nat:=if place xM c<15 then place xM c+1 else 0
def qn(c:Nat):Nat:=if place DP c<13 then place DP c+16 else 0
def oy(c:Nat):Nat×Bool:=if sc c≠0 then(sc c,false)else if c / 8 % 2=1 then(qn (c - 8),qn (c - 8) != 0)else(qn c,false)
def Js(c:Nat):Option Uc:=if sc c=0 then none else some (TY T6 (sc c))
def Jt(c:Nat):Option Uc:=if qn c=0 then none else some (TY T6 (qn c))
def QW:Nat->List Nat->List (Int×Uc)
 | _, [] => []
 |s,x::l=>((x:Int),TY T6 s)::QW (s+1) l
theorem DQ(c:Nat):∀(l:List Nat) (s:Nat),IntMaps.look (QW s l) c=if place l c<l.length then some (TY T6 ((place l c+s:Nat):Int))else none:=by
 intro l;induction l with
 |nil=>intro s;rfl
 |cons x l ih=>
  intro s;have ih:=ih (s+1);unfold IntMaps.look at ih⊢;by_cases h:x=c
  ·subst h;simp[QW,place]
  have b:((x:Int)==(c:Int))=false:=by simp;omega
  simp only[QW,cG,b];rw[ih];simp only[place,af h,aM];by_cases a:place l c<l.length
  ·rw[aj a,aj (by omega)];rw[show place l c+1+s=place l c+(s+1)by omega]
  rw[af a,af (by omega)]
theorem Kj:kU=QW 1 xM:=rfl
theorem MO:sa=QW 16 DP:=rfl
theorem DR(c:Nat):IntMaps.look kU c=Js c:=by
 rw[Kj,DQ];unfold Js sc;show(if place xM c<15 then _ else _)=_
 by_cases h:place xM c<15
 ·rw[aj h,aj h,af (by omega)]
 rw[af h,af h];rfl
theorem DS(c:Nat):IntMaps.look sa c=Jt c:=by
 rw[MO,DQ];unfold Jt qn;show(if place DP c<13 then _ else _)=_
 by_cases h:place DP c<13
 ·rw[aj h,aj h,af (by omega)]
 rw[af h,af h];rfl
theorem xN(x y:Nat):x&&&y=(x / 16&&&y / 16)*16+(x % 16&&&y % 16):=by
 have c:(x&&&y) / 16=x / 16&&&y / 16:=by
  have:=P6 (a:=x) (b:=y) (i:=4);simpa[tA]using this
 have d:(x&&&y) % 16=x % 16&&&y % 16:=R8 (n:=4);rw[<-c,<-d];omega
theorem RI(r:Nat)(h:r<16):r&&&7=if r / 8 % 2=1 then r - 8 else r:=by
 revert r;decide
theorem RJ(r:Nat)(h:r<16):r&&&8=if r / 8 % 2=1 then 8 else 0:=by
 revert r;decide
theorem OW(c:Nat)(h:c<65536):bits .andNot T9 (c:Int) 8=((if c / 8 % 2=1 then c - 8 else c:Nat):Int):=by
 have e:bits .andNot T9 (c:Int) ((8:Nat):Int)=((c&&&65527:Nat):Int):=u16_andNot_nat c 8 h (by omega);refine e.trans (eQ _ ?_);rw[xN];have b:c / 16&&&65527 / 16=c / 16:=Nat.and_two_pow_sub_one_of_lt_two_pow (n:=12) (by omega);have a:c % 16&&&65527 % 16=_:=RI (c % 16) (by omega);rw[b,a];have d:c % 16 / 8 % 2=c / 8 % 2:=by omega
 rw[d];split<;>omega
theorem RL(c:Nat)(h:c<65536):(bits .and T9 (c:Int) 8 != 0)=decide (c / 8 % 2=1):=by
 have e:bits .and T9 (c:Int) ((8:Nat):Int)=((c&&&8:Nat):Int):=u16_and_nat c 8 h (by omega);have g:bits .and T9 (c:Int) 8=((c&&&8:Nat):Int):=e;rw[g,xN];have d:c / 16&&&8 / 16=0:=Nat.and_zero _;have a:c % 16&&&8 % 16=_:=RJ (c % 16) (by omega);rw[d,a];have f:c % 16 / 8 % 2=c / 8 % 2:=by omega
 rw[f];by_cases b:c / 8 % 2=1<;>simp[b]
theorem DT(c:Nat):sc c<=15:=by unfold sc;split<;>omega
theorem DU(c:Nat):qn c<=28:=by unfold qn;split<;>omega
theorem Gy(c:Nat):(oy c).1<=28:=by
 unfold oy;have:=DT c;have:=DU c;have:=DU (c - 8);split
 ·simp;omega
 split<;>simp<;>omega
structure I where
 code:Nat
 jt:Nat
 jf:Nat
 k:Nat
 deriving DecidableEq,Inhabited
def I.Ok(i:I):Prop:=i.code<65536/\i.jt<256/\i.jf<256/\i.k<4294967296
def I.vals(i:I):List Uc:=[TY T9 i.code,TY .u8 i.jt,TY .u8 i.jf,TY T7 i.k]
def gx(l:List I):List Uc:=l.flatMap I.vals
def dN(l:List Nat):List Uc:=l.map fun n:Nat=>Value.int .u8 (n:Int)
theorem jq(l:List I):(gx l).length=l.length*4:=by
 induction l with
 |nil=>rfl
 |cons i l ih=>unfold gx at ih⊢;rw[cB,bw,ih,aM];simp[I.vals];omega
theorem j6(a b:List I):gx (a++b)=gx a++gx b:=by unfold gx;rw[bX]
theorem j7(a b:List Nat):dN (a++b)=dN a++dN b:=by unfold dN;rw[ew]
theorem fP(l:List Nat):(dN l).length=l.length:=by simp[dN]
theorem xP(l:List I)(k j:Nat)(a:k<l.length)(b:j<4):(gx l)[k*4+j]? =(I.vals (l.getD k default))[j]? :=by
 induction l generalizing k with
 |nil=>simp at a
 |cons i l ih=>
  unfold gx at ih⊢;rw[cB];cases k with
  |zero=>
   rw[bU (by simp[I.vals];omega)];simp
  |succ k=>
   rw[bY (by simp[I.vals];omega)];have:=ih k (by simpa using a);rw[show(k+1)*4+j - (I.vals i).length=k*4+j by simp[I.vals];omega,this];simp
theorem bh.Th{w:Ub}{B n:Nat}{A:Option Addr}{l:List I}(h:bh w B 4 A n (gx l)){k:Nat}(p:k<n):
  ∃b a,A=some ⟨b,a,none⟩/\b<B/\w.cell? ⟨b,a+k*4,none⟩=some (TY T9 (l.getD k default).code)/\w.cell? ⟨b,a+k*4+1,none⟩=some (TY .u8 (l.getD k default).jt)/\
   w.cell? ⟨b,a+k*4+2,none⟩=some (TY .u8 (l.getD k default).jf)/\w.cell? ⟨b,a+k*4+3,none⟩=some (TY T7 (l.getD k default).k):=by
 obtain⟨m,rfl,g,f⟩:=h.2 (by omega);have q:n=l.length:=by have:=h.1;rw[jq]at this;omega
 have i:=fun j (e:j<4)=>xP l k j (by omega) e
 obtain⟨b,a,spot⟩:=m;have c:=f (0*4+0) _ ((xP l 0 0 (by omega) (by omega)).trans rfl);have d:spot=none:=by simpa[Addr.add]using fL c
 subst d;have key:∀j u,j<4->(I.vals (l.getD k default))[j]? =some u->w.cell? ⟨b,a+k*4+j,none⟩=some u:=by
  intro j u e o;have:=f (k*4+j) u ((i j e).trans o);rw[<-this];unfold Addr.add;by_cases c:k*4+j=0
  ·rw[aj c,show a+k*4+j=a by omega]
  rw[af c];simp[eF]
 exact⟨b,a,rfl,g,key 0 _ (by omega) rfl,key 1 _ (by omega) rfl,key 2 _ (by omega) rfl,key 3 _ (by omega) rfl⟩
theorem bh.TJ{w:Ub}{B n:Nat}{A:Option Addr}{l:List Nat}(h:bh w B 1 A n (dN l)){k:Nat}(o:k<n):
  ∃b a,A=some ⟨b,a,none⟩/\b<B/\∀j,j<n->w.cell? ⟨b,a+j,none⟩=some (TY .u8 ((l.getD j 0:Nat):Int)):=by
 obtain⟨m,rfl,i,g⟩:=h.2 (by omega);have p:n=l.length:=by have:=h.1;rw[fP]at this;omega
 have e:∀j,j<n->(dN l)[j]? =some (TY .u8 ((l.getD j 0:Nat):Int)):=fun j f=>by
  simp[dN,show j<l.length by omega]
 obtain⟨b,a,spot⟩:=m;have c:=g 0 _ (e 0 (by omega));have d:spot=none:=by simpa[Addr.add]using fL c
 subst d;refine⟨b,a,rfl,i,fun j f=>?_⟩;rw[<-g j _ (e j f)];unfold Addr.add;by_cases c:j=0
 ·subst c;simp
 rw[af c]
def l9(i:I):List Nat:=[i.code % 256,i.code / 256,i.jt,i.jf,i.k % 256,i.k / 256 % 256,i.k / 65536 % 256,i.k / 16777216]
def dF(l:List I):List Nat:=l.flatMap l9
theorem zQ(a b:List I):dF (a++b)=dF a++dF b:=by unfold dF;rw[bX]
theorem oz(l:List I):(dF l).length=8*l.length:=by
 induction l with
 |nil=>rfl
 |cons i l ih=>unfold dF at ih⊢;rw[cB,bw,ih,aM];simp[l9];omega
theorem xQ(l:List I)(k:Nat)(a:k<l.length):l.take (k+1)=l.take k++[l.getD k default]:=by
 rw[dy a];simp[a]
theorem DV(l:List I)(k:Nat)(a:k<l.length):dF (l.take (k+1))=dF (l.take k)++l9 (l.getD k default):=by
 rw[xQ l k a,zQ];simp[dF]
theorem oc{l:List I}(h:∀i∈l,i.Ok){k:Nat}(a:k<l.length):(l.getD k default).Ok:=by
 have:l.getD k default=l[k]:=by simp[a]
 rw[this];exact h _ (bj a)
theorem uM(W:Ub)(l:List Uc)(e:TypeId)(b:Nat)(c:b=W.heap.size)(j:Nat)(u:Uc)(a:l[j]? =some u):(W.alloc (Ua l.toArray e)).cell? ((⟨b,0,none⟩:Addr).add j)=some u:=by
 subst c;have:(⟨W.heap.size,0,none⟩:Addr).add j=⟨W.heap.size,j,none⟩:=by unfold Addr.add;split<;>simp_all
 rw[this,World.cell?_alloc_at _ _ _ _ rfl];simpa using a
theorem fo{P:Program}{l:Array Oper}{rest:List Oper}{o:Oper}{a:Act}{Q:Exit->Act->Ub->Prop}(p:o.guard=none)(s x:Operand)(t:TypeId)
  (J:o.op=.call {callee:=.builtin .append,args:=#[s,x],argTypes:=#[t,t]})
  (base:Nat)(e:TypeId)(i:TypeInfo)(z:Uc)(size bytes:Nat)(D:P.underlying t=some (.slice e))(N:P.info? e=some i)(H:i.zero=some z)
  (g:i.size=size)(y:i.bytes=bytes)(A:z.cells.size=size)(r:0<size)
  (w:Ub)(v:Uc)(n:Nat)(xs:List Uc)(M:a.eval s=v)(f:w.ownsRow base e size v n xs)
  (b m c:Nat)(E:b=w.heap.size)(news:List Uc)(O:a.eval x=T0 (some ⟨b,0,none⟩) m c)(L:news.length=m*size)(G:∀u∈news,u.oneCell'=true)
  (q:n+m<=maxLen)(d:(n+m)*bytes<=140737488355328)(j:base<=w.heap.size)
  (h:∀v' w',w'.ownsRow base e size v' (n+m) (xs++news)->Below base w w'->w.heap.size<w'.heap.size->wpList P l Q rest (a.put o.dst v') w'):
  wpList P l Q (o::rest) a (w.alloc (Ua news.toArray e)):=by
 refine wpList_append_own _ p s x t J base e i z size bytes D N H g y A r v n xs M (f.alloc _) ⟨b,0,none⟩ m c news O L (uM w news e b E) G q d (by simp;omega) ?_;intro v' w' C B _;refine h v' w' C ?_ (by have:=B.size;simp at this;omega);refine R5 ((aw base w).alloc j _) B (by simp;omega) (fun k F=>?_);exact(f.lt k F).1
theorem Gz{B:Nat}{w wr b:Ub}{o:Obj}{v:Uc}{e:TypeId}{size n:Nat}{xs:List Uc}(d:Below B w wr)(f:B<=wr.heap.size)(g:(wr.alloc o).drew.grownBy b v.ownBlock)(a:wr.ownsRow B e size v n xs):Below B w b:=
 (d.trans (((aw B wr).alloc f o).drew)).grown g (by simp;omega) (fun k c=>(a.lt k c).1)
theorem cX{w:Ub}{base:Nat}{e:TypeId}{size:Nat}{v:Uc}{n:Nat}{xs:List Uc}(h:w.ownsRow base e size v n xs):∃A c,v=T0 A n c/\bh w w.heap.size size A n xs:=by
 obtain⟨b,m⟩:=h;rcases m with⟨rfl,rfl⟩|⟨g,cap,a,rfl,i,d,k,f,j,l⟩
 ·have:xs=[]:=cI (by simpa using b);subst this;exact⟨none,0,rfl,bh.none_⟩
 exact⟨_,cap,rfl,bh.Sp ⟨b,.inr ⟨g,cap,a,rfl,i,d,k,f,j,l⟩⟩⟩
theorem gZ(W:Ub)(l:List Uc)(e:TypeId)(size n:Nat)(a:l.length=n*size):bh (W.alloc (Ua l.toArray e)) (W.heap.size+1) size (some ⟨W.heap.size,0,none⟩) n l:=
 ⟨a,fun _=>⟨_,rfl,by simp,fun j u b=>uM W l e _ rfl j u b⟩⟩
end
section
def tK(d:Nat):Nat:=if d=0 then 5 else 0
def tL(d k:Nat):Nat:=if d=1/\(k % 4≠0\/64<=k)then 6 else 0
def xL(d:Nat):Bool:=decide (d=3\/d=6\/d=8\/d=9)
def pR(d k:Nat):Nat:=if(d=3\/d=6\/d=8\/d=9)/\16<=k then 7 else 0
def Cq(d:Nat)(x:Bool)(k:Nat):Nat:=if x=true then 0 else if d=19/\k=0 then 8 else if(d=22\/d=23)/\31<k then 9 else 0
def tM(d k a b rest:Nat):Nat:=if d=13 then(if rest<=k then 10 else 0)else if 25<=d then(if rest<=max a b then 10 else 0)else 0
def uL(d:Nat)(x:Bool)(k a b rest:Nat):Nat->Nat
 |0=>tK d
 |1=>tL d k
 |2=>pR d k
 |3=>Cq d x k
 | _ => tM d k a b rest
def sJ(f:Nat->Nat):Nat->Nat->Nat
 |0,_=>0
 |n+1,j=>if f j≠0 then f j else sJ f n (j+1)
def ql(d:Nat)(x:Bool)(k a b rest:Nat):Nat:=sJ (uL d x k a b rest) 5 0
def kd(i:I):Nat:=(oy i.code).1
def kx(i:I):Bool:=(oy i.code).2
def nc(d:Nat)(x:Bool)(k a b rest:Nat):Nat:=
 if d=0 then 5
 else if d=1 then(if k % 4≠0\/64<=k then 6 else 0)
 else if d=3\/d=6\/d=8\/d=9 then(if 15<k then 7 else 0)
 else if d=19 then(if x=false/\k=0 then 8 else 0)
 else if d=22\/d=23 then(if x=false/\31<k then 9 else 0)
 else if d=13 then(if rest<=k then 10 else 0)
 else if d=25\/d=26\/d=27\/d=28 then(if rest<=a\/rest<=b then 10 else 0)
 else 0
def pb(i:I)(rest:Nat):Nat:=nc (kd i) (kx i) i.k i.jt i.jf rest
theorem Ki(d:Nat)(c:d<=28)(x:Bool)(k a b rest:Nat):ql d x k a b rest=nc d x k a b rest:=by
 have e:rest<=max a b↔rest<=a\/rest<=b:=by omega
 simp only[ql,sJ,uL,tK,tL,pR,Cq,tM,nc,e];match d,c with
 |0,_=>simp
 |1,_=>simp
 |2,_=>simp
 |3,_=>simp;split<;>simp_all<;>omega
 |4,_=>simp
 |5,_=>simp
 |6,_=>simp;split<;>simp_all<;>omega
 |7,_=>simp
 |8,_=>simp;split<;>simp_all<;>omega
 |9,_=>simp;split<;>simp_all<;>omega
 |10,_=>simp
 |11,_=>simp
 |12,_=>simp
 |13,_=>simp
 |14,_=>simp
 |15,_=>simp
 |16,_=>simp
 |17,_=>simp
 |18,_=>simp
 |19,_=>cases x<;>simp
 |20,_=>simp
 |21,_=>simp
 |22,_=>cases x<;>simp
 |23,_=>cases x<;>simp
 |24,_=>simp
 |25,_=>simp
 |26,_=>simp
 |27,_=>simp
 |28,_=>simp
 |d+29,h=>exact absurd h (by omega)
theorem jT(f:Nat->Nat):∀(n j k:Nat),j<=k->k<j+n->(∀i,j<=i->i<k->f i=0)->f k≠0->sJ f n j=f k
 |0,j,k,d,a,_,_=>absurd a (by omega)
 |n+1,j,k,d,a,c,b=>by
  unfold sJ;by_cases e:j=k
  ·subst e;rw[aj b]
  rw[af (by rw[c j (ae _) (by omega)];omega)];exact jT f n (j+1) k (by omega) (by omega) (fun i g=>c i (by omega)) b
theorem vL(f:Nat->Nat):∀(n j:Nat),(∀i,j<=i->i<j+n->f i=0)->sJ f n j=0
 |0,_,_=>rfl
 |n+1,j,h=>by
  unfold sJ;rw[af (by rw[h j (ae _) (by omega)];omega)];exact vL f n (j+1) (fun i b a=>h i (by omega) (by omega))
def jU(f:Nat->Nat):Nat->Nat->Option Nat
 |0,_=>none
 |n+1,j=>if f j≠0 then some j else jU f n (j+1)
theorem ox(f:Nat->Nat):∀(n j k:Nat),j<=k->k<j+n->(∀i,j<=i->i<k->f i=0)->f k≠0->jU f n j=some k
 |0,j,k,d,a,_,_=>absurd a (by omega)
 |n+1,j,k,d,a,c,b=>by
  unfold jU;by_cases e:j=k
  ·subst e;rw[aj b]
  rw[af (by rw[c j (ae _) (by omega)];omega)];exact ox f n (j+1) k (by omega) (by omega) (fun i g=>c i (by omega)) b
theorem pd(f:Nat->Nat):∀(n j:Nat),(∀i,j<=i->i<j+n->f i=0)->jU f n j=none
 |0,_,_=>rfl
 |n+1,j,h=>by
  unfold jU;rw[af (by rw[h j (ae _) (by omega)];omega)];exact pd f n (j+1) (fun i b a=>h i (by omega) (by omega))
theorem tN(f:Nat->Nat):∀(n j k:Nat),jU f n j=some k->j<=k/\k<j+n/\f k≠0/\∀i,j<=i->i<k->f i=0
 |0,j,k,h=>by cases h
 |n+1,j,k,h=>by
  unfold jU at h;by_cases e:f j≠0
  ·rw[aj e]at h;cases h;exact⟨ae _,by omega,e,fun i l g=>absurd g (by omega)⟩
  rw[af e]at h;obtain⟨a,b,c,d⟩:=tN f n (j+1) k h;refine⟨by omega,by omega,c,fun i l g=>?_⟩;by_cases e2:i=j
  ·subst e2;omega
  exact d i (by omega) g
theorem qm(f:Nat->Nat):∀(n j:Nat),jU f n j=none->∀i,j<=i->i<j+n->f i=0
 |0,j,_,i,b,a=>absurd a (by omega)
 |n+1,j,h,i,b,a=>by
  unfold jU at h;by_cases e:f j≠0
  ·rw[aj e]at h;cases h
  rw[af e]at h;by_cases e2:i=j
  ·subst e2;omega
  exact qm f n (j+1) h i (by omega) (by omega)
def badAt(l:List I)(n:Nat):Nat:=pb (l.getD n default) (l.length - 1 - n)
def fH(d:Nat):Prop:=d=14\/d=15
instance (d:Nat):Decidable (fH d):=by unfold fH;infer_instance
def eA(l:List I):Nat×Nat:=
 if l.length=0 then(0,4)
 else if 4096<l.length then(0,3)
 else match jU (badAt l) l.length 0 with
  |some n=>(n,badAt l n)
  |none=>if fH (kd (l.getD (l.length - 1) default))then(0,0)else(l.length - 1,11)
theorem DO(l:List I)(k:Nat)(a:l.length≠0)(f:l.length<=4096)(e:k<l.length)(d:∀i,i<k->badAt l i=0)(b:badAt l k≠0):eA l=(k,badAt l k):=by
 unfold eA;rw[af a,af (by omega),ox (badAt l) l.length 0 k (by omega) (by omega) (fun i _ c=>d i c) b]
theorem vM(l:List I)(a:l.length≠0)(c:l.length<=4096)(b:∀i,i<l.length->badAt l i=0):eA l=if fH (kd (l.getD (l.length - 1) default))then(0,0)else(l.length - 1,11):=by
 unfold eA;rw[af a,af (by omega),pd (badAt l) l.length 0 (fun i _ d=>b i (by omega))]
theorem Jr(i:I):kd i<=28:=Gy _
def xJ(d:Nat):Prop:=d=8\/d=9
instance (d:Nat):Decidable (xJ d):=by unfold xJ;infer_instance
def Kh(i:I)(a:Nat):Nat:=if xJ (kd i)then a|||2 ^ i.k else a
def oa(at_:List Nat)(to a:Nat):List Nat:=at_.set to (at_.getD to 0&&&a)
def Qd(l:List I)(n:Nat):List Nat:=
 if fH (kd (l.getD n default))then[]else if kd (l.getD n default)=13 then[n+1+(l.getD n default).k]else if 25<=kd (l.getD n default)then[n+1+(l.getD n default).jt,n+1+(l.getD n default).jf]else[n+1]
def DN(l:List I)(at_:List Nat)(n:Nat):List Nat:=(Qd l n).foldl (fun a to=>oa a to (Kh (l.getD n default) (at_.getD n 0))) at_
def xK(n:Nat):List Nat:=(List.replicate n 65535).set 0 0
def na(l:List I)(k:Nat):List Nat:=(List.range k).foldl (DN l) (xK l.length)
theorem sI(l:List I)(k:Nat):na l (k+1)=DN l (na l k) k:=by unfold na;rw[fI,tC];rfl
def ko(l:List I):List Nat:=if(eA l).2=0 then na l l.length else[]
theorem tI(a:List Nat)(to b:Nat):(oa a to b).length=a.length:=by simp[oa]
theorem ob(b:Nat):∀(c a:List Nat),(c.foldl (fun a to=>oa a to b) a).length=a.length
 |[],_=>rfl
 |t::c,a=>by rw[bC,ob b c,tI]
theorem Co(l:List I)(a:List Nat)(n:Nat):(DN l a n).length=a.length:=ob _ _ _
theorem kT(l:List I):∀k,(na l k).length=l.length
 |0=>by simp[na,xK]
 |k+1=>by rw[sI,Co,kT l k]
theorem Jp(a:List Nat)(to b:Nat)(h:∀x∈a,x<65536):∀x∈oa a to b,x<65536:=by
 intro x c;unfold oa at c;rcases tx c with h1|h1
 ·exact h x h1
 rw[h1];have d:a.getD to 0<65536:=by
  rw[aa];cases e:a[to]? with
  |none=>simp
  |some y=>simp;exact h y (iw e)
 exact fF xu d
theorem Jq(b:Nat):∀(c a:List Nat),(∀x∈a,x<65536)->∀x∈c.foldl (fun a to=>oa a to b) a,x<65536
 |[],_,h=>h
 |t::c,a,h=>Jq b c _ (Jp a t b h)
theorem tJ(l:List I):∀k,∀x∈na l k,x<65536
 |0=>by
  intro x a;have a:x∈(List.replicate l.length 65535).set 0 0:=a;rcases tx a with h1|h1
  ·have:=List.eq_of_mem_replicate h1;omega
  omega
 |k+1=>by rw[sI];exact Jq _ _ _ (tJ l k)
theorem Cp{l:List Nat}{B:Nat}(b:0<B)(h:∀x∈l,x<B)(n:Nat):l.getD n 0<B:=by
 rw[aa];cases a:l[n]? with
 |none=>simpa using b
 |some y=>simp;exact h y (iw a)
structure gQ(l:List I):Prop where
 pos:0<l.length
 le:l.length<=4096
 good:∀i,i<l.length->badAt l i=0
 last:fH (kd (l.getD (l.length - 1) default))
theorem mO{l:List I}(h:(eA l).2=0):gQ l:=by
 unfold eA at h;by_cases d:l.length=0
 ·rw[aj d]at h;simp at h
 rw[af d]at h;by_cases c:4096<l.length
 ·rw[aj c]at h;simp at h
 rw[af c]at h;cases a:jU (badAt l) l.length 0 with
 |some n=>
  rw[a]at h;simp only at h;exact absurd h (tN _ _ _ _ a).2.2.1
 |none=>
  rw[a]at h;simp only at h;have e:=qm _ _ _ a;by_cases b:fH (kd (l.getD (l.length - 1) default))
  ·exact⟨by omega,by omega,fun i f=>e i (by omega) (by omega),b⟩
  rw[af b]at h;simp at h
theorem Gx{l:List I}(h:gQ l):eA l=(0,0):=by
 rw[vM l (by have:=h.pos;omega) h.le h.good,aj h.last]
theorem vK(l:List I)(h:(eA l).2=0):eA l=(0,0):=Gx (mO h)
section
variable {l:List I} (h:gQ l) {n:Nat} (hn:n<l.length)
include h hn
theorem gQ.alone:pb (l.getD n default) (l.length - 1 - n)=0:=h.good n hn
theorem gQ.TQ:kd (l.getD n default)≠0:=fun e=>by
 have:=h.alone hn;unfold pb nc at this;rw[aj e]at this;omega
theorem gQ.store:xJ (kd (l.getD n default))->(l.getD n default).k<=15:=fun e=>by
 have:=h.alone hn;unfold pb nc at this;unfold xJ at e;rw[af (by omega),af (by omega),aj (by omega)]at this;split at this<;>omega
theorem gQ.cell:(kd (l.getD n default)=3\/kd (l.getD n default)=6)->(l.getD n default).k<=15:=fun e=>by
 have:=h.alone hn;unfold pb nc at this;rw[af (by omega),af (by omega),aj (by omega)]at this;split at this<;>omega
theorem gQ.jump:kd (l.getD n default)=13->n+1+(l.getD n default).k<l.length:=fun e=>by
 have:=h.alone hn;unfold pb nc at this;rw[af (by omega),af (by omega),af (by omega),af (by omega),af (by omega),aj e]at this;split at this<;>omega
theorem gQ.branch:25<=kd (l.getD n default)->n+1+(l.getD n default).jt<l.length/\n+1+(l.getD n default).jf<l.length:=fun e=>by
 have:=h.alone hn;have a:=Jr (l.getD n default);unfold pb nc at this;rw[af (by omega),af (by omega),af (by omega),af (by omega),af (by omega),af (by omega),aj (by omega)]at this;split at this<;>omega
theorem gQ.on:¬fH (kd (l.getD n default))->n+1<l.length:=fun e=>by
 by_cases a:n=l.length - 1
 ·subst a;exact absurd h.last e
 omega
end
theorem DL(l:List I)(a:List Nat)(n:Nat):DN l a n=
  if fH (kd (l.getD n default))then a
  else if kd (l.getD n default)=13 then oa a (n+1+(l.getD n default).k) (Kh (l.getD n default) (a.getD n 0))
  else if 25<=kd (l.getD n default)then oa (oa a (n+1+(l.getD n default).jt) (Kh (l.getD n default) (a.getD n 0))) (n+1+(l.getD n default).jf) (Kh (l.getD n default) (a.getD n 0))
  else oa a (n+1) (Kh (l.getD n default) (a.getD n 0)):=by
 unfold DN Qd;by_cases c:fH (kd (l.getD n default))
 ·rw[aj c,aj c];rfl
 rw[af c,af c];by_cases b:kd (l.getD n default)=13
 ·rw[aj b,aj b];rfl
 rw[af b,af b];by_cases d:25<=kd (l.getD n default)
 ·rw[aj d,aj d];rfl
 rw[af d,af d];rfl
def Gt(d:Nat):Prop:=d=3\/d=6
instance (d:Nat):Decidable (Gt d):=by unfold Gt;infer_instance
def oL(l:List I)(n:Nat):Nat:=if Gt (kd (l.getD n default))/\((ko l).getD n 0).testBit (l.getD n default).k=false then 12 else 0
def fK(l:List I):Nat×Nat:=
 if(eA l).2≠0 then eA l
 else match jU (oL l) l.length 0 with
  |some n=>(n,12)
  |none=>(0,0)
theorem Gu(l:List I)(d:(eA l).2=0)(k:Nat)(e:k<l.length)(c:∀i,i<k->oL l i=0)(a:oL l k≠0):fK l=(k,12):=by
 unfold fK;rw[af (by omega),ox (oL l) l.length 0 k (by omega) (by omega) (fun i _ b=>c i b) a]
theorem Gv(l:List I)(b:(eA l).2=0)(a:∀i,i<l.length->oL l i=0):fK l=(0,0):=by
 unfold fK;rw[af (by omega),pd (oL l) l.length 0 (fun i _ c=>a i (by omega))]
theorem xI(l:List I)(a:(eA l).2=0):(ko l).length=l.length:=by unfold ko;rw[aj a,kT]
theorem Gw(l:List I):∀x∈ko l,x<65536:=by
 unfold ko;split
 ·exact tJ l _
 intro x a;cases a
end
section
open Go.RowKit
def dx(W:Ub)(g:Nat)(t:TypeId)(cap:Nat)(vs:List Uc):Prop:=∃a,W.heap[g]? =some (Ua a t (0,0))/\a.size=cap/\a.toList.take vs.length=vs
section
variable {W W':Ub} {g cap:Nat} {t:TypeId} {vs:List Uc}
theorem dx.len(h:dx W g t cap vs):vs.length<=cap:=by
 obtain⟨a,_,c,b⟩:=h;have:=eQ List.length b;rw[bJ]at this;simp at this;omega
theorem dx.cell(h:dx W g t cap vs){k:Nat}{v:Uc}(a:vs[k]? =some v):W.cell? ⟨g,k,none⟩=some v:=by
 obtain⟨b,d,e,c⟩:=h;rw[<-c]at a;rw[eS]at a;split at a
 ·simp only[World.cell?,d];simpa using a
 cases a
theorem dx.frozen(h:dx W g t cap vs)(k:Nat):W.frozen? ⟨g,k,none⟩=false:=by
 obtain⟨a,b,d,c⟩:=h;simp[World.frozen?,b]
theorem dx.set_(h:dx W g t cap vs)(k:Nat)(v:Uc):dx (W.setCell ⟨g,k,none⟩ v) g t cap (vs.set k v):=by
 obtain⟨a,c,d,b⟩:=h;refine⟨_,heap_setCell_same _ _ _ _ _ _ c,by simp[d],?_⟩;rw[Array.toList_setIfInBounds,List.length_set,List.take_set,b]
theorem dx.of_heap(h:dx W g t cap vs)(e:W'.heap[g]? =W.heap[g]?):dx W' g t cap vs:=by
 obtain⟨a,b,r⟩:=h;exact⟨a,e.trans b,r⟩
theorem dx.lt(h:dx W g t cap vs):g<W.heap.size:=by
 obtain⟨a,b,r⟩:=h;exact(aL.1 b).1
theorem dx.below{B:Nat}(h:dx W g t cap vs)(b:Below B W W')(a:g<B):dx W' g t cap vs:=h.of_heap (b.block g a)
theorem dx.alloc(h:dx W g t cap vs)(o:Obj):dx (W.alloc o) g t cap vs:=h.of_heap (iN W o g h.lt)
theorem dx.drew(h:dx W g t cap vs):dx W.drew g t cap vs:=h
theorem dx.far(h:dx W g t cap vs){p:Addr}(a:g≠p.block)(u:Uc):dx (W.setCell p u) g t cap vs:=h.of_heap (cK W p u g a)
theorem dx.grown{row:Option Nat}(h:dx W g t cap vs)(b:W.grownBy W' row)(a:some g≠row):dx W' g t cap vs:=h.of_heap (b.block g h.lt a)
theorem dx.reads(h:dx W g t cap vs):bh W W.heap.size 1 (some ⟨g,0,none⟩) vs.length vs:=by
 refine⟨by simp,fun _=>⟨_,rfl,h.lt,fun j u a=>?_⟩⟩;have e:(⟨g,0,none⟩:Addr).add j=⟨g,j,none⟩:=by unfold Addr.add;split<;>simp_all
 rw[e];exact h.cell a
theorem dx.new(W:Ub)(t:TypeId)(cs:Array Uc)(vs:List Uc)(h:cs.toList.take vs.length=vs):dx (W.alloc (Ua cs t)) W.heap.size t cs.size vs:=⟨cs,cq W _,rfl,h⟩
end
theorem tP{P:Program}{b:Array Oper}{rest:List Oper}{o:Oper}{a:Act}{w:Ub}{Q:Exit->Act->Ub->Prop}(d:o.guard=none)(ty:TypeId)(e:o.op=.alloc ty)(i:TypeInfo)(j:P.info? ty=some i)(z:Uc)(k:i.zero=some z)
  (h:wpList P b Q rest (a.put o.dst (TZ (some ⟨w.heap.size,0,none⟩))) (w.alloc (Ua z.cells ty))):wpList P b Q (o::rest) a w:=by
 refine jG d fun K f=>?_
 unfold Oper.wp execOp;have c:(zeroValue ty).run P w=.ok z w:=by
  unfold zeroValue;simp only[aY,run_typeInfo w j,bd,k,jF]
 simp only[e,Instr.alloc,aY,c,bd];simp[go_sem];exact f _ _ h
def kV(l:List Nat):List Uc:=l.map fun n:Nat=>Value.int T9 n
theorem mC(l:List Nat):(kV l).length=l.length:=by simp[kV]
theorem uN(l:List Nat)(k n:Nat):(kV l).set k (TY T9 n)=kV (l.set k n):=by unfold kV;rw[List.map_set]
theorem mP(l:List Nat)(k:Nat)(a:k<l.length):(kV l)[k]? =some (TY T9 (l.getD k 0:Nat)):=by simp[kV,a]
theorem Kk(l:List Nat):∀u∈kV l,u.oneCell'=true:=fun u a=>by
 obtain⟨n,_,rfl⟩:=bt.1 a;rfl
theorem aS.reads{w w':Ub}(h:aS w w'){size n:Nat}{A:Option Addr}{xs:List Uc}(a:bh w w.heap.size size A n xs):bh w' w'.heap.size size A n xs:=(a.below h).more h.size
structure Kd where
 sat:Uc->Ub->Prop
 mono:∀v w w',aS w w'->sat v w->sat v w'
def Kd.eq(v:Uc):Kd:=⟨fun u _=>u=v,fun _ _ _ _ h=>h⟩
def Kd.any:Kd:=⟨fun _ _=>True,fun _ _ _ _ _=>trivial⟩
def JE(size:Nat)(n:Nat)(xs:List Uc)(v:Uc)(w:Ub):Prop:=∃A c,v=T0 A n c/\bh w w.heap.size size A n xs
def Kd.row(size n:Nat)(xs:List Uc):Kd:=⟨JE size n xs,fun _ _ _ d ⟨A,c,b,a⟩=>⟨A,c,b,d.reads a⟩⟩
theorem cC{w w':Ub}{B:Nat}{e:TypeId}{size n:Nat}{xs:List Uc}{v:Uc}(j:aS w w')(h:w.ownsRow B e size v n xs):w'.ownsRow B e size v n xs:=by
 refine⟨h.1,?_⟩;rcases h.2 with i|⟨g,cap,a,f,c,b,d⟩
 ·exact .inl i
 exact .inr ⟨g,cap,a,f,c,(j.block g (aL.1 b).1).trans b,d⟩
def nQ:List (Tmp×Kd)->Tmp->Kd
 |[],_=>.any
 |p::l,d=>if p.1=d then p.2 else nQ l d
namespace Any
variable {P:Program} {ops:Array Oper} {Q:Exit->Act->Ub->Prop} {S:Tmp->Kd} {a0:Act} {w0:Ub}
abbrev St(P:Program)(ops:Array Oper)(Q:Exit->Act->Ub->Prop)(S:Tmp->Kd)(a0:Act)(w0:Ub)(o:Oper):Prop:=Step P ops Q (fun d v w=>(S d).sat v w) a0 w0 o
structure Ctx(ops:Array Oper)(S:Tmp->Kd)(a0:Act)(w0:Ub)(o:Oper)(a:Act)(w:Ub):Prop where
 grows:aS w0 w
 old:∀t,t∉dsts ops->a.tmps.getD t undef=a0.tmps.getD t undef
 dep:∀d,d∈deps ops o->(S d).sat (a.tmps.getD d undef) w
theorem Ctx.at{o:Oper}{a:Act}{w:Ub}(h:Ctx ops S a0 w0 o a w)(t:Tmp)(b:(deps ops o).contains t=true):(S t).sat (a.eval (.tmp t)) w:=h.dep t (by simpa using b)
theorem Ctx.was{o:Oper}{a:Act}{w:Ub}(h:Ctx ops S a0 w0 o a w)(t:Tmp)(b:(dsts ops).contains t=false):a.eval (.tmp t)=a0.tmps.getD t undef:=h.old t (by simpa using b)
theorem yielded_of{a:Act}{j:Nat}{g:Tmp}{b:Bool}(c:(ops[j]?).bind (·.dst)=some g)(hv:a.tmps.getD g undef=T2 b):yielded ops a.tmps j=some b:=by
 unfold yielded;rw[c];simp only[Option.bind_some];have:a.tmps[g]? =some (T2 b):=by
  rw[au]at hv;cases h:a.tmps[g]? with
  |none=>rw[h]at hv;simp[undef]at hv
  |some x=>rw[h]at hv;simp at hv;rw[hv]
 rw[this]
def Runs(ops:Array Oper)(S:Tmp->Kd)(o:Oper):Prop:=o.guard=none\/∃j b g,o.guard=some (j,b)/\(ops[j]?).bind (·.dst)=some g/\(deps ops o).contains g=true/\S g=.eq (T2 b)
theorem Runs.plain{o:Oper}(h:o.guard=none):Runs ops S o:=.inl h
theorem Runs.known{o:Oper}{j:Nat}{b:Bool}(g:Tmp)(e:o.guard=some (j,b))(c:(ops[j]?).bind (·.dst)=some g)(a:(deps ops o).contains g=true)(d:S g=.eq (T2 b)):Runs ops S o:=.inr ⟨j,b,g,e,c,a,d⟩
theorem st_run{o:Oper}(n:Runs ops S o)(h:∀a w,Ctx ops S a0 w0 o a w->o.wp P a w (fun l w'=>∃v,l=a.put o.dst v/\(∀d,o.dst=some d->(S d).sat v w')/\aS w w') Q):St P ops Q S a0 w0 o:=by
 intro a w m k f;have c:Region.wanted o (yielded ops a.tmps)=true:=by
  rcases n with e|⟨j,b,g,e,p,i,q⟩
  ·simp[Region.wanted,e]
  have hv:(S g).sat (a.tmps.getD g undef) w:=f g (by simpa using i);rw[q]at hv;simp[Region.wanted,e,yielded_of p hv]
 rw[aj c];exact h a w ⟨m,k,f⟩
theorem wp_value{o:Oper}{a:Act}{w:Ub}(d:Tmp)(c:o.dst=some d){v:Uc}(g:(execOp a.eval o).run P w=.ok (.value v) w)(e:(S d).sat v w):
  o.wp P a w (fun f w'=>∃v,f=a.put o.dst v/\(∀d,o.dst=some d->(S d).sat v w')/\aS w w') Q:=by
 unfold Oper.wp;rw[g];exact⟨v,rfl,fun i b=>by rw[c]at b;cases b;exact e,aS.refl _⟩
theorem run_copy{o:Oper}{a:Act}{w:Ub}{x:Operand}(ho:o.op=.move x\/o.op=.assign x):(execOp a.eval o).run P w=.ok (.value (a.eval x)) w:=by
 rcases ho with ho|ho<;>(unfold execOp;simp only[ho];rfl)
theorem run_convert_op{o:Oper}{a:Act}{w:Ub}{s d:TypeId}{x:Operand}{u v:Uc}(b:o.op=.convert s d x)(e:a.eval x=u)(c:(convert s d u).run P w=.ok v w):(execOp a.eval o).run P w=.ok (.value v) w:=by
 unfold execOp;simp only[b,e,aY,c,Result.andThen];rfl
theorem exec_call{o:Oper}{a:Act}{w:Ub}{f:FuncId}{xs:Array Operand}{j:Array TypeId}(i:o.op=.call {callee:=.value (.func f),args:=xs,argTypes:=j}){b:Func}(g:P.funcs[f]? =some b)
  (l:(b.name== "runtime.NumGoroutine")=false)(e:b.body.isNone=false):(execOp a.eval o).run P w=.ok (.enter f (xs.map a.eval)) w:=by
 have c:¬b.name= "runtime.NumGoroutine" :=by simpa using l
 have d:(callFunc f (xs.map a.eval)).run P w=.ok (.enter f (xs.map a.eval)) w:=by
  unfold callFunc;simp[g,c];intro k;rw[k]at e;cases e
 unfold execOp;simp only[i];simp[go_sem,d]
theorem wp_call{o:Oper}{a:Act}{w:Ub}(d:Tmp)(i:o.dst=some d){f:FuncId}{xs:Array Operand}{r:Array TypeId}(p:o.op=.call {callee:=.value (.func f),args:=xs,argTypes:=r}){c:Func}(n:P.funcs[f]? =some c)
  (q:(c.name== "runtime.NumGoroutine")=false)(k:c.body.isNone=false){vs:Array Uc}(g:xs.map a.eval=vs)(s:Calls P f vs w fun e w'=>∃v,e=.returned v/\(S d).sat v w'/\aS w w'):
  o.wp P a w (fun l w'=>∃v,l=a.put o.dst v/\(∀d,o.dst=some d->(S d).sat v w')/\aS w w') Q:=by
 unfold Oper.wp;rw[exec_call p n q k,g];refine s.mono ?_;rintro e w' ⟨v,rfl,m,j⟩;exact⟨v,rfl,fun t b=>by rw[i]at b;cases b;exact m,j⟩
theorem st_copy{o:Oper}(d t:Tmp)(a:Runs ops S o)(c:o.op=.move (.tmp t)\/o.op=.assign (.tmp t))(b:o.dst=some d)(f:(deps ops o).contains t=true)(e:S d=S t):St P ops Q S a0 w0 o:=
 st_run a fun _ _ g=>wp_value d b (run_copy c) (by rw[e];exact g.at t f)
theorem st_was{o:Oper}(d t:Tmp)(b:Runs ops S o)(e:o.op=.move (.tmp t)\/o.op=.assign (.tmp t))(c:o.dst=some d)(g:(dsts ops).contains t=false)(f:(S d).sat (a0.tmps.getD t undef) w0):St P ops Q S a0 w0 o:=
 st_run b fun _ _ a=>wp_value d c (run_copy e) (by rw[a.was t g];exact(S d).mono _ _ _ a.grows f)
theorem st_conv{o:Oper}(d t:Tmp)(s k:TypeId)(u v:Uc)(c:Runs ops S o)(f:o.op=.convert s k (.tmp t))(e:o.dst=some d)(j:(deps ops o).contains t=true)
  (i:∀w,(convert s k u).run P w=.ok v w)(b:S t=.eq u)(g:S d=.eq v):St P ops Q S a0 w0 o:=
 st_run c fun a w l=>by
  have e1:=l.at t j;rw[b]at e1;exact wp_value d e (run_convert_op f e1 (i w)) (by rw[g];rfl)
theorem run_bin{o:Oper}{a:Act}{w:Ub}{op:BinOp}{t e:TypeId}{x y:Operand}{u v r:Uc}(b:o.op=.binOp op t x y e)(g:a.eval x=u)(c:a.eval y=v)(f:(eqGuard op t x y u v).run P w=.ok () w)
  (d:(binOp op t u v).run P w=.ok r w):(execOp a.eval o).run P w=.ok (.value r) w:=by
 unfold execOp;simp only[b,g,c,aY,f,d,Result.andThen];rfl
theorem st_binR{o:Oper}(d b:Tmp)(op:BinOp)(t f:TypeId)(u v r:Uc)(j:Runs ops S o)(k:o.op=.binOp op t (.tmp b) (.const v) f)(e:o.dst=some d)(i:(deps ops o).contains b=true)
  (c:S b=.eq u)(g:∀w,(eqGuard op t (.tmp b) (.const v) u v).run P w=.ok () w)(l:∀w,(binOp op t u v).run P w=.ok r w)(m:S d=.eq r):St P ops Q S a0 w0 o:=
 st_run j fun a w n=>by
  have e1:=n.at b i;rw[c]at e1;exact wp_value d e (run_bin k e1 rfl (g w) (l w)) (by rw[m];rfl)
theorem wp_region_kinds{i:Nat}{l:List Oper}{a0:Act}{w:Ub}(k:P.follows .mixedOrders=true)(S:Tmp->Kd)(D:List Tmp)(g:dsts l.toArray=D)
  (c:D.all (fun d=>decide (d<a0.tmps.size))=true)(a:backB l.toArray=true)
  (steps:Steps P l.toArray Q (fun d v w=>(S d).sat v w) a0 w.drew l)
  (done:∀(f:Tmp->Uc) (w':Ub),aS w.drew w'->(∀d,D.contains d=true->(S d).sat (f d) w')->Q .normal {tmps:=fill f D a0.tmps,defers:=a0.defers} w'):
  (Code.region i l.toArray true).wp P Q a0 w:=by
 subst g;exact wp_region k (fun d v w=>(S d).sat v w) (fun d v w w' b h=>(S d).mono v w w' b h) c a steps (fun f w' b j=>done f w' b (fun d e=>j d (by simpa using e)))
end Any
namespace Any
variable {P:Program} {ops:Array Oper} {Q:Exit->Act->Ub->Prop} {S:Tmp->Kd} {a0:Act} {w0:Ub}
theorem Ctx.eqv{o:Oper}{a:Act}{w:Ub}(h:Ctx ops S a0 w0 o a w)(t:Tmp){v:Uc}(c:(deps ops o).contains t=true)(b:S t=.eq v):a.eval (.tmp t)=v:=by
 have:=h.at t c;rw[b]at this;exact this
theorem st_load_row{o:Oper}(d t:Tmp)(ty:TypeId)(g:Nat)(f:TypeId)(cs:Array Uc)(i:TypeDesc)(n:Runs ops S o)(q:o.op=.load ty (.tmp t))(l:o.dst=some d)(m:(dsts ops).contains t=false)
  (p : a0.tmps.getD t undef = TZ (some ⟨g, 0, none⟩)) (e : w0.heap[g]? = some (Ua cs f (0, 0))) (r : P.underlying ty = some i) (b : (match i with | .struct _ | .array _ _ => true | _ => false) = true) (s : (P.info? ty).map (·.size) = some cs.size)
  (u:S d=.eq (T1 cs)):St P ops Q S a0 w0 o:=
 st_run n fun a w k=>by
  have e1:=k.was t m;rw[p]at e1;have c:g<w0.heap.size:=by
   rcases dB g w0.heap.size with h|h
   ·exact h
   rw[gD h]at e;cases e
  have j:w.heap[g]? =some (Ua cs f (0,0)):=(k.grows.block g c).trans e;refine wp_value d l (v:=T1 cs) ?_ (by rw[u];rfl);unfold execOp;simp only[q,e1,Instr.loadAt,Instr.sureAddr,aY,jF,bd,kQ w g f ty cs (0,0) i j r b s]
theorem st_old1{o:Oper}(d t:Tmp)(v u:Uc)(c:Runs ops S o)(f:o.dst=some d)(j:(dsts ops).contains t=false)(e:a0.tmps.getD t undef=u)
  (i:∀(a:Act) (w:Ub),a.eval (.tmp t)=u->(execOp a.eval o).run P w=.ok (.value v) w)(g:∀w,aS w0 w->(S d).sat v w):St P ops Q S a0 w0 o:=
 st_run c fun a w b=>wp_value d f (i a w (by rw[b.was t j,e])) (g w b.grows)
theorem st_callv{o:Oper}(d:Tmp)(vs:Array Uc){f:FuncId}{xs:Array Operand}{n:Array TypeId}(j:Runs ops S o)(l:o.op=.call {callee:=.value (.func f),args:=xs,argTypes:=n})(g:o.dst=some d){b:Func}(k:P.funcs[f]? =some b)
  (m:(b.name== "runtime.NumGoroutine")=false)(i:b.body.isNone=false)(c:∀(a:Act) (w:Ub),Ctx ops S a0 w0 o a w->xs.map a.eval=vs)
  (p:∀w,aS w0 w->Calls P f vs w fun e w'=>∃v,e=.returned v/\(S d).sat v w'/\aS w w'):St P ops Q S a0 w0 o:=
 st_run j fun a w h=>wp_call d g l k m i (c a w h) (p w h.grows)
end Any
namespace Any
variable {P:Program} {ops:Array Oper} {Q:Exit->Act->Ub->Prop}
def reachB(ops:Array Oper):Nat->Nat->Nat->Bool
 |0,_,_=>false
 |n+1,i,j=>((ops[i]?).map fun o=>o.after.any fun e=>Region.binds .any e&&(e.on==j||reachB ops n e.on j)).getD false
def coverB(ops:Array Oper)(k:Nat):Bool:=(List.range ops.size).all fun i=>decide (i<k)||(List.range i).all fun j=>reachB ops ops.size i j
structure Closed(ops:Array Oper)(listed:Array Bool):Prop where
 size:listed.size=ops.size
 deps:∀(j:Nat) (oj:Oper),ops[j]? =some oj->listed.getD j false=true->∀e∈oj.after,Region.binds .any e=true->listed.getD e.on false=true
theorem reach_listed{listed:Array Bool}(f:Closed ops listed):∀(n i j:Nat) (o:Oper),ops[i]? =some o->(∀e∈o.after,Region.binds .any e=true->listed.getD e.on false=true)->reachB ops n i j=true->listed.getD j false=true
 |0,_,_,_,_,_,h=>by cases h
 |n+1,i,j,o,l,g,h=>by
  unfold reachB at h;rw[l]at h;simp only[fX,jX,Array.any_eq_true']at h;obtain⟨e,m,b⟩:=h;simp only[bG,df,mM]at b;obtain⟨k,h3⟩:=b;have d:=g e m k;rcases h3 with rfl|h3
  ·exact d
  cases a:ops[e.on]? with
  |none=>
   cases n with
   |zero=>cases h3
   |succ n=>unfold reachB at h3;rw[a]at h3;cases h3
  |some c=>exact reach_listed f n e.on j c a (f.deps e.on c a d) h3
theorem getD_set_true{listed:Array Bool}{i j:Nat}(h:(listed.setIfInBounds i true).getD j false=true):j=i\/listed.getD j false=true:=by
 by_cases e:j=i
 ·exact .inl e
 right
 simp only[au]at h⊢;rwa [aW (fun h=>e h.symm)]at h
theorem getD_set_keep{listed:Array Bool}{i j:Nat}(h:listed.getD j false=true):(listed.setIfInBounds i true).getD j false=true:=by
 simp only[au]at h⊢;by_cases e:i=j
 ·subst e;by_cases a:i<listed.size
  ·simp[a]
  rw[gD (by omega)]at h;simp at h
 rw[aW e];exact h
theorem Closed.set_{listed:Array Bool}(d:Closed ops listed){i:Nat}{o:Oper}(g:ops[i]? =some o)(f:∀e∈o.after,Region.binds .any e=true->listed.getD e.on false=true):Closed ops (listed.setIfInBounds i true):=
 ⟨by simp[d.size],fun j oj a hl e b c=>by
   rcases getD_set_true hl with rfl|hl
   ·rw[g]at a;cases a;exact getD_set_keep (f e b c)
   exact getD_set_keep (d.deps j oj a hl e b c)⟩
theorem wpAny_tail{k:Nat}(u:coverB ops k=true)(D:∀(i:Nat) (o:Oper),ops[i]? =some o->∀e∈o.after,Region.binds .any e=true->e.on<i):
  ∀(fuel m:Nat) (listed:Array Bool) (a:Act) (w:Ub),k<=m->m<=ops.size->Closed ops listed->(∀j,j<m->listed.getD j false=true)->(∀j,m<=j->j<ops.size->listed.getD j true=false)->
   ops.size - m<=fuel->wpList P ops Q (ops.toList.drop m) a w->wpAny P .any ops Q fuel listed a w:=by
 have only:∀(m:Nat) (listed:Array Bool) (i:Nat),k<=m->Closed ops listed->(∀j,j<m->listed.getD j false=true)->i∈Region.ready .any ops listed->(∀j,m<=j->j<ops.size->listed.getD j true=false)->i=m:=by
  intro m listed i n d p r g;obtain⟨c,s,F⟩:=ready_mem r;have y:m<=i:=by
   rcases dB i m with h|h
   ·have:=p i h;simp only[au]at this s;cases q:listed[i]? with
    |none=>rw[q]at this;simp at this
    |some x=>rw[q]at this s;simp at this s;rw[this]at s;cases s
   exact h
  by_cases e:i=m
  ·exact e
  exfalso;have t:ops[i]? =some (ops[i]'c):=bF c;have hcv:=cL.1 u i (bE.2 c);simp only[df,aV]at hcv;rcases hcv with hcv|hcv
  ·omega
  have f:=cL.1 hcv m (bE.2 (by omega));have:=reach_listed d _ i m _ t (F _ t) f;have b:=g m (ae _) (by omega);simp only[au]at this b;cases q:listed[m]? with
  |none=>rw[q]at this;simp at this
  |some x=>rw[q]at this b;simp at this b;rw[this]at b;cases b
 have v:∀(m:Nat) (listed:Array Bool) (a:Act) (w:Ub),m<=ops.size->Closed ops listed->(∀j,j<m->listed.getD j false=true)->Region.ready .any ops listed=[]->(∀j,m<=j->j<ops.size->listed.getD j true=false)->wpList P ops Q (ops.toList.drop m) a w->Q .normal a w:=by
  intro m listed a w C d p f g h;have E:m=ops.size:=by
   rcases dB m ops.size with h|h
   ·have:=all_listed d.size D f (m+1) m (by omega) h;have b:=g m (ae _) h;simp only[au]at this b;cases q:listed[m]? with
    |none=>rw[q]at this;simp at this
    |some x=>rw[q]at this b;simp at this b;rw[this]at b;cases b
   omega
  subst E;rw[kj (by simp)]at h;exact h
 intro fuel;induction fuel with
 |zero=>
  intro m listed a w n C d p g O h;have f:Region.ready .any ops listed=[]:=by
   cases f:Region.ready .any ops listed with
   |nil=>rfl
   |cons i l=>
    have r:i∈Region.ready .any ops listed:=by rw[f];exact Se
    have:=only m listed i n d p r g;obtain⟨c,_,_⟩:=ready_mem r;omega
  exact⟨f,v m listed a w C d p f g h⟩
 |succ fuel ih=>
  intro m listed a w n C d p g O h;refine⟨fun f=>v m listed a w C d p f g h,fun i r=>?_⟩;have y:=only m listed i n d p r g;subst y;obtain⟨c,s,F⟩:=ready_mem r;have t:ops[i]? =some (ops[i]'c):=bF c;have J:ops.toList.drop i=ops[i]'c::ops.toList.drop (i+1):=by rw[dm (by simpa using c)];simp
  rw[J]at h;have z:=d.set_ t (F _ t);have B:∀j,j<i+1->(listed.setIfInBounds i true).getD j false=true:=fun j R=>by
   by_cases e:j=i
   ·subst e;simp[au,d.size,c]
   exact getD_set_keep (p j (by omega))
  have A:∀j,i+1<=j->j<ops.size->(listed.setIfInBounds i true).getD j true=false:=fun j L G=>by
   have:=g j (by omega) G;simp only[au]at this⊢;rwa [aW (by omega)]
  generalize ops[i]'c=o at*;unfold wpOp;simp only[t];unfold wpList at h;by_cases H:Region.wanted o (yielded ops a.tmps)=true
  ·rw[aj H]at h⊢;rcases h with h|h
   ·exact .inl (jE (fun N w' M=>ih (i+1) _ N w' (by omega) (by omega) z B A (by omega) M) h)
   exact .inr h
  rw[af H]at h⊢;exact ih (i+1) _ _ _ (by omega) (by omega) z B A (by omega) h
def StepJ(P:Program)(ops:Array Oper)(Q:Exit->Act->Ub->Prop)(F:Tmp->Uc->Ub->Prop)(J:Act->Ub->Prop)(a0:Act)(w0:Ub)(o:Oper):Prop:=
 ∀(a:Act) (w:Ub),aS w0 w->
  (∀t,t∉dsts ops->a.tmps.getD t undef=a0.tmps.getD t undef)->
  (∀d∈deps ops o,F d (a.tmps.getD d undef) w)->J a w->
  if Region.wanted o (yielded ops a.tmps)then o.wp P a w (fun b w'=>∃v,b=a.put o.dst v/\(∀d,o.dst=some d->F d v w')/\aS w w'/\J b w') Q
  else(∀d,o.dst=some d->F d undef w)/\J (a.put o.dst undef) w
theorem stepJ_of{F:Tmp->Uc->Ub->Prop}{J:Act->Ub->Prop}{a0:Act}{w0:Ub}{o:Oper}(h:Step P ops Q F a0 w0 o)(c:∀a w v w',J a w->aS w w'->J (a.put o.dst v) w'):StepJ P ops Q F J a0 w0 o:=by
 intro a w i f j e;have:=h a w i f j;by_cases d:Region.wanted o (yielded ops a.tmps)=true
 ·rw[aj d]at this⊢;refine jE (fun k w' g=>?_) this;obtain⟨v,rfl,hv,b⟩:=g;exact⟨v,rfl,hv,b,c a w v w' e b⟩
 rw[af d]at this⊢;exact⟨this,c a w undef w e (aS.refl _)⟩
theorem wpAny_head{F:Tmp->Uc->Ub->Prop}{J:Act->Ub->Prop}{a0:Act}{w0:Ub}{k:Nat}(g:coverB ops k=true)
  (q:∀d v w w',aS w w'->F d v w->F d v w')(G:∀d∈dsts ops,d<a0.tmps.size)
  (C:∀(i:Nat) (o:Oper),ops[i]? =some o->∀e∈o.after,Region.binds .any e=true->e.on<i)(N:k<=ops.size)
  (steps:∀(i:Nat) (o:Oper),i<k->ops[i]? =some o->StepJ P ops Q F J a0 w0 o)
  (done:∀(a:Act) (w:Ub) (listed:Array Bool),Holds ops F a0 w0 listed a w->J a w->(∀j,j<k->listed.getD j false=true)->wpList P ops Q (ops.toList.drop k) a w):
  ∀(fuel:Nat) (listed:Array Bool) (a:Act) (w:Ub),Closed ops listed->Holds ops F a0 w0 listed a w->J a w->(∀j,k<=j->j<ops.size->listed.getD j true=false)->
   (List.range ops.size).countP (fun i=> !listed.getD i true)<=fuel->wpAny P .any ops Q fuel listed a w:=by
 have conv:∀{listed:Array Bool} {j:Nat},listed.size=ops.size->j<ops.size->listed.getD j true=true->listed.getD j false=true:=by
  intro listed j hs W h;simp only[au]at h⊢;rw[bF (by omega)]at h⊢;simpa using h
 have f:∀(listed:Array Bool),(∀j,k<=j->j<ops.size->listed.getD j true=false)->ops.size - k<=(List.range ops.size).countP (fun i=> !listed.getD i true):=by
  intro listed A;have B:(List.range ops.size).countP (fun i=>decide (k<=i))<=(List.range ops.size).countP (fun i=> !listed.getD i true):=by
   apply oH
   intro x U hp;rw[A x (by simpa using hp) (bE.1 U)];rfl
  have Y:∀n,n - k<=(List.range n).countP (fun i=>decide (k<=i)):=by
   intro n;induction n with
   |zero=>simp
   |succ n ih=>
    rw[fI,Si];by_cases h:k<=n
    ·simp[h];omega
    omega
  exact ax (Y _) B
 intro fuel;induction fuel with
 |zero=>
  intro listed a w u z M A E;have a2:k=ops.size:=by have:=f listed A;omega
  have b:∀j,j<k->listed.getD j false=true:=by
   intro j W;cases hl:listed.getD j true with
   |true=>exact conv u.size (by omega) hl
   |false=>
    exfalso;have ad:0<(List.range ops.size).countP (fun i=> !listed.getD i true):=Dp.2 ⟨j,bE.2 (by omega),by rw[hl];rfl⟩;omega
  exact wpAny_tail g C 0 k listed a w (ae _) N u b A (by omega) (done a w listed z M b)
 |succ fuel ih=>
  intro listed a w u z M A E;by_cases b:∀j,j<k->listed.getD j false=true
  ·exact wpAny_tail g C _ k listed a w (ae _) N u b A (by have:=f listed A;omega) (done a w listed z M b)
  obtain⟨O,V⟩:=RX.1 b;obtain⟨ag,y⟩:=Sk.1 V;refine⟨fun hr=>absurd (all_listed u.size C hr (O+1) O (by omega) (by omega)) y,fun i hi=>?_⟩;obtain⟨B,Y,T⟩:=ready_mem hi;have s:ops[i]? =some (ops[i]'B):=bF B;generalize ops[i]'B=o at s;have Z:i<k:=by
   rcases dB i k with h|h
   ·exact h
   exfalso;have hcv:=cL.1 g i (bE.2 B);simp only[df,aV]at hcv;rcases hcv with hcv|hcv
   ·omega
   exact y (reach_listed u _ i O o s (T o s) (cL.1 hcv O (bE.2 (by omega))))
  have m:=steps i o Z s a w z.grows
   (fun t ht=>by simp only[au];rw[z.old t ht])
   (fun d hd=>by
     unfold deps at hd;obtain⟨e,he,c⟩:=eE.1 hd;unfold depOf at c;by_cases R:Region.binds .any e=true
     ·rw[aj R]at c;cases D:ops[e.on]? with
      |none=>rw[D]at c;cases c
      |some oj=>
       rw[D]at c;exact z.new e.on oj d D (T o s e (by simpa using he) R) c
     rw[af R]at c;cases c) M
  have r:(List.range ops.size).countP (fun j=> !(listed.setIfInBounds i true).getD j true)<=fuel:=by
   have ap:=countP_less (p:=fun j=> !listed.getD j true) (i:=i) (l:=List.range ops.size) (bE.2 B) (by rw[Y];rfl);have ar:(List.range ops.size).countP (fun j=> !(listed.setIfInBounds i true).getD j true)=(List.range ops.size).countP (fun x=>(!listed.getD x true)&&x != i):=by
    apply tE
    intro x U;have a1:x<ops.size:=bE.1 U;by_cases e:x=i
    ·subst e;simp[au,u.size,B]
    simp only[au];rw[aW (fun h=>e h.symm)];simp[e]
   omega
  have H:=u.set_ s (T o s);have L:∀j,k<=j->j<ops.size->(listed.setIfInBounds i true).getD j true=false:=fun j X ab=>by
   have:=A j X ab;simp only[au]at this⊢;rwa [aW (by omega)]
  unfold wpOp;simp only[s];by_cases hw:Region.wanted o (yielded ops a.tmps)=true
  ·rw[aj hw]at m⊢;refine .inl (jE (fun a' w' N=>?_) m);obtain⟨v,rfl,hv,hg,W⟩:=N;exact ih _ _ _ H (z.put q G s hg hv) W L r
  rw[af hw]at m⊢;exact ih _ _ _ H (z.put q G s (aS.refl _) m.1) m.2 L r
def StepsTo(P:Program)(ops:Array Oper)(Q:Exit->Act->Ub->Prop)(F:Tmp->Uc->Ub->Prop)(J:Act->Ub->Prop)(a0:Act)(w0:Ub):Nat->List Oper->Prop
 |0,_=>True
 | _, [] => True
 |n+1,o::l=>StepJ P ops Q F J a0 w0 o/\StepsTo P ops Q F J a0 w0 n l
theorem stepsTo_of{F:Tmp->Uc->Ub->Prop}{J:Act->Ub->Prop}{a0:Act}{w0:Ub}:∀{n:Nat} {l:List Oper},StepsTo P ops Q F J a0 w0 n l->∀i o,i<n->l[i]? =some o->StepJ P ops Q F J a0 w0 o
 |0,_,_,i,_,c,_=>absurd c (by omega)
 |n+1,[],_,i,o,_,a=>by simp at a
 |n+1,x::l,h,i,o,c,a=>by
  have b:StepJ P ops Q F J a0 w0 x/\StepsTo P ops Q F J a0 w0 n l:=h;cases i with
  |zero=>simp at a;subst a;exact b.1
  |succ i=>exact stepsTo_of b.2 i o (by omega) (by simpa using a)
theorem put_other{a:Act}{d t:Nat}{v:Uc}(h:d≠t):(a.put (some d) v).tmps.getD t undef=a.tmps.getD t undef:=by
 simp only[Act.put,au];rw[aW h]
end Any
namespace Any
variable {P:Program}
theorem wp_region_tailD{O:Nat}{Q:Exit->Act->Ub->Prop}{l:List Oper}{a0:Act}{w:Ub}(k:Nat)(T:P.follows .mixedOrders=true)(S:Tmp->Kd)(J:Act->Ub->Prop)(C:J a0 w.drew)(D H:List Tmp)(G:dsts l.toArray=D)(y:dsts (l.take k).toArray=H)
  (z:D.all (fun d=>decide (d<a0.tmps.size))=true)(g:backB l.toArray=true)(n:coverB l.toArray k=true)(N:k<=l.length)
  (steps:StepsTo P l.toArray Q (fun d v w=>(S d).sat v w) J a0 w.drew k l)
  (done:∀(f:Tmp->Uc) (w':Ub),aS w.drew w'->(∀d,H.contains d=true->(S d).sat (f d) w')->wpList P l.toArray Q (l.drop k) {tmps:=fill f D a0.tmps,defers:=a0.defers} w'):
  (Code.region O l.toArray true).wp P Q a0 w:=by
 refine Jd T ?_;have q:∀d∈dsts l.toArray,d<a0.tmps.size:=fun d x=>by
  rw[G]at x;simpa using cL.1 z d x
 refine wpAny_head (k:=k) (F:=fun d v w=>(S d).sat v w) (J:=J) (a0:=a0) (w0:=w.drew) n (fun d v w w' M h=>(S d).mono v w w' M h) q (back_of g) (by simpa using N) (fun i o R A=>stepsTo_of steps i o R (by simpa using A)) (fun a w' listed B m s=>?_) _ _ _ _ ⟨by simp,fun j oj m r=>?_⟩ ?_ C (fun j U L=>by simp only[au,cw,aj L];rfl) ?_
 ·have t:=B.shape;rw[G]at t;rw[t];have:=done (fun d=>a.tmps.getD d undef) w' B.grows (fun d x=>?_)
  ·simpa using this
  have u:d∈dsts (l.take k).toArray:=by rw[y];simpa using x
  unfold dsts at u;obtain⟨o,A,E⟩:=eE.1 u;obtain⟨j,m⟩:=pP A;have b:(l.take k)[j]? =some o:=by simpa using m
  rw[eS]at b;by_cases c:j<k
  ·rw[aj c]at b;exact B.new j o d (by simpa using b) (s j c) E
  rw[af c]at b;cases b
 ·have e:j<l.toArray.size:=(aL.1 m).1;simp only[au,cw,aj e]at r;cases r
 ·refine⟨aS.refl _,rfl,rfl,fun _ _=>rfl,fun j oj d m r=>?_⟩;have e:j<l.toArray.size:=(aL.1 m).1;simp only[au,cw,aj e]at r;cases r
 have:=kO (p:=fun i=> !(Array.replicate l.toArray.size false).getD i true) (l:=List.range l.toArray.size);simpa using this
def Slot(t:Nat)(v:Uc)(a:Act)(w:Ub):Prop:=a.tmps.getD t undef=v
theorem sj{ops:Array Oper}{Q:Exit->Act->Ub->Prop}{S:Tmp->Kd}{a0:Act}{w0:Ub}{o:Oper}{t:Nat}{v:Uc}{d:Nat}(c:o.dst=some d)(b:d≠t)(h:St P ops Q S a0 w0 o):StepJ P ops Q (fun d v w=>(S d).sat v w) (Slot t v) a0 w0 o:=
 stepJ_of h (fun a w u w' e _=>by rw[c];exact(put_other b).trans e)
theorem sj_move{ops:Array Oper}{Q:Exit->Act->Ub->Prop}{S:Tmp->Kd}{a0:Act}{w0:Ub}{o:Oper}{t:Nat}{v:Uc}{d:Nat}(g:o.guard=none)(i:o.op=.move (.tmp t))(e:o.dst=some d)(c:d≠t)(j:S d=.eq v):StepJ P ops Q (fun d v w=>(S d).sat v w) (Slot t v) a0 w0 o:=by
 intro a w l k n f;rw[aj (by simp[Region.wanted,g])];unfold Oper.wp;rw[run_copy (.inl i)];refine⟨_,rfl,fun m b=>?_,aS.refl _,?_⟩
 ·rw[e]at b;cases b;rw[j];exact f
 rw[e];exact(put_other c).trans f
theorem sx_load_at{ops:Array Oper}{Q:Exit->Act->Ub->Prop}{S:Tmp->Kd}{a0:Act}{w0:Ub}{o:Oper}(d t:Tmp)(ty:TypeId)(p:Addr)(v:Uc)(i:Runs ops S o)(j:o.op=.load ty (.tmp t))(f:o.dst=some d)(g:(deps ops o).contains t=true)(c:S t=.eq (TZ (some p)))
  (e:w0.cell? p=some v)(k:∀w:Ub,w.cell? p=some v->(Instr.loadAt ty (TZ (some p))).run P w=.ok v w)(l:S d=.eq v):St P ops Q S a0 w0 o:=
 st_run i fun a w b=>wp_value d f (v:=v) (by
  have e1:=b.at t g;rw[c]at e1;have e2:a.eval (.tmp t)=TZ (some p):=e1;unfold execOp;simp only[j,e2,aY,k w ((b.grows.cell (fM e)).trans e),Result.andThen];rfl) (by rw[l];rfl)
theorem sx_load_mid{ops:Array Oper}{Q:Exit->Act->Ub->Prop}{S:Tmp->Kd}{a0:Act}{w0:Ub}{o:Oper}(d t:Tmp)(ty:TypeId)(g b:Nat)(cs:List Uc)(k:TypeDesc)(q:Runs ops S o)(r:o.op=.load ty (.tmp t))(l:o.dst=some d)(m:(deps ops o).contains t=true)(f:S t=.eq (TZ (some ⟨g,b,none⟩)))
  (n:g<w0.heap.size)(y:w0.rangeAt g b cs)(s:P.underlying ty=some k)(e:k.isRow=true)(u:(P.info? ty).map (·.size)=some cs.length)(x:S d=.eq (T1 cs.toArray)):St P ops Q S a0 w0 o:=
 st_run q fun a w c=>wp_value d l (v:=T1 cs.toArray) (by
  have e1:=c.at t m;rw[f]at e1;have e2:a.eval (.tmp t)=TZ (some ⟨g,b,none⟩):=e1;have i:w.rangeAt g b cs:=fun j v hv=>(c.grows.cell (p:=⟨g,b+j,none⟩) n).trans (y j v hv)
  unfold execOp;simp only[r,e2,aY,run_loadAt_mid w g b ty cs k i s e u,Result.andThen];rfl) (by rw[x];rfl)
theorem sx_one{ops:Array Oper}{Q:Exit->Act->Ub->Prop}{S:Tmp->Kd}{a0:Act}{w0:Ub}{o:Oper}(d t:Tmp)(u v:Uc)(f:Runs ops S o)(c:o.dst=some d)(e:(deps ops o).contains t=true)(b:S t=.eq u)
  (g:∀(a:Act) (w:Ub),a.eval (.tmp t)=u->(execOp a.eval o).run P w=.ok (.value v) w)(i:S d=.eq v):St P ops Q S a0 w0 o:=
 st_run f fun a w j=>wp_value d c (v:=v) (g a w (by have e1:=j.at t e;rw[b]at e1;exact e1)) (by rw[i];rfl)
theorem sx_two{ops:Array Oper}{Q:Exit->Act->Ub->Prop}{S:Tmp->Kd}{a0:Act}{w0:Ub}{o:Oper}(d t b:Tmp)(u u2 v:Uc)(k:Runs ops S o)(i:o.dst=some d)(j:(deps ops o).contains t=true)(f:(deps ops o).contains b=true)(c:S t=.eq u)(e:S b=.eq u2)
  (l:∀(a:Act) (w:Ub),a.eval (.tmp t)=u->a.eval (.tmp b)=u2->(execOp a.eval o).run P w=.ok (.value v) w)(m:S d=.eq v):St P ops Q S a0 w0 o:=
 st_run k fun a w g=>wp_value d i (v:=v) (l a w (by have e1:=g.at t j;rw[c]at e1;exact e1) (by have e1:=g.at b f;rw[e]at e1;exact e1)) (by rw[m];rfl)
theorem sx_builtSlice{ops:Array Oper}{Q:Exit->Act->Ub->Prop}{S:Tmp->Kd}{a0:Act}{w0:Ub}{o:Oper}(d:Tmp)(t e:TypeId)(b size:Nat)(parts:Array (Nat×Operand))(vals:Array (Nat×Uc))(cells:List Uc)(j:Runs ops S o)(l:o.op=.buildSlice t b parts)(f:o.dst=some d)
  (k:∀(a:Act) (w:Ub),Ctx ops S a0 w0 o a w->(parts.map fun(i,x)=>(i,a.eval x))=vals)(g:∀w,(Instr.buildSlice t b vals).run P w=.ok (T0 (some ⟨w.heap.size,0,none⟩) b b) (w.alloc (Ua cells.toArray e)))(m:cells.length=b*size)
  (n:S d=.row size b cells):St P ops Q S a0 w0 o:=
 st_run j fun a w p=>by
  unfold Oper.wp execOp;simp only[l,k a w p,aY,g w,bd];refine⟨_,rfl,fun q c=>?_,(aS.refl w).alloc _⟩;rw[f]at c;cases c;rw[n];exact⟨_,_,rfl,(gZ w cells e size b m).more (by simp)⟩
end Any
theorem xp:(prog.info? 5).map (fun i=>(i.zero,i.size,i.bytes))=some (some (TY .u8 0),1,1):=by kernel_rfl
def kz(l:List Nat)(w:Ub)(e:Ending)(w':Ub):Prop:=
 ∃v,e=.returned v/\w'.ownsRow w.heap.size 5 1 v l.length (dN l)/\Below w.heap.size w w'
theorem pw(l:List Nat):∀u∈dN l,u.oneCell'=true:=by
 intro u a;unfold dN at a;obtain⟨n,_,rfl⟩:=bt.1 a;rfl
theorem Lk(w:Ub)(e:TypeId):(w.alloc (Ua #[] e)).ownsRow w.heap.size e 1 (T0 (some ⟨w.heap.size,0,none⟩) 0 0) 0 []:=
 ⟨by simp,.inr ⟨w.heap.size,0,#[],rfl,ae _,cq w _,ae _,by simp[maxLen],rfl,by simp⟩⟩
theorem Ll(l:List Nat)(A:Option Addr)(n c:Nat)(w:Ub)(b:bh w w.heap.size 1 A n (dN l))(t:n<=1000000):
  Calls prog 117 #[T0 A n c] w (kz l w):=by
 obtain⟨i0,o,f,i,j⟩:=cZ xp;have m:n=l.length:=by have:=b.1;rw[fP]at this;omega
 rcases A with _|ad
 ·have h0:n=0:=by
    rcases fG n with h0|h0
    ·exact h0
    obtain⟨ad,e,_⟩:=b.2 h0;cases e
  have d:l=[]:=cI (by omega);subst d;subst h0;clear m b t;have r:∀W,(binOp .eql 37 (T0 none 0 c) (T0 none 0 0)).run prog W=.ok (T2 true) W:=fun W=>Lib.run_eql_slice_nil (P:=prog) W 37 5 none 0 c 0 0 underlying37
  go_enter func117,ntmps117;go_wp2_with fail;go_ret;exact⟨_,rfl,aX _ _ _ _,aw _ _⟩
 have s:=Lib.hid m;clear m;have r:∀W,(binOp .eql 37 (T0 (some ad) n c) (T0 none 0 0)).run prog W=.ok (T2 false) W:=fun W=>Lib.run_eql_slice_nil (P:=prog) W 37 5 (some ad) n c 0 0 underlying37
 go_enter func117,ntmps117;go_wp2_with (at_builtin;refine cU _ rfl (.tmp 5) (.tmp 6) 37 rfl w.heap.size 5 i0 _ 1 1 underlying37 o f i j rfl (by omega) _ 0 [] rfl (Lk w 5) w.heap.size (some ad) n c (dN l) rfl (b.alloc (ae _) _) (pw l) (by simp only[maxLen];omega) (by omega) (by simp) ?_;intro v3 u a g p);go_wp2_with fail;go_ret;exact⟨_,rfl,by rw[<-s.out];simpa using a,((aw _ w).alloc (ae _) _).grown g (by simp) (fun k q=>by cases q;exact ae _)⟩
theorem JK{P:Program}{c:Code}{Q:Exit->Act->Ub->Prop}{a:Act}{w:Ub}{d e:Array Uc}{b f:TypeId}(h:∀W,bK W w.heap.size b d->bK W (w.heap.size+1) f e->Below w.heap.size w W->W.heap.size=w.heap.size+2->Code.wp P c Q a W):Code.wp P c Q a ((w.alloc (Ua d b)).alloc (Ua e f)):=by
 refine h _ ((bK.new w b d).alloc _) ?_ (((aw _ _).alloc (ae _) _).alloc (by simp) _) (by simp);have:=bK.new (w.alloc (Ua d b)) f e;rwa [cE]at this
theorem uf{P:Program}{c:Code}{Q:Exit->Act->Ub->Prop}{a:Act}{w:Ub}{d f j:Array Uc}{b g i:TypeId}(h:∀W,bK W w.heap.size b d->bK W (w.heap.size+1) g f->bK W (w.heap.size+1+1) i j->Below w.heap.size w W->W.heap.size=w.heap.size+3->Code.wp P c Q a W):Code.wp P c Q a (((w.alloc (Ua d b)).alloc (Ua f g)).alloc (Ua j i)):=by
 refine JK (w:=w.alloc (Ua d b)) fun W b1 k e l=>?_
 rw[cE]at b1 k e l;have m:Below w.heap.size w W:=((aw _ w).alloc (ae _) _).trans (e.mono (tH _));exact h W ((bK.new w b d).below e (Nat.lt_succ_self _)) b1 k m l
theorem uX(w:Ub):Calls prog 175 #[] w fun e w'=>e=.returned (.map (some w.heap.size))/\w'=w.alloc (.map (IntMaps.lit T9 kU) kU.length):=by
 go_enter func175,ntmps175;go_wp2_with (first|refine IntMaps.wpList_make rfl 299 rfl T9 w ?_|refine IntMaps.wpList_insert rfl 299 (.tmp 1) T9 _ _ rfl _ _ underlying299 underlying127 w _ (by decide) rfl (by decide) ?_);go_ret;exact⟨rfl,rfl⟩
theorem Ep(w:Ub):Calls prog 176 #[] w fun e w'=>e=.returned (.map (some w.heap.size))/\w'=w.alloc (.map (IntMaps.lit T9 sa) sa.length):=by
 go_enter func176,ntmps176;go_wp2_with (first|refine IntMaps.wpList_make rfl 299 rfl T9 w ?_|refine IntMaps.wpList_insert rfl 299 (.tmp 1) T9 _ _ rfl _ _ underlying299 underlying127 w _ (by decide) rfl (by decide) ?_);go_ret;exact⟨rfl,rfl⟩
theorem qB(w:Ub):(zeroValue 153).run prog w=.ok (TY T6 0) w:=by kernel_rfl
theorem Np(w:Ub)(o p:Obj):((w.alloc o).alloc p).heap[w.heap.size+1]? =some p:=by
 have:=cq (w.alloc o) p;rwa [cE]at this
theorem Qy(c:Int)(w:Ub)(d:(Lit.int T9 c).wf=true)(k:Int)(a:IntMaps.look kU c=some (TY T6 k)):TV 105 #[TY T9 c] w (T4 #[TY T6 k,T2 false,T2 true]):=by
 have b:=Lib.hid a;clear a;go_enter func105,ntmps105;go_wp2_with (first
  |(go_at_call 175;refine(uX _).mono ?_;rintro e w' ⟨rfl,rfl⟩)
  |(refine IntMaps.wpList_lookup rfl 299 (.tmp 6) (.tmp 7) rfl _ _ T9 underlying299 underlying127 _ w.heap.size kU kU.length c _ _ rfl rfl d qB (cq _ _) b.out ?_))
 go_ret3
 exact⟨rfl,(aw _ _).alloc (ae _) _⟩
theorem Qz(c:Int)(w:Ub)(j:(Lit.int T9 c).wf=true)(f:(Lit.int T9 (bits .andNot T9 c 8)).wf=true)(b:IntMaps.look kU c=none)(k:Int)(a:IntMaps.look sa (bits .andNot T9 c 8)=some (TY T6 k)):
  TV 105 #[TY T9 c] w (T4 #[TY T6 k,T2 (bits .and T9 c 8 != 0),T2 true]):=by
 have i:=Lib.hid b;clear b;have g:=Lib.hid a;clear a;generalize d:bits .andNot T9 c 8=x at*;have l:=Lib.hid d;clear d;go_enter func105,ntmps105;go_wp2_with (first
  |(go_at_call 175;refine(uX _).mono ?_;rintro e w' ⟨rfl,rfl⟩)
  |(refine IntMaps.wpList_lookup rfl 299 (.tmp 6) (.tmp 7) rfl _ _ T9 underlying299 underlying127 _ w.heap.size kU kU.length c _ _ rfl rfl j qB (cq _ _) i.out ?_)
  |(refine IntMaps.wpList_lookup rfl 299 (.tmp 14) (.tmp 16) rfl _ _ T9 underlying299 underlying127 _ (w.heap.size+1) sa sa.length x _ _ rfl (eQ (Value.int T9) l.out) f qB (Np _ _ _) g.out ?_)
  |(go_at_call 176;refine(Ep _).mono ?_;rintro e w' ⟨rfl,rfl⟩))
 go_ret3
 exact⟨rfl,((aw _ _).alloc (ae _) _).alloc (by simp) _⟩
theorem Nq(c:Int)(w:Ub)(j:(Lit.int T9 c).wf=true)(f:(Lit.int T9 (bits .andNot T9 c 8)).wf=true)(b:IntMaps.look kU c=none)(a:IntMaps.look sa (bits .andNot T9 c 8)=none):
  TV 105 #[TY T9 c] w (T4 #[TY T6 0,T2 false,T2 false]):=by
 have i:=Lib.hid b;clear b;have g:=Lib.hid a;clear a;generalize d:bits .andNot T9 c 8=x at*;have k:=Lib.hid d;clear d;go_enter func105,ntmps105;go_wp2_with (first
  |(go_at_call 175;refine(uX _).mono ?_;rintro e w' ⟨rfl,rfl⟩)
  |(refine IntMaps.wpList_lookup rfl 299 (.tmp 6) (.tmp 7) rfl _ _ T9 underlying299 underlying127 _ w.heap.size kU kU.length c _ _ rfl rfl j qB (cq _ _) i.out ?_)
  |(refine IntMaps.wpList_lookup rfl 299 (.tmp 14) (.tmp 16) rfl _ _ T9 underlying299 underlying127 _ (w.heap.size+1) sa sa.length x _ _ rfl (eQ (Value.int T9) k.out) f qB (Np _ _ _) g.out ?_)
  |(go_at_call 176;refine(Ep _).mono ?_;rintro e w' ⟨rfl,rfl⟩))
 go_ret3
 exact⟨rfl,((aw _ _).alloc (ae _) _).alloc (by simp) _⟩
def Ph(c:Nat)(w:Ub)(e:Ending)(w':Ub):Prop:=e=.returned (T4 #[TY T6 ((oy c).1:Nat),T2 (oy c).2,T2 ((((oy c).1:Nat):Int) != 0)])/\Below w.heap.size w w'
theorem yz(c:Nat)(n:c<65536)(w:Ub):Calls prog 105 #[TY T9 c] w fun e w'=>
  e=.returned (T4 #[TY T6 ((oy c).1:Nat),T2 (oy c).2,T2 ((oy c).1 != 0)])/\Below w.heap.size w w':=by
 have f:(Lit.int T9 (c:Int)).wf=true:=by go_wf
 have o:=DT c;by_cases k:sc c=0
 ·have g:IntMaps.look kU c=none:=by rw[DR];unfold Js;rw[aj k]
  obtain⟨d,l,p⟩:∃d,d=(if c / 8 % 2=1 then c - 8 else c)/\d<65536:=⟨_,rfl,by split<;>omega⟩;have m:bits .andNot T9 (c:Int) 8=(d:Int):=by rw[OW c n,l]
  have i:(Lit.int T9 (bits .andNot T9 (c:Int) 8)).wf=true:=by rw[m];go_wf
  by_cases b:qn d=0
  ·refine(Nq c w f i g (by rw[m,DS];unfold Jt;rw[aj b])).mono ?_;rintro e w' ⟨rfl,j⟩;refine⟨?_,j⟩;have:oy c=(0,false):=by
    unfold oy;rw[af (by omega)];subst l;by_cases a:c / 8 % 2=1
    ·rw[aj a]at b⊢;rw[b];rfl
    rw[af a]at b⊢;rw[b]
   rw[this];rfl
  refine(Qz c w f i g (qn d) (by rw[m,DS];unfold Jt;rw[af b])).mono ?_;rintro e w' ⟨rfl,j⟩;refine⟨?_,j⟩;have:oy c=(qn d,decide (c / 8 % 2=1)):=by
   unfold oy;rw[af (by omega)];subst l;by_cases a:c / 8 % 2=1
   ·rw[aj a]at b⊢;rw[aj a];simp[b,a]
   rw[af a]at b⊢;rw[af a];simp[a]
  rw[this,RL c n];simp[b]
 refine(Qy c w f (sc c) (by rw[DR];unfold Js;rw[af k])).mono ?_;rintro e w' ⟨rfl,j⟩;refine⟨?_,j⟩;have:oy c=(sc c,false):=by unfold oy;rw[aj k]
 rw[this];simp[k]
theorem ub(c:Nat)(d:c<65536)(w:Ub):Calls prog 105 #[TY T9 c] w (Ph c w):=
 (yz c d w).mono fun e w' ⟨a,b⟩=>⟨by
   have:((((oy c).1:Nat):Int) != 0)=((oy c).1 != 0):=by
    rw[aZ];simp
   rw[a,this],b⟩
end
end Go.Proofs.YtfammloeljmplaaGreatDoor
