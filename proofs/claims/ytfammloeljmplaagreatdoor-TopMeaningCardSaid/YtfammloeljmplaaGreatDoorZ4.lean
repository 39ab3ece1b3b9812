/- The assembler in plain Lean; small walks; conditions: each lemma's own. -/
import Derived.BigRegion
import Derived.Deep.OwnRows
import Derived.Test.YtfammloeljmplaaGreatDoorZ0
import Derived.Test.YtfammloeljmplaaGreatDoorZ3
open Go.Value renaming int->TY,pointer->TZ,slice->T0,agg->T1,bool->T2,tuple->T4
open Go.IntKind renaming i64->T6,u32->T7,u64->T8,u16->T9
open Go.Obj renaming cells->Ua
open Go renaming World->Ub,Value->Uc
namespace Go.Proofs.YtfammloeljmplaaGreatDoor
open Go.Proofs.Tryz
set_option maxRecDepth 100000
set_option maxHeartbeats 8000000
set_option linter.unusedVariables false
set_option linter.unusedSimpArgs false
section
structure It where
 mark:Int
 code:Nat
 k:Nat
 tr:Int
 fa:Int
 deriving DecidableEq,Inhabited
def It.kd(x:It):Nat:=(oy x.code).1
theorem It.kd_le(x:It):x.kd<=28:=Gy _
def pa(l:List It)(m:Int)(j:Nat):Prop:=m≠0/\j<l.length/\∀p,p<l.length->((l.getD p default).mark=m↔p=j)
theorem pa.eq{l:List It}{m:Int}{j k:Nat}(h:pa l m j)(a:pa l m k):j=k:=(a.2.2 j h.2.1).1 ((h.2.2 j h.2.1).2 rfl)
def uK(l:List It)(i:Nat):Prop:=
 if(l.getD i default).mark≠0 then 0<(l.getD i default).mark/\pa l (l.getD i default).mark i/\(l.getD i default).code=0/\(l.getD i default).k=0/\(l.getD i default).tr=0/\(l.getD i default).fa=0
 else(l.getD i default).kd≠0/\((l.getD i default).tr≠0->((l.getD i default).kd=13\/25<=(l.getD i default).kd)/\∃j,i<j/\pa l (l.getD i default).tr j)/\
  ((l.getD i default).fa≠0->25<=(l.getD i default).kd/\∃j,i<j/\pa l (l.getD i default).fa j)
def AO(l:List It):Prop:=l≠[]/\(l.getD (l.length - 1) default).mark=0/\fH (l.getD (l.length - 1) default).kd
def fZ(l:List It):Prop:=(∀i,i<l.length->uK l i)/\AO l
def MN(l:List It)(i:Nat)(m:Int):Prop:=∃j,i<=j/\j<l.length/\(l.getD j default).mark=m
def Gr(l:List It)(i:Nat):Prop:=
 if(l.getD i default).mark≠0 then 0<(l.getD i default).mark/\¬MN l (i+1) (l.getD i default).mark/\(l.getD i default).code=0/\(l.getD i default).k=0/\(l.getD i default).tr=0/\(l.getD i default).fa=0
 else(l.getD i default).kd≠0/\((l.getD i default).tr≠0->((l.getD i default).kd=13\/25<=(l.getD i default).kd)/\MN l (i+1) (l.getD i default).tr)/\
  ((l.getD i default).fa≠0->25<=(l.getD i default).kd/\MN l (i+1) (l.getD i default).fa)
theorem qk{l:List It}(h:∀i,i<l.length->Gr l i){m:Int}(f:m≠0){j:Nat}(g:j<l.length)(d:(l.getD j default).mark=m):pa l m j:=by
 refine⟨f,g,fun p q=>⟨fun e=>?_,fun e=>by subst e;exact d⟩⟩;have key:∀a b,a<b->b<l.length->(l.getD a default).mark=m->(l.getD b default).mark=m->False:=fun a b n o k c=>by
  have h1:=h a (by omega);unfold Gr at h1;rw[aj (by rw[k];exact f)]at h1;exact h1.2.1 ⟨b,by omega,o,by rw[c,k]⟩
 rcases tD p j with h1|h1|h1
 ·exact(key p j h1 g e d).elim
 ·exact h1
 exact(key j p h1 q d e).elim
theorem DH{l:List It}(h:∀i,i<l.length->Gr l i)(i:Nat)(k:i<l.length):uK l i:=by
 have e:=h i k;unfold Gr at e;unfold uK;split at e
 ·rename_i g;rw[aj g];exact⟨e.1,qk h g k rfl,e.2.2⟩
 rename_i g;rw[af g];refine⟨e.1,fun f=>?_,fun f=>?_⟩
 ·obtain⟨a,j,b,c,d⟩:=e.2.1 f;exact⟨a,j,by omega,qk h f c d⟩
 obtain⟨a,j,b,c,d⟩:=e.2.2 f;exact⟨a,j,by omega,qk h f c d⟩
theorem DI{l:List It}(i:Nat)(g:i<l.length)(d:uK l i):Gr l i:=by
 unfold uK at d;unfold Gr;split at d
 ·rename_i e;rw[aj e];refine⟨d.1,fun⟨j,a,b,c⟩=>?_,d.2.2⟩;have:=(d.2.1.2.2 j b).1 c;omega
 rename_i e;rw[af e];refine⟨d.1,fun f=>?_,fun f=>?_⟩
 ·obtain⟨a,j,b,c⟩:=d.2.1 f;exact⟨a,j,by omega,c.2.1,(c.2.2 j c.2.1).2 rfl⟩
 obtain⟨a,j,b,c⟩:=d.2.2 f;exact⟨a,j,by omega,c.2.1,(c.2.2 j c.2.1).2 rfl⟩
theorem xH(l:List It):((∀i,i<l.length->Gr l i)/\AO l)↔fZ l:=
 ⟨fun h=>⟨fun i a=>DH h.1 i a,h.2⟩,fun h=>⟨fun i a=>DI i a (h.1 i a),h.2⟩⟩
def Jo(l:List It)(m:Int)(j:Nat):Bool:=decide (m≠0)&&(decide (j<l.length)&&(List.range l.length).all fun p=>decide ((l.getD p default).mark=m↔p=j))
theorem AP(l:List It)(m:Int)(j:Nat):Jo l m j=true↔pa l m j:=by
 unfold Jo pa;simp only[bG,aV,cL,bE]
def Gs(l:List It)(m:Int):Option Nat:=(List.range l.length).find? (Jo l m)
theorem DJ{l:List It}{m:Int}{j:Nat}(h:pa l m j):Gs l m=some j:=by
 unfold Gs;cases e:(List.range l.length).find? (Jo l m)with
 |none=>
  have:=dQ.1 e j (bE.2 h.2.1);exact absurd ((AP l m j).2 h) this
 |some k=>
  have:=kE e;rw[((AP l m k).1 this).eq h]
def dR(l:List It):List It:=l.filter fun x=>decide (x.mark=0)
def cnt(l:List It)(p:Nat):Nat:=(dR (l.take p)).length
theorem xE(a b:List It):dR (a++b)=dR a++dR b:=by unfold dR;rw[r7]
theorem MM(l:List It):cnt l 0=0:=rfl
theorem Gk(l:List It)(p:Nat)(h:p<l.length):l.take (p+1)=l.take p++[l.getD p default]:=by
 rw[dy h];simp[h]
theorem xF(l:List It)(p:Nat)(h:p<l.length):dR (l.take (p+1))=if(l.getD p default).mark=0 then dR (l.take p)++[l.getD p default]else dR (l.take p):=by
 rw[Gk l p h,xE];unfold dR;by_cases e:(l.getD p default).mark=0
 ·rw[aj e,fe,aj (by simpa using e)];rfl
 rw[af e,fe,af (by simpa using e)];simp
theorem mZ(l:List It)(p:Nat)(h:p<l.length):cnt l (p+1)=if(l.getD p default).mark=0 then cnt l p+1 else cnt l p:=by
 unfold cnt;rw[xF l p h];split<;>simp
theorem nZ(l:List It):cnt l l.length=(dR l).length:=by unfold cnt;rw[iW]
theorem xG(l:List It)(p:Nat)(h:p<=l.length):cnt l p<=p:=by
 unfold cnt dR;exact ax (RA _ _) (R7 _ _)
theorem DF(l:List It):∀(d p:Nat),p+d<=l.length->cnt l p<=cnt l (p+d)
 |0,p,_=>ae _
 |d+1,p,h=>by
  have:=DF l d p (by omega);have a:=mZ l (p+d) (by omega);rw[show p+(d+1)=p+d+1 by omega,a];split<;>omega
theorem AN(l:List It){p q:Nat}(h:p<=q)(a:q<=l.length):cnt l p<=cnt l q:=by
 obtain⟨d,rfl⟩:=Mv h;exact DF l d p a
theorem Gl(l:List It){p q:Nat}(h:p<q)(b:q<=l.length)(a:(l.getD p default).mark=0):cnt l p<cnt l q:=by
 have c:=mZ l p (by omega);rw[aj a]at c;have d:=AN l (show p+1<=q by omega) b;omega
theorem Gm(l:List It)(p:Nat)(h:p<l.length)(a:(l.getD p default).mark=0):(dR l).getD (cnt l p) default=l.getD p default:=by
 have e:dR l=dR (l.take (p+1))++dR (l.drop (p+1)):=by rw[<-xE,fl]
 rw[e,xF l p h,aj a];unfold cnt;rw[aa,bU (by simp),bY (by simp)];simp
theorem Kf(l:List It)(n:Nat)(f:n<(dR l).length):∃p,p<l.length/\(l.getD p default).mark=0/\cnt l p=n:=by
 have key:∀q,q<=l.length->n<cnt l q->∃p,p<q/\(l.getD p default).mark=0/\cnt l p=n:=by
  intro q;induction q with
  |zero=>intro _ h;rw[MM]at h;omega
  |succ q ih=>
   intro g h;have e:=mZ l q (by omega);by_cases d:n<cnt l q
   ·obtain⟨p,a,b⟩:=ih (by omega) d;exact⟨p,by omega,b⟩
   rw[e]at h;by_cases c:(l.getD q default).mark=0
   ·rw[aj c]at h;exact⟨q,by omega,c,by omega⟩
   rw[af c]at h;omega
 obtain⟨p,a,b⟩:=key l.length (ae _) (by rw[nZ];exact f);exact⟨p,a,b⟩
def Qp(l:List It)(m:Int):Nat:=match Gs l m with|some j=>cnt l j|none=>0
theorem uI{l:List It}{m:Int}{j:Nat}(h:pa l m j):Qp l m=cnt l j:=by unfold Qp;rw[DJ h]
def toN(l:List It)(n:Nat)(m:Int):Nat:=if m=0 then n+1 else Qp l m
def dY(l:List It)(n:Nat):Int:=if fH ((dR l).getD n default).kd then -1 else(toN l n ((dR l).getD n default).tr:Nat)
def jo(l:List It)(n:Nat):Int:=if 25<=((dR l).getD n default).kd then(toN l n ((dR l).getD n default).fa:Nat)else -1
section
variable {l:List It} (h:fZ l)
include h
theorem fZ.SP:0<(dR l).length/\(dR l).getD ((dR l).length - 1) default=l.getD (l.length - 1) default:=by
 obtain⟨b,a,d⟩:=h.2;have c:0<l.length:=fh.2 b;have e:=mZ l (l.length - 1) (by omega);rw[aj a,show l.length - 1+1=l.length by omega,nZ]at e;refine⟨by omega,?_⟩;rw[<-Gm l (l.length - 1) (by omega) a];congr 1;omega
theorem fZ.SY:fH ((dR l).getD ((dR l).length - 1) default).kd:=by rw[h.SP.2];exact h.2.2.2
theorem fZ.SR{n:Nat}(d:n<(dR l).length):∃p,p<l.length/\(l.getD p default).mark=0/\cnt l p=n/\l.getD p default=(dR l).getD n default/\uK l p:=by
 obtain⟨p,a,b,c⟩:=Kf l n d;exact⟨p,a,b,c,by rw[<-c,Gm l p a b],h.1 p a⟩
theorem fZ.TF{n:Nat}(c:n<(dR l).length):((dR l).getD n default).kd≠0:=by
 obtain⟨p,e,d,f,b,a⟩:=h.SR c;unfold uK at a;rw[af (by omega)]at a;rw[<-b];exact a.1
theorem fZ.target{n:Nat}(o:n<(dR l).length)(m:Int)(r:m=((dR l).getD n default).tr\/m=((dR l).getD n default).fa)(t:¬fH ((dR l).getD n default).kd):n<toN l n m/\toN l n m<(dR l).length:=by
 obtain⟨p,v,d,k,g,b⟩:=h.SR o;unfold toN;by_cases e:m=0
 ·rw[aj e];have:n≠(dR l).length - 1:=fun e2=>t (by rw[e2];exact h.SY)
  omega
 rw[af e];unfold uK at b;rw[af (by omega),g]at b;obtain⟨j,u,a⟩:∃j,p<j/\pa l m j:=by
  rcases r with rfl|rfl
  ·exact(b.2.1 e).2
  exact(b.2.2 e).2
 rw[uI a,<-k];have s:=Gl l u (by have:=a.2.1;omega) d;refine⟨s,?_⟩;have c:(l.getD j default).mark≠0:=by rw[(a.2.2 j a.2.1).2 rfl];exact e
 have f:j<l.length - 1:=by
  have:=a.2.1;by_cases e2:j=l.length - 1
  ·subst e2;exact absurd h.2.2.1 c
  omega
 have i:=Gl l (p:=l.length - 1) (q:=l.length) (by omega) (ae _) h.2.2.1;have x:=AN l (show j<=l.length - 1 by omega) (by omega);rw[nZ]at i;omega
theorem fZ.yes{n:Nat}(a:n<(dR l).length):dY l n= -1\/∃t:Nat,dY l n=(t:Int)/\n<t/\t<(dR l).length:=by
 unfold dY;by_cases e:fH ((dR l).getD n default).kd
 ·rw[aj e];exact .inl rfl
 rw[af e];exact .inr ⟨_,rfl,h.target a _ (.inl rfl) e⟩
theorem fZ.no{n:Nat}(a:n<(dR l).length):jo l n= -1\/∃t:Nat,jo l n=(t:Int)/\n<t/\t<(dR l).length:=by
 unfold jo;by_cases e:25<=((dR l).getD n default).kd
 ·rw[aj e];exact .inr ⟨_,rfl,h.target a _ (.inr rfl) (by unfold fH;omega)⟩
 rw[af e];exact .inl rfl
end
inductive pQ (l:List It):Nat->Prop
 |zero:pQ l 0
 |yes {n m:Nat}:pQ l n->n<(dR l).length->dY l n=(m:Int)->pQ l m
 |no {n m:Nat}:pQ l n->n<(dR l).length->jo l n=(m:Int)->pQ l m
def qi(l:List It)(k m:Nat):Prop:=m=0\/∃j,j<k/\pQ l j/\(dY l j=(m:Int)\/jo l j=(m:Int))
theorem fZ.SE{l:List It}(h:fZ l){k m:Nat}(g:m<=k)(d:k<=(dR l).length):pQ l m↔qi l k m:=by
 constructor
 ·intro a;cases a with
  |zero=>exact .inl rfl
  |@yes n _ c b hy=>
   right
   rcases h.yes b with e|⟨t,e,f,_⟩
   ·rw[hy]at e;omega
   rw[hy]at e;exact⟨n,by omega,c,.inl hy⟩
  |@no n _ c b hy=>
   right
   rcases h.no b with e|⟨t,e,f,_⟩
   ·rw[hy]at e;omega
   rw[hy]at e;exact⟨n,by omega,c,.inr hy⟩
 rintro(rfl|⟨j,i,a,hy|hy⟩)
 ·exact .zero
 ·exact .yes a (by omega) hy
 exact .no a (by omega) hy
def kI(l:List It)(a:List Bool)(k:Nat):List Bool:=
 if a.getD k false then
  let a1:=if dY l k= -1 then a else a.set (dY l k).toNat true
  if jo l k= -1 then a1 else a1.set (jo l k).toNat true
 else a
def fR(l:List It)(k:Nat):List Bool:=(List.range k).foldl (kI l) ((List.replicate ((dR l).length+1) false).set 0 true)
def reachB(l:List It)(n:Nat):Bool:=(fR l (dR l).length).getD n false
theorem uJ(l:List It)(a:List Bool)(k:Nat):(kI l a k).length=a.length:=by
 unfold kI;split
 ·simp only;split<;>split<;>simp
 rfl
theorem qj(l:List It)(k:Nat):(fR l k).length=(dR l).length+1:=by
 unfold fR;have key:∀(r:List Nat) (a:List Bool),(r.foldl (kI l) a).length=a.length:=by
  intro r;induction r with
  |nil=>intro a;rfl
  |cons x r ih=>intro a;rw[bC,ih,uJ]
 rw[key];simp
theorem o9(l:List It)(k:Nat):fR l (k+1)=kI l (fR l k) k:=by
 unfold fR;rw[fI,tC];rfl
theorem oK(a:List Bool)(i m:Nat)(b:i<a.length):(a.set i true).getD m false=(a.getD m false||decide (i=m)):=by
 simp only[aa,List.getElem?_set];by_cases e:i=m
 ·subst e;simp[b]
 simp[e]
theorem qi.succ{l:List It}{k m:Nat}:qi l (k+1) m↔qi l k m\/(pQ l k/\(dY l k=(m:Int)\/jo l k=(m:Int))):=by
 unfold qi;constructor
 ·rintro(h|⟨j,b,a⟩)
  ·exact .inl (.inl h)
  by_cases e:j=k
  ·subst e;exact .inr a
  exact .inl (.inr ⟨j,by omega,a⟩)
 rintro((h|⟨j,b,a⟩)|h)
 ·exact .inl h
 ·exact .inr ⟨j,by omega,a⟩
 exact .inr ⟨k,by omega,h⟩
theorem fZ.Sz{l:List It}(h:fZ l):∀k,k<=(dR l).length->∀m,m<=(dR l).length->((fR l k).getD m false=true↔qi l k m)
 |0,_,m,f=>by
  unfold fR qi;rw[OQ,bL,oK _ _ _ (by simp)];have:(List.replicate ((dR l).length+1) false).getD m false=false:=by simp[aa,List.getElem?_replicate];split<;>rfl
  rw[this];constructor
  ·intro e;left;simp at e;omega
  rintro(e|⟨j,q,_⟩)
  ·subst e;rfl
  omega
 |k+1,o,m,f=>by
  have ih:=fZ.Sz h k (by omega);have b:=qj l k;have c:(fR l k).getD k false=true↔pQ l k:=(ih k (by omega)).trans (h.SE (ae k) (by omega)).symm;rw[o9,qi.succ,<-ih m f];unfold kI;by_cases e:(fR l k).getD k false=true
  ·rw[aj e];have a:=c.1 e;simp only;rcases h.yes (n:=k) (by omega)with g|⟨t,g,_,i⟩<;>rcases h.no (n:=k) (by omega)with d|⟨u,d,_,p⟩<;>rw[g,d]
   ·rw[aj rfl,aj rfl];exact⟨.inl,fun x=>x.elim id fun⟨_,y⟩=>by omega⟩
   ·rw[aj rfl,af (by omega),oK _ _ _ (by omega)];simp only[df,aV,dI];constructor
    ·rintro(x|x)
     ·exact .inl x
     exact .inr ⟨a,.inr (by omega)⟩
    rintro(x|⟨_,x|x⟩)
    ·exact .inl x
    ·omega
    exact .inr (by omega)
   ·rw[aj rfl,af (by omega),oK _ _ _ (by omega)];simp only[df,aV,dI];constructor
    ·rintro(x|x)
     ·exact .inl x
     exact .inr ⟨a,.inl (by omega)⟩
    rintro(x|⟨_,x|x⟩)
    ·exact .inl x
    ·exact .inr (by omega)
    omega
   rw[af (by omega),af (by omega),oK _ _ _ (by simp;omega),oK _ _ _ (by simp;omega)];simp only[df,aV,dI];constructor
   ·rintro((x|x)|x)
    ·exact .inl x
    ·exact .inr ⟨a,.inl (by omega)⟩
    exact .inr ⟨a,.inr (by omega)⟩
   rintro(x|⟨_,x|x⟩)
   ·exact .inl (.inl x)
   ·exact .inl (.inr (by omega))
   exact .inr (by omega)
  rw[af e];exact⟨.inl,fun x=>x.elim id fun⟨y,_⟩=>absurd (c.2 y) e⟩
theorem fZ.Sq{l:List It}(h:fZ l){n:Nat}(a:n<=(dR l).length):reachB l n=true↔pQ l n:=
 (h.Sz _ (ae _) n a).trans (h.SE a (ae _)).symm
theorem fZ.SM{l:List It}(h:fZ l){n:Nat}(a:n<=(dR l).length):(fR l n).getD n false=reachB l n:=by
 rw[aZ,h.Sq a,h.Sz n a n a];exact(h.SE (ae n) a).symm
def sG(a:Nat->Nat):Nat->Nat
 |0=>0
 |n+1=>sG a n+a n
theorem rq(a:Nat->Nat):∀d n,sG a n<=sG a (n+d)
 |0,n=>ae _
 |d+1,n=>by have:=rq a d n;show _<=sG a (n+d)+a (n+d);omega
theorem Gn(c:Nat->Nat){a b:Nat}(h:a<=b):sG c a<=sG c b:=by
 obtain⟨d,rfl⟩:=Mv h;exact rq c d a
theorem Jm(a:Nat->Nat)(h:∀n,a n<=3):∀n,sG a n<=3*n
 |0=>ae _
 |n+1=>by have:=Jm a h n;have:=h n;show sG a n+a n<=_;omega
theorem DG(s t:Nat->Nat)(h:∀n,s n<=t n)(a:Nat):∀d,sG s (a+d) - sG s a<=sG t (a+d) - sG t a
 |0=>by simp
 |d+1=>by
  have e:=DG s t h a d;have b:=h (a+d);have f:=rq s d a;have c:=rq t d a;show sG s (a+d)+s (a+d) - _<=sG t (a+d)+t (a+d) - _
  omega
def wZ(l:List It)(F:Nat->Bool)(n:Nat):Nat:=if reachB l n then(if F n then 3 else 1)else 0
def plN(l:List It)(F:Nat->Bool)(n:Nat):Nat:=sG (wZ l F) n
theorem Gp(l:List It)(F:Nat->Bool)(n:Nat):wZ l F n<=3:=by unfold wZ;split<;>(try split)<;>omega
def wK(l:List It)(F:Nat->Bool)(n:Nat):Nat:=max (plN l F (dY l n).toNat) (plN l F (jo l n).toNat) - plN l F n - 1
def Br(l:List It)(n:Nat):Prop:=n<(dR l).length/\pQ l n/\25<=((dR l).getD n default).kd
def Closed(l:List It)(F:Nat->Bool):Prop:=∀n,Br l n->F n=false->wK l F n<=255
structure Laid(l:List It)(F:Nat->Bool):Prop where
 br:∀n,F n=true->Br l n
 closed:Closed l F
 least:∀G:Nat->Bool,Closed l G->∀n,F n=true->G n=true
theorem Jn{l:List It}{F G:Nat->Bool}(h:∀n,F n=true->G n=true){a b:Nat}(c:a<=b):plN l F b - plN l F a<=plN l G b - plN l G a:=by
 obtain⟨d,rfl⟩:=Mv c;refine DG _ _ (fun n=>?_) a d;unfold wZ;split
 ·cases e:F n with
  |true=>rw[h n e];exact ae _
  |false=>rw[af (by simp)];split<;>omega
 exact ae _
theorem Kg{l:List It}(d:fZ l){F G:Nat->Bool}(h:∀n,F n=true->G n=true){n:Nat}(i:Br l n):wK l F n<=wK l G n:=by
 obtain⟨c,_,g⟩:=i;have f:∃t:Nat,dY l n=(t:Int)/\n<t:=by
  rcases d.yes c with e|⟨t,e,a,_⟩
  ·exfalso;unfold dY at e;rw[af (by unfold fH;omega)]at e;omega
  exact⟨t,e,a⟩
 have b:∃t:Nat,jo l n=(t:Int)/\n<t:=by
  rcases d.no c with e|⟨t,e,a,_⟩
  ·exfalso;unfold jo at e;rw[aj g]at e;omega
  exact⟨t,e,a⟩
 obtain⟨t,e1,a⟩:=f;obtain⟨u,e2,j⟩:=b;unfold wK;rw[e1,e2];simp only[dI];have a1:=Jn (l:=l) h (show n<=t by omega);have a2:=Jn (l:=l) h (show n<=u by omega);omega
theorem Gq{l:List It}(b:fZ l){F:Nat->Bool}{G:Nat->Bool}(c:Closed l G)(h:∀n,F n=true->G n=true){n:Nat}(a:Br l n)(d:255<wK l F n):G n=true:=by
 cases e:G n with
 |true=>rfl
 |false=>
  have g:=c n a e;have f:=Kg b h a;omega
end
section
open Go.RowKit
theorem vN{α:Type}(f:α->List Uc)(s:Nat)(a:∀x,(f x).length=s)(l:List α):(l.flatMap f).length=l.length*s:=by
 induction l with
 |nil=>simp
 |cons i l ih=>rw[cB,bw,ih,aM,a,gE];omega
theorem jL{α:Type}(f:α->List Uc)(s:Nat)(a:∀x,(f x).length=s)(d:α)(l:List α)(k j:Nat)(b:k<l.length)(c:j<s):(l.flatMap f)[k*s+j]? =(f (l.getD k d))[j]? :=by
 induction l generalizing k with
 |nil=>simp at b
 |cons i l ih=>
  rw[cB];cases k with
  |zero=>
   rw[bU (by rw[a];omega)];simp
  |succ k=>
   rw[bY (by rw[a,gE];omega)];rw[show(k+1)*s+j - (f i).length=k*s+j by rw[a,gE];omega,ih k (by simpa using b)];simp
def It.Ok(x:It):Prop:=(-9223372036854775808<=x.mark/\x.mark<=9223372036854775807)/\x.code<65536/\x.k<4294967296/\(-9223372036854775808<=x.tr/\x.tr<=9223372036854775807)/\(-9223372036854775808<=x.fa/\x.fa<=9223372036854775807)
def It.vals(x:It):List Uc:=[TY T6 x.mark,TY T9 x.code,TY T7 x.k,TY T6 x.tr,TY T6 x.fa]
theorem It.Sn(x:It):x.vals.length=5:=rfl
def dq(l:List It):List Uc:=l.flatMap It.vals
theorem jr(l:List It):(dq l).length=l.length*5:=vN _ 5 It.Sn l
theorem zR(a b:List It):dq (a++b)=dq a++dq b:=by unfold dq;rw[bX]
theorem GA(l:List It):∀v∈dq l,v.oneCell'=true:=fun v hv=>by
 obtain⟨i,_,h⟩:=db.1 hv;simp only[It.vals,aP,bQ,eW]at h;rcases h with rfl|rfl|rfl|rfl|rfl<;>rfl
theorem oM{l:List It}(h:∀x∈l,x.Ok){k:Nat}(a:k<l.length):(l.getD k default).Ok:=by
 have:l.getD k default=l[k]:=by simp[a]
 rw[this];exact h _ (bj a)
theorem bh.TB{w:Ub}{B n:Nat}{A:Option Addr}{l:List It}(h:bh w B 5 A n (dq l)){k:Nat}(d:k<n):
  ∃b a,A=some ⟨b,a,none⟩/\b<B/\∀k,k<n->(w.cell? ⟨b,a+k*5,none⟩=some (TY T6 (l.getD k default).mark)/\w.cell? ⟨b,a+k*5+1,none⟩=some (TY T9 (l.getD k default).code)/\
   w.cell? ⟨b,a+k*5+2,none⟩=some (TY T7 (l.getD k default).k)/\w.cell? ⟨b,a+k*5+3,none⟩=some (TY T6 (l.getD k default).tr)/\w.cell? ⟨b,a+k*5+4,none⟩=some (TY T6 (l.getD k default).fa)):=by
 obtain⟨o,rfl,m,i⟩:=h.2 (by omega);have q:n=l.length:=by have:=h.1;rw[jr]at this;omega
 have g:=fun k (d:k<n) j (f:j<5)=>jL It.vals 5 It.Sn default l k j (by omega) f
 obtain⟨b,a,spot⟩:=o;have c:=i (0*5+0) _ ((g 0 (by omega) 0 (by omega)).trans rfl);have e:spot=none:=by simpa[Addr.add]using fL c
 subst e;refine⟨b,a,rfl,m,fun k d=>?_⟩;have key:∀j u,j<5->(It.vals (l.getD k default))[j]? =some u->w.cell? ⟨b,a+k*5+j,none⟩=some u:=by
  intro j u f p;have:=i (k*5+j) u ((g k d j f).trans p);rw[<-this];unfold Addr.add;by_cases c:k*5+j=0
  ·rw[aj c,show a+k*5+j=a by omega]
  rw[af c];simp[eF]
 exact⟨key 0 _ (by omega) rfl,key 1 _ (by omega) rfl,key 2 _ (by omega) rfl,key 3 _ (by omega) rfl,key 4 _ (by omega) rfl⟩
end
section
def OV(l:List It)(n:Nat):Bool:=decide (n<(dR l).length)&&(reachB l n&&decide (25<=((dR l).getD n default).kd))
theorem Cn{l:List It}(h:fZ l)(n:Nat):OV l n=true↔Br l n:=by
 unfold OV Br;simp only[bG,aV];constructor
 ·rintro⟨a,b,c⟩;exact⟨a,(h.Sq (by omega)).1 b,c⟩
 rintro⟨a,b,c⟩;exact⟨a,(h.Sq (by omega)).2 b,c⟩
def jJ(l:List It)(F:Nat->Bool)(n:Nat):Bool:=F n||(OV l n&&decide (255<wK l F n))
def F7(l:List It)(F:Nat->Bool)(k:Nat):Nat->Bool:=fun n=>if n<k then jJ l F n else F n
def mn(l:List It)(F:Nat->Bool)(k:Nat):Bool:=(List.range k).any fun n=> !F n&&jJ l F n
theorem Gi(l:List It)(F:Nat->Bool)(k:Nat):mn l F (k+1)=(mn l F k||(!F k&&jJ l F k)):=by
 unfold mn;rw[fI,List.any_append];simp
theorem Jl(l:List It)(F:Nat->Bool)(h:mn l F (dR l).length=false)(n:Nat)(a:n<(dR l).length):jJ l F n=F n:=by
 unfold mn at h;have:=tB.1 h n (bE.2 a);cases e:F n with
 |true=>unfold jJ;rw[e];rfl
 |false=>rw[e]at this;simpa using this
def vJ(N:Nat)(F:Nat->Bool):Nat:=(List.range N).countP fun n=> !F n
theorem Kc{l:List It}{F:Nat->Bool}(h:mn l F (dR l).length=true):vJ (dR l).length (jJ l F)<vJ (dR l).length F:=by
 unfold mn at h;obtain⟨n,c,a⟩:=vE.1 h;have key:∀L:List Nat,n∈L->L.countP (fun n=> !jJ l F n)<L.countP (fun n=> !F n):=by
  have mono:∀L:List Nat,L.countP (fun n=> !jJ l F n)<=L.countP (fun n=> !F n):=fun L=>oH (fun x _ b=>by
   unfold jJ at b;cases e:F x with
   |true=>rw[e]at b;cases b
   |false=>rfl)
  intro L;induction L with
  |nil=>intro h;cases h
  |cons x L ih=>
   intro hm;rw[lM,lM];rcases aP.1 hm with rfl|hm
   ·simp only[bG,fm]at a;have:=mono L;simp only[a.1,a.2];simp;omega
   have f:=ih hm;have d:(if(!jJ l F x)=true then 1 else 0)<=(if(!F x)=true then 1 else 0):=by
    unfold jJ;cases F x<;>cases OV l x&&decide (255<wK l F x)<;>simp
   omega
 exact key _ c
structure Gj(l:List It)(F:Nat->Bool):Prop where
 br:∀n,F n=true->Br l n
 least:∀G:Nat->Bool,Closed l G->∀n,F n=true->G n=true
theorem Ke(l:List It):Gj l (fun _=>false):=⟨(fun n h=>by cases h),(fun G a n h=>by cases h)⟩
theorem Gj.next{l:List It}(a:fZ l){F:Nat->Bool}(h:Gj l F):Gj l (jJ l F):=by
 refine⟨fun n hn=>?_,fun G b n hn=>?_⟩
 ·unfold jJ at hn;simp only[df,bG]at hn;rcases hn with hn|hn
  ·exact h.br n hn
  exact(Cn a n).1 hn.1
 unfold jJ at hn;simp only[df,bG,aV]at hn;rcases hn with hn|hn
 ·exact h.least G b n hn
 exact Gq a b (fun m c=>h.least G b m c) ((Cn a n).1 hn.1) hn.2
theorem Gj.laid{l:List It}(d:fZ l){F:Nat->Bool}(h:Gj l F)(b:mn l F (dR l).length=false):Laid l F:=by
 refine⟨h.br,fun n a c=>?_,h.least⟩;have:=Jl l F b n a.1;unfold jJ at this;rw[c,(Cn d n).2 a]at this;simp at this;omega
theorem MK(l:List It)(F:Nat->Bool)(k:Nat):F7 l F (k+1)=fun n=>if n=k then jJ l F k else F7 l F k n:=by
 funext n
 by_cases e:n=k
 ·subst e;simp[F7]
 rw[af e];show(if n<k+1 then _ else _)=(if n<k then _ else _)
 by_cases h:n<k
 ·rw[aj (by omega),aj h]
 rw[af (by omega),af h]
theorem fZ.ways{l:List It}(h:fZ l){n:Nat}(a:n<(dR l).length)(b:25<=((dR l).getD n default).kd):∃t u:Nat,dY l n=(t:Int)/\jo l n=(u:Int)/\n<t/\t<(dR l).length/\n<u/\u<(dR l).length:=by
 have d:=h.yes a;have c:=h.no a;rcases d with e|⟨t,e,i,f⟩
 ·exfalso;unfold dY at e;rw[af (by unfold fH;omega)]at e;omega
 rcases c with e2|⟨u,e2,j,g⟩
 ·exfalso;unfold jo at e2;rw[aj b]at e2;omega
 exact⟨t,u,e,e2,i,f,j,g⟩
theorem sE(l:List It)(F:Nat->Bool)(n:Nat):plN l F n<=3*n:=Jm _ (Gp l F) n
theorem jK(l:List It)(F:Nat->Bool){a b:Nat}(h:a<=b):plN l F a<=plN l F b:=Gn _ h
theorem lU(l:List It)(F:Nat->Bool)(n:Nat):plN l F (n+1)=plN l F n+wZ l F n:=rfl
def gw(l:List It)(n:Nat):It:=(dR l).getD n default
def kG(l:List It)(F:Nat->Bool)(n:Nat):List I:=
 if reachB l n=false then[]
 else if F n=true then[⟨(gw l n).code,0,1,(gw l n).k⟩,⟨5,0,0,plN l F (dY l n).toNat - (plN l F n+1) - 1⟩,⟨5,0,0,plN l F (jo l n).toNat - (plN l F n+2) - 1⟩]
 else if(gw l n).kd=13 then[⟨(gw l n).code,0,0,plN l F (dY l n).toNat - plN l F n - 1⟩]
 else if 25<=(gw l n).kd then[⟨(gw l n).code,plN l F (dY l n).toNat - plN l F n - 1,plN l F (jo l n).toNat - plN l F n - 1,(gw l n).k⟩]
 else[⟨(gw l n).code,0,0,(gw l n).k⟩]
def qg(l:List It)(F:Nat->Bool)(k:Nat):List I:=(List.range k).flatMap (kG l F)
def kS(l:List It)(F:Nat->Bool):List I:=qg l F (dR l).length
theorem sB(l:List It)(F:Nat->Bool)(k:Nat):qg l F (k+1)=qg l F k++kG l F k:=by unfold qg;rw[fI,bX];simp
theorem Cm(l:List It)(F:Nat->Bool)(n:Nat):(kG l F n).length=wZ l F n:=by
 unfold kG wZ;cases reachB l n with
 |false=>simp
 |true=>
  cases F n with
  |true=>simp
  |false=>
   simp only[Bool.true_eq_false,mj,lN,fE];split
   ·rfl
   split<;>rfl
theorem jS(l:List It)(F:Nat->Bool):∀k,(qg l F k).length=plN l F k
 |0=>rfl
 |k+1=>by rw[sB,bw,jS l F k,Cm,lU]
theorem xD{l:List It}{F:Nat->Bool}{n:Nat}(h:reachB l n=false):kG l F n=[]:=by unfold kG;rw[aj h]
theorem rj{l:List It}{F:Nat->Bool}{n t u:Nat}(h:reachB l n=true)(a:F n=true)(c:dY l n=(t:Int))(b:jo l n=(u:Int)):kG l F n=[⟨(gw l n).code,0,1,(gw l n).k⟩,⟨5,0,0,plN l F t - (plN l F n+1) - 1⟩,⟨5,0,0,plN l F u - (plN l F n+2) - 1⟩]:=by
 unfold kG;rw[af (by rw[h];simp),aj a,c,b];rfl
theorem sC{l:List It}{F:Nat->Bool}{n t:Nat}(h:reachB l n=true)(a:F n=false)(b:(gw l n).kd=13)(c:dY l n=(t:Int)):kG l F n=[⟨(gw l n).code,0,0,plN l F t - plN l F n - 1⟩]:=by
 unfold kG;rw[af (by rw[h];simp),af (by rw[a];simp),aj b,c];rfl
theorem sD{l:List It}{F:Nat->Bool}{n t u:Nat}(h:reachB l n=true)(b:F n=false)(a:25<=(gw l n).kd)(d:dY l n=(t:Int))(c:jo l n=(u:Int)):kG l F n=[⟨(gw l n).code,plN l F t - plN l F n - 1,plN l F u - plN l F n - 1,(gw l n).k⟩]:=by
 unfold kG;rw[af (by rw[h];simp),af (by rw[b];simp),af (by omega),aj a,d,c];rfl
theorem qh{l:List It}{F:Nat->Bool}{n:Nat}(h:reachB l n=true)(b:F n=false)(c:(gw l n).kd≠13)(a:¬25<=(gw l n).kd):kG l F n=[⟨(gw l n).code,0,0,(gw l n).k⟩]:=by
 unfold kG;rw[af (by rw[h];simp),af (by rw[b];simp),af c,af a]
theorem kH{l:List It}(F:Nat->Bool){n t:Nat}(h:reachB l n=true)(b:n<t):plN l F n+wZ l F n<=plN l F t/\1<=wZ l F n:=by
 have a:=jK l F (show n+1<=t by omega);rw[lU]at a;refine⟨a,?_⟩;unfold wZ;rw[aj h];split<;>omega
theorem AM{l:List It}(F:Nat->Bool){n t u:Nat}(b:dY l n=(t:Int))(a:jo l n=(u:Int)):wK l F n=max (plN l F t) (plN l F u) - plN l F n - 1:=by unfold wK;rw[b,a];rfl
theorem fZ.SO{l:List It}(h:fZ l){n:Nat}(d:n<(dR l).length)(a:(gw l n).kd=13):∃t:Nat,dY l n=(t:Int)/\n<t/\t<(dR l).length:=by
 rcases h.yes d with e|⟨t,e,c,b⟩
 ·exfalso;unfold dY at e;unfold gw at a;rw[af (by unfold fH;omega)]at e;omega
 exact⟨t,e,c,b⟩
theorem MP{l:List It}{F:Nat->Bool}(v:∀x∈l,x.Ok)(n:fZ l)(z:Laid l F)(D:(dR l).length<=100000){k:Nat}(g:k<(dR l).length):∀i∈kG l F k,i.Ok:=by
 have p:(gw l k).Ok:=oM (fun x p=>by unfold dR at p;exact v x (gO.1 p).1) g;obtain⟨-,E,A,-,-⟩:=p;have s:=sE l F;intro i a;cases b:reachB l k with
 |false=>rw[xD b]at a;cases a
 |true=>
  cases c:F k with
  |true=>
   obtain⟨t,u,f,o,j,m,q,r⟩:=n.ways g (z.br k c).2.2;have B:=s t;have C:=s u;rw[rj b c f o]at a;simp only[aP,bQ,eW]at a;rcases a with rfl|rfl|rfl<;>unfold I.Ok<;>simp only<;>omega
  |false=>
   by_cases e:(gw l k).kd=13
   ·obtain⟨t,f,j,m⟩:=n.SO g e;have B:=s t;rw[sC b c e f]at a;simp only[aP,bQ,eW]at a;subst a;unfold I.Ok;simp only;omega
   by_cases d:25<=(gw l k).kd
   ·obtain⟨t,u,f,o,j,m,q,r⟩:=n.ways g d;have y:=z.closed k ⟨g,(n.Sq (by omega)).1 b,d⟩ c;rw[AM F f o]at y;rw[sD b c d f o]at a;simp only[aP,bQ,eW]at a;subst a;unfold I.Ok;simp only;omega
   rw[qh b c e d]at a;simp only[aP,bQ,eW]at a;subst a;unfold I.Ok;simp only;omega
theorem Ju{l:List It}{F:Nat->Bool}(b:∀x∈l,x.Ok)(f:fZ l)(e:Laid l F)(d:(dR l).length<=100000):∀i∈kS l F,i.Ok:=by
 intro i a;unfold kS qg at a;obtain⟨k,c,a⟩:=db.1 a;exact MP b f e d (bE.1 c) i a
end

section
theorem Cl(l:List It)(F:Nat->Bool){k j:Nat}(a:k<(dR l).length)(c:j<wZ l F k):(kS l F).getD (plN l F k+j) default=(kG l F k).getD j default:=by
 have key:∀K,k<K->(qg l F K).getD (plN l F k+j) default=(kG l F k).getD j default:=by
  intro K;induction K with
  |zero=>omega
  |succ K ih=>
   intro h;rw[sB,aa];by_cases e:k=K
   ·subst e;rw[bY (by rw[jS];omega),jS,show plN l F k+j - plN l F k=j by omega,aa]
   have b:=jK l F (show k+1<=K by omega);rw[lU]at b;rw[bU (by rw[jS];omega),<-aa];exact ih (by omega)
 exact key _ a
theorem nY(l:List It)(F:Nat->Bool):(kS l F).length=plN l F (dR l).length:=jS _ _ _
theorem Q9(a b k:Nat):kd ⟨5,a,b,k⟩=13:=by show(oy 5).1=13;decide+kernel
section
variable {l:List It} {F:Nat->Bool} (hF:fZ l) (hL:Laid l F)
include hF
theorem fZ.room{k:Nat}(i:k<(dR l).length)(f:reachB l k=true){t:Nat}(n:dY l k=(t:Int)\/jo l k=(t:Int)):(k<t/\t<(dR l).length/\reachB l t=true)/\plN l F k+wZ l F k<=plN l F t/\1<=wZ l F k/\plN l F t+1<=plN l F (dR l).length:=by
 have g:=(hF.Sq (by omega)).1 f;have c:k<t/\t<(dR l).length:=by
  rcases n with e|e
  ·rcases hF.yes i with h|⟨m,h,a,b⟩
   ·rw[e]at h;omega
   rw[e]at h;have:t=m:=by omega
   subst this;exact⟨a,b⟩
  rcases hF.no i with h|⟨m,h,a,b⟩
  ·rw[e]at h;omega
  rw[e]at h;have:t=m:=by omega
  subst this;exact⟨a,b⟩
 have j:pQ l t:=by
  rcases n with e|e
  ·exact .yes g i e
  exact .no g i e
 have d:=(hF.Sq (dS c.2)).2 j;have a:=kH F f c.1;have b:=kH F d c.2;exact⟨⟨c.1,c.2,d⟩,a.1,a.2,by omega⟩
include hL
end
def It.kx(x:It):Bool:=(oy x.code).2
theorem Kb{a:List It}{i:Nat}(h:i<a.length):a.getD i default∈a:=by
 rw[aa,ah h];exact bj h
end

section
structure Vs where
 at_:Nat
 a:Nat
 x:Nat
 cells:List Nat
structure Vs.Ok(s:Vs):Prop where
 a:s.a<4294967296
 x:s.x<4294967296
 len:s.cells.length=16
 cell:∀n∈s.cells,n<4294967296
def AQ(d a n:Nat):Nat:=
 if d=16 then(a+n) % 4294967296
 else if d=17 then(a+(4294967296 - n)) % 4294967296
 else if d=18 then a*n % 4294967296
 else if d=19 then a / n
 else if d=20 then a|||n
 else if d=21 then a&&&n
 else if d=22 then a*2 ^ (n % 32) % 4294967296
 else if d=23 then a / 2 ^ (n % 32)
 else a ^^^ n
def Ds(d a n:Nat):Bool:=if d=25 then decide (a=n)else if d=26 then decide (n<a)else if d=27 then decide (n<=a)else decide (a&&&n≠0)
def othN(i:I)(s:Vs):Nat:=if kx i=true then s.x else i.k
def iC(W:Nat->Nat)(i:I)(s:Vs):Vs:=
 if kd i=1 then {s with a:=W i.k}
 else if kd i=2 then {s with a:=i.k}
 else if kd i=3 then {s with a:=s.cells.getD i.k 0}
 else if kd i=4 then {s with a:=64}
 else if kd i=5 then {s with x:=i.k}
 else if kd i=6 then {s with x:=s.cells.getD i.k 0}
 else if kd i=7 then {s with x:=64}
 else if kd i=8 then {s with cells:=s.cells.set i.k s.a}
 else if kd i=9 then {s with cells:=s.cells.set i.k s.x}
 else if kd i=10 then {s with x:=s.a}
 else if kd i=11 then {s with a:=s.x}
 else if kd i=12 then {s with a:=(4294967296 - s.a) % 4294967296}
 else if kd i=13 then {s with at_:=s.at_+i.k}
 else if 25<=kd i then {s with at_:=s.at_+if Ds (kd i) s.a (othN i s)=true then i.jt else i.jf}
 else {s with a:=AQ (kd i) s.a (othN i s)}
def jM(i:I)(s:Vs):Option Nat:=if kd i=14 then some i.k else if kd i=15 then some s.a else if kd i=19/\othN i s=0 then some 0 else none
def nd(p:List I)(W:Nat->Nat):Nat->Vs->Nat×Nat
 |0,s=>(0,0)
 |f+1,s=>match jM (p.getD s.at_ default) s with
  |some v=>(v,1)
  |none=>((nd p W f (iC W (p.getD s.at_ default) {s with at_:=s.at_+1})).1,(nd p W f (iC W (p.getD s.at_ default) {s with at_:=s.at_+1})).2+1)
def v0:Vs:=⟨0,0,0,List.replicate 16 0⟩
theorem gQ.load{l:List I}(h:gQ l){n:Nat}(a:n<l.length):kd (l.getD n default)=1->(l.getD n default).k<=60:=fun e=>by
 have:=h.alone a;unfold pb nc at this;rw[af (by omega),aj (by omega)]at this;split at this<;>omega
theorem MQ(d:Nat){a n:Nat}(e:a<4294967296)(f:n<4294967296):AQ d a n<4294967296:=by
 have c:a<2 ^ 32:=e;have b:n<2 ^ 32:=f;unfold AQ;repeat' split
 ·omega
 ·omega
 ·exact ly _ (by omega)
 ·exact fF (xw a n) e
 ·exact Sj c b
 ·exact fF xu e
 ·exact ly _ (by omega)
 ·exact fF (xw a _) e
 exact Sf c b
theorem Vs.Ok.cells{s:Vs}(h:s.Ok)(k:Nat):s.cells.getD k 0<4294967296:=by
 rw[aa];cases e:s.cells[k]? with
 |none=>decide
 |some v=>exact h.cell _ (iw e)
theorem ng{α:Type}{P:α->Prop}{c:Prop}[Decidable c]{a b:α}(d:P a)(e:P b):P (if c then a else b):=by split<;>assumption
theorem MR{W:Nat->Nat}{i:I}{s:Vs}(a:s.Ok)(e:i.Ok)(c:∀k,W k<4294967296):(iC W i s).Ok:=by
 have b:=e.2.2.2;have set_:∀(k v:Nat),v<4294967296->∀n∈s.cells.set k v,n<4294967296:=fun k v hv n f=>by
  rcases tx f with h|rfl
  ·exact a.cell _ h
  exact hv
 have d:othN i s<4294967296:=by
  unfold othN;split
  ·exact a.x
  exact b
 unfold iC;refine ng (P:=Vs.Ok) ⟨c _,a.x,a.len,a.cell⟩ ?_;refine ng (P:=Vs.Ok) ⟨b,a.x,a.len,a.cell⟩ ?_;refine ng (P:=Vs.Ok) ⟨a.cells _,a.x,a.len,a.cell⟩ ?_;refine ng (P:=Vs.Ok) ⟨by show 64<_;decide,a.x,a.len,a.cell⟩ ?_;refine ng (P:=Vs.Ok) ⟨a.a,b,a.len,a.cell⟩ ?_;refine ng (P:=Vs.Ok) ⟨a.a,a.cells _,a.len,a.cell⟩ ?_;refine ng (P:=Vs.Ok) ⟨a.a,by show 64<_;decide,a.len,a.cell⟩ ?_;refine ng (P:=Vs.Ok) ⟨a.a,a.x,by simp[a.len],set_ _ _ a.a⟩ ?_;refine ng (P:=Vs.Ok) ⟨a.a,a.x,by simp[a.len],set_ _ _ a.x⟩ ?_;refine ng (P:=Vs.Ok) ⟨a.a,a.a,a.len,a.cell⟩ ?_;refine ng (P:=Vs.Ok) ⟨a.x,a.x,a.len,a.cell⟩ ?_;refine ng (P:=Vs.Ok) ⟨ly _ (by decide),a.x,a.len,a.cell⟩ ?_;refine ng (P:=Vs.Ok) ⟨a.a,a.x,a.len,a.cell⟩ ?_;refine ng (P:=Vs.Ok) ⟨a.a,a.x,a.len,a.cell⟩ ?_;exact⟨MQ _ a.a d,a.x,a.len,a.cell⟩
theorem Ra:v0.Ok:=⟨by decide,by decide,by decide,by decide⟩
theorem xR{l:List I}(h:gQ l){s:Vs}(d:s.at_<l.length)(W:Nat->Nat)(c:jM (l.getD s.at_ default) s=none):s.at_<(iC W (l.getD s.at_ default) {s with at_:=s.at_+1}).at_/\(iC W (l.getD s.at_ default) {s with at_:=s.at_+1}).at_<l.length:=by
 have g:¬fH (kd (l.getD s.at_ default)):=by
  intro e;unfold jM at c;rcases e with e|e
  ·rw[aj e]at c;cases c
  rw[af (by omega),aj e]at c;cases c
 have f:=h.on d g;have j:=h.jump d;have k:=h.branch d;generalize l.getD s.at_ default=i at*;unfold iC;have u:s.at_<s.at_+1:=by omega
 by_cases a:kd i=13
 ·simp only[a];have:=j a;simp;omega
 by_cases b:25<=kd i
 ·have:=k b;rw[af (by omega),af (by omega),af (by omega),af (by omega),af (by omega),af (by omega),af (by omega),af (by omega),af (by omega),af (by omega),af (by omega),af (by omega),af (by omega),aj b];simp only;split<;>omega
 rw[af a,af b];repeat' refine ng (P:=fun v:Vs=>s.at_<v.at_/\v.at_<l.length) ⟨u,f⟩ ?_
 exact⟨u,f⟩
theorem AR{l:List I}(h:gQ l)(W:Nat->Nat):∀(f g:Nat) (s:Vs),s.at_<l.length->l.length - s.at_<=f->l.length - s.at_<=g->nd l W f s=nd l W g s
 |0,g,s,a,c,b=>by omega
 |f+1,0,s,a,c,b=>by omega
 |f+1,g+1,s,a,c,b=>by
  unfold nd;cases e:jM (l.getD s.at_ default) s with
  |some v=>rfl
  |none=>
   have:=xR h a W e;simp only;rw[AR h W f g _ this.2 (by omega) (by omega)]
theorem AS{l:List I}{W:Nat->Nat}{f:Nat}{s:Vs}{v:Nat}(a:0<f)(e:jM (l.getD s.at_ default) s=some v):nd l W f s=(v,1):=by
 obtain⟨f,rfl⟩:∃q,f=q+1:=⟨f - 1,by omega⟩;unfold nd;rw[e]
theorem oN{l:List I}(h:gQ l){W:Nat->Nat}{s:Vs}(b:s.at_<l.length)(e:jM (l.getD s.at_ default) s=none):
  nd l W (l.length - s.at_) s=((nd l W (l.length - (iC W (l.getD s.at_ default) {s with at_:=s.at_+1}).at_) (iC W (l.getD s.at_ default) {s with at_:=s.at_+1})).1,(nd l W (l.length - (iC W (l.getD s.at_ default) {s with at_:=s.at_+1}).at_) (iC W (l.getD s.at_ default) {s with at_:=s.at_+1})).2+1):=by
 have a:=xR h b W e;have e1:nd l W (l.length - s.at_) s=nd l W (l.length - s.at_ - 1+1) s:=by rw[show l.length - s.at_ - 1+1=l.length - s.at_ by omega]
 rw[e1];conv=>lhs;unfold nd
 rw[e];simp only;rw[AR h W (l.length - s.at_ - 1) (l.length - (iC W (l.getD s.at_ default) {s with at_:=s.at_+1}).at_) _ a.2 (by omega) (by omega)]
theorem Kl{l:List I}(h:(fK l).2=0):(eA l).2=0/\∀n,n<l.length->oL l n=0:=by
 unfold fK at h;by_cases a:(eA l).2≠0
 ·rw[aj a]at h;exact absurd h a
 rw[af a]at h;cases b:jU (oL l) l.length 0 with
 |some n=>rw[b]at h;simp at h
 |none=>exact⟨by omega,fun n c=>qm _ _ _ b n (by omega) (by omega)⟩
end

section
open Go.RowKit
theorem sR(n:Nat)(b:n<18446744073709551616)(w:Ub):TW 21 #[TY T8 n] w (T4 #[TY T7 ((n % 4294967296:Nat):Int),TY T7 ((n / 4294967296:Nat):Int)]):=by
 have a:n / 4294967296<4294967296:=by omega
 go_enter func21,ntmps21;go_wp2_with fail;go_ret2;refine⟨?_,rfl⟩;simp
theorem sS(w:Ub):TV 9 #[] w (T2 true):=by
 go_enter func9,ntmps9;go_wp2_with fail;refine(sR 4294967298 (by decide) w).mono ?_;rintro e a ⟨rfl,rfl⟩;go_wp2_with fail;go_ret;exact⟨rfl,aw _ w⟩
theorem Mb:(prog.info? 4).map (fun i=>(i.zero,i.size,i.bytes))=some (some (T2 false),1,1):=by kernel_rfl
def pL(l:List Bool):List Uc:=l.map Value.bool
theorem kD(l:List Bool)(k:Nat)(b:Bool):(pL l).set k (T2 b)=pL (l.set k b):=by unfold pL;rw[List.map_set]
theorem zC(l:List Bool)(k:Nat)(a:k<l.length):(pL l)[k]? =some (T2 (l.getD k false)):=by simp[pL,a]
structure je(w:Ub) where
 world:Ub
 grows:aS w world
instance (w:Ub):Nonempty (je w):=⟨⟨w,aS.refl w⟩⟩
instance (w:Ub):Inhabited (je w):=⟨⟨w,aS.refl w⟩⟩
def eb(w:Ub)(x:je w):Ub:=x.world
theorem kb{w:Ub}(x:je w):aS w (eb w x):=x.grows
theorem eY{w:Ub}{p:Addr}{v:Uc}(a:w.cell? p=some v)(x:je w):(eb w x).cell? p=some v:=(x.grows.cell (fM a)).trans a
theorem Nb{w:Ub}{g:Nat}{o:Obj}(a:w.heap[g]? =some o)(x:je w):(eb w x).heap[g]? =some o:=(x.grows.block g (by
 rcases dB g w.heap.size with h|h
 ·exact h
 rw[gD h]at a;cases a)).trans a
theorem Nc{w:Ub}{size n:Nat}{A:Option Addr}{xs:List Uc}(a:bh w w.heap.size size A n xs)(x:je w):bh (eb w x) (eb w x).heap.size size A n xs:=(a.below x.grows).more x.grows.size
theorem dO{P:Program}{d:Nat}{Q:Exit->Act->Ub->Prop}{a:Act}{w:Ub}{l:List Oper}(f:P.follows .mixedOrders=true)(g:Region.lexB .any l.toArray=true)
  (h:wpQuiet P l.toArray (fun w'=>∃x,w'=eb w x) (fun b=>∀w',aS w w'->Q .normal b w') l a):(Code.region d l.toArray true).wp P Q a w:=by
 have e:(fun b=>∀w',aS w w'->Q .normal b w')=(fun b=>∀w',(∃x,w'=eb w x)->Q .normal b w'):=by
  funext b
  apply propext
  exact⟨fun h w' ⟨x,i⟩=>h w' (by rw[i];exact x.grows),fun h w' c=>h w' ⟨⟨w',c⟩,rfl⟩⟩
 rw[e]at h;exact wp_region_quiet (C:=fun w'=>∃x,w'=eb w x) f g ⟨⟨w.drew,(aw _ w).drew⟩,rfl⟩ (by simpa using h)
theorem gi{P:Program}{f:FuncId}{args:Array Uc}{w:Ub}{x:je w}{v:Uc}
  (h:Calls P f args (eb w x) fun e w'=>e=.returned v/\Below (eb w x).heap.size (eb w x) w'):Calls P f args (eb w x) fun e a=>e=.returned v/\∃y,a=eb w y:=
 h.mono fun _ w' ⟨c,b⟩=>⟨c,⟨w',(aS.trans x.grows b)⟩,rfl⟩
theorem wO{P:Program}{f:FuncId}{args:Array Uc}{w:Ub}{x:je w}{v:Uc}
  (h:Calls P f args (eb w x) fun e w'=>e=.returned v/\eb w x=w'):Calls P f args (eb w x) fun e a=>e=.returned v/\∃y,a=eb w y:=
 h.mono fun _ _ ⟨c,b⟩=>⟨c,x,b.symm⟩
theorem iU{P:Program}{C:Ub->Prop}{o:Oper}{a:Act}{K:Act->Prop}(ty:TypeId)(x:Operand)(f:o.op=.load ty x)(g:Nat)(k:a.eval x=TZ (some ⟨g,0,none⟩))(t:TypeId)(cs:Array Uc)(fr:Nat×Nat)(d:TypeDesc)
  (c : ∀ w, C w -> w.heap[g]? = some (Ua cs t fr)) (i : P.underlying ty = some d) (b : (match d with | .struct _ | .array _ _ => true | _ => false) = true) (j : (P.info? ty).map (·.size) = some cs.size)
  (h:K (a.put o.dst (T1 cs))):o.quiet P a C K:=
 ⟨T1 cs,fun w e=>by
   unfold Oper.quietAt execOp;simp only[f,k,Instr.loadAt,Instr.sureAddr,aY,jF,bd,kQ w g t ty cs fr d (c w e) i b j];exact⟨rfl,rfl⟩,h⟩
theorem uW{w:Ub}{g:Nat}{o:Obj}(a:w.heap[g]? =some o):∀w',(∃x,w'=eb w x)->w'.heap[g]? =some o:=fun _ ⟨x,e⟩=>by rw[e];exact Nb a x
def eX{α:Type}[Inhabited α](w:Ub)(B size:Nat)(E:α->List Uc->Prop)(A:Option Addr)(l:List α):Prop:=
 0<l.length->∃b a,A=some ⟨b,a,none⟩/\b<B/\∀k,k<l.length->∃vs:List Uc,vs.length=size/\E (l.getD k default) vs/\w.rangeAt b (a+k*size) vs
section
variable {α:Type} [Inhabited α] {w w':Ub} {B B' size:Nat} {E E':α->List Uc->Prop} {A:Option Addr} {l:List α}
theorem eX.keep(h:eX w B size E A l)(e:∀p:Addr,p.block<B->w'.cell? p=w.cell? p)(g:∀x vs,E x vs->E' x vs):eX w' B size E' A l:=fun n=>by
 obtain⟨b,a,rfl,c,o⟩:=h n;refine⟨b,a,rfl,c,fun k i=>?_⟩;obtain⟨vs,f,d,m⟩:=o k i;exact⟨vs,f,g _ _ d,fun j v hv=>(e ⟨b,_,none⟩ c).trans (m j v hv)⟩
theorem eX.more(h:eX w B size E A l)(e:B<=B'):eX w B' size E A l:=fun d=>by
 obtain⟨b,a,rfl,f,c⟩:=h d;exact⟨b,a,rfl,by omega,c⟩
theorem eX.imp(h:eX w B size E A l)(a:∀x vs,E x vs->E' x vs):eX w B size E' A l:=h.keep (fun _ _=>rfl) a
theorem eX.at_(h:eX w B size E A l){k:Nat}(c:k<l.length):∃b a,A=some ⟨b,a,none⟩/\b<B/\∃vs:List Uc,vs.length=size/\E (l.getD k default) vs/\w.rangeAt b (a+k*size) vs:=by
 obtain⟨b,a,e,d,f⟩:=h (by omega);exact⟨b,a,e,d,f k c⟩
end
theorem nt{w:Ub}{b o:Nat}{vs:List Uc}(h:w.rangeAt b o vs){j:Nat}{v:Uc}(hv:vs[j]? =some v):w.cell? ⟨b,o+j,none⟩=some v:=h j v hv
theorem Bn{α:Type}[Inhabited α]{E:α->List Uc->Prop}{size:Nat}:∀{l:List α} {vss:List (List Uc)},vss.length=l.length->(∀k,k<l.length->(vss.getD k []).length=size/\E (l.getD k default) (vss.getD k []))->
  ∀k,k<l.length->∀j v,(vss.getD k [])[j]? =some v->vss.flatten[k*size+j]? =some v
 |[],_,_,_,k,b,_,_,_=>absurd b (by simp)
 |x::t,[],h,_,_,_,_,_,_=>absurd h (by simp)
 |x::t,u::e,h,c,k,b,j,v,hv=>by
  have a:=c 0 (by simp);simp only[iP]at a;rw[List.flatten_cons];cases k with
  |zero=>
   simp only[iP]at hv;have f:j<u.length:=(cF.1 hv).1;rw[Rs,cV,bU f];exact hv
  |succ k=>
   rw[bY (by rw[a.1,gE];omega)];rw[show(k+1)*size+j - u.length=k*size+j by rw[a.1,gE];omega];refine Bn (E:=E) (l:=t) (vss:=e) (by simpa using h) (fun i d=>?_) k (by simpa using b) j v (by simpa using hv);have:=c (i+1) (by simpa using d);simpa using this
theorem iq(b a i:Nat):(⟨b,a,none⟩:Addr).add i=⟨b,a+i,none⟩:=by
 unfold Addr.add;by_cases h:i=0
 ·subst h;simp
 rw[af h]
theorem eX.Sy{α:Type}[Inhabited α]{w:Ub}{B size n:Nat}(s:0<size){E:α->List Uc->Prop}{A:Option Addr}{l:List α}{vss:List (List Uc)}(h:bh w B size A n vss.flatten)
  (r:vss.length=l.length)(a:∀k,k<l.length->(vss.getD k []).length=size/\E (l.getD k default) (vss.getD k []))(t:n=l.length):eX w B size E A l:=fun g=>by
 obtain⟨q,rfl,o,i⟩:=h.2 (by omega);have key:=Bn r a;obtain⟨b,e,spot⟩:=q;have m:∃v,(vss.getD 0 [])[0]? =some v:=⟨_,ah (by rw[(a 0 g).1];exact s)⟩;obtain⟨v0,d⟩:=m;have p:=i (0*size+0) _ (key 0 g 0 v0 d);have f:spot=none:=by simpa[Addr.add]using fL p
 subst f;refine⟨b,e,rfl,o,fun k c=>⟨vss.getD k [],(a k c).1,(a k c).2,fun j v hv=>?_⟩⟩;rw[eF,<-iq];exact i _ v (key k c j v hv)
def Cd.vals(c:Cd):List Uc:=[TY T6 c.arg,TY T6 c.op,TY T8 c.mask,TY T8 c.val]
theorem Cd.Sn(c:Cd):c.vals.length=4:=rfl
def cR(l:List Cd):List Uc:=l.flatMap Cd.vals
theorem ju(l:List Cd):(cR l).length=l.length*4:=vN _ 4 Cd.Sn l
theorem oC(a b:List Cd):cR (a++b)=cR a++cR b:=by unfold cR;rw[bX]
theorem yt(l:List Cd):∀v∈cR l,v.oneCell'=true:=fun v hv=>by
 obtain⟨i,_,h⟩:=db.1 hv;simp only[Cd.vals,aP,bQ,eW]at h;rcases h with rfl|rfl|rfl|rfl<;>rfl
theorem bh.Ts{w:Ub}{B n:Nat}{A:Option Addr}{l:List Cd}(h:bh w B 4 A n (cR l)){k:Nat}(f:k<n):
  ∃b a,A=some ⟨b,a,none⟩/\b<B/\w.cell? ⟨b,a+k*4,none⟩=some (TY T6 (l.getD k default).arg)/\w.cell? ⟨b,a+k*4+1,none⟩=some (TY T6 (l.getD k default).op)/\
   w.cell? ⟨b,a+k*4+2,none⟩=some (TY T8 ((l.getD k default).mask:Nat))/\w.cell? ⟨b,a+k*4+3,none⟩=some (TY T8 ((l.getD k default).val:Nat)):=by
 obtain⟨o,rfl,m,g⟩:=h.2 (by omega);have q:n=l.length:=by have:=h.1;rw[ju]at this;omega
 have e:=fun k (f:k<n) j (d:j<4)=>jL Cd.vals 4 Cd.Sn default l k j (by omega) d
 obtain⟨b,a,spot⟩:=o;have i:=g (0*4+0) _ ((e 0 (by omega) 0 (by omega)).trans rfl);have c:spot=none:=by simpa[Addr.add]using fL i
 subst c;have key:∀j u,j<4->(Cd.vals (l.getD k default))[j]? =some u->w.cell? ⟨b,a+k*4+j,none⟩=some u:=by
  intro j u d p;have:=g (k*4+j) u ((e k f j d).trans p);rw[<-this,iq,eF]
 exact⟨b,a,rfl,m,key 0 _ (by omega) rfl,key 1 _ (by omega) rfl,key 2 _ (by omega) rfl,key 3 _ (by omega) rfl⟩
def se(w:Ub)(B:Nat)(r:Rl)(vs:List Uc):Prop:=
 ∃A c,vs=[.string r.name,TY T6 r.kind,TY T6 r.num,T0 A r.conds.length c]/\bh w B 4 A r.conds.length (cR r.conds)
def Rw.vals(r:Rw):List Uc:=.string r.name::(r.nums.map (Value.int T6)++[TY T6 r.mux,TY T6 r.sub])
def Qw(r:Rw)(vs:List Uc):Prop:=vs=r.vals
def eI(w:Ub)(B:Nat)(A:Option Addr)(l:List Rl):Prop:=eX w B 4 (se w B) A l
def jv(w:Ub)(B:Nat)(A:Option Addr)(l:List Rw):Prop:=eX w B 8 Qw A l
section
variable {w w':Ub} {B B':Nat} {A:Option Addr}
theorem se.below{r:Rl}{vs:List Uc}(h:se w B r vs)(d:Below B w w'):se w' B r vs:=by
 obtain⟨A,c,b,a⟩:=h;exact⟨A,c,b,a.below d⟩
theorem se.more{r:Rl}{vs:List Uc}(h:se w B r vs)(d:B<=B'):se w B' r vs:=by
 obtain⟨A,c,b,a⟩:=h;exact⟨A,c,b,a.more d⟩
theorem eI.below{l:List Rl}(h:eI w B A l)(a:Below B w w'):eI w' B A l:=eX.keep h (fun _ b=>a.cell b) fun _ _ c=>c.below a
theorem eI.more{l:List Rl}(h:eI w B A l)(a:B<=B'):eI w B' A l:=(eX.more h a).imp fun _ _ b=>b.more a
theorem jv.below{l:List Rw}(h:jv w B A l)(c:Below B w w'):jv w' B A l:=eX.keep h (fun _ a=>c.cell a) fun _ _ b=>b
theorem jv.more{l:List Rw}(h:jv w B A l)(a:B<=B'):jv w B' A l:=eX.more h a
theorem eI.at_{l:List Rl}(h:eI w B A l){k:Nat}(f:k<l.length):∃b a d e,A=some ⟨b,a,none⟩/\b<B/\w.cell? ⟨b,a+k*4,none⟩=some (.string (l.getD k default).name)/\
  w.cell? ⟨b,a+k*4+1,none⟩=some (TY T6 (l.getD k default).kind)/\w.cell? ⟨b,a+k*4+2,none⟩=some (TY T6 (l.getD k default).num)/\
  w.cell? ⟨b,a+k*4+3,none⟩=some (T0 d (l.getD k default).conds.length e)/\bh w B 4 d (l.getD k default).conds.length (cR (l.getD k default).conds):=by
 obtain⟨b,a,i,g,vs,m,⟨d,e,rfl,j⟩,c⟩:=eX.at_ h f;exact⟨b,a,d,e,i,g,c 0 _ rfl,c 1 _ rfl,c 2 _ rfl,c 3 _ rfl,j⟩
theorem jv.at_{l:List Rw}(h:jv w B A l)(j:∀r∈l,r.nums.length=5){k:Nat}(e:k<l.length):∃b c,A=some ⟨b,c,none⟩/\b<B/\w.cell? ⟨b,c+k*8,none⟩=some (.string (l.getD k default).name)/\
  (∀a,a<5->w.cell? ⟨b,c+k*8+(1+a),none⟩=some (TY T6 ((l.getD k default).nums.getD a (-1))))/\w.cell? ⟨b,c+k*8+6,none⟩=some (TY T6 (l.getD k default).mux)/\
  w.cell? ⟨b,c+k*8+7,none⟩=some (TY T6 (l.getD k default).sub):=by
 obtain⟨b,c,i,g,vs,q,rfl,d⟩:=eX.at_ h e;have f:(l.getD k default).nums.length=5:=j _ (by rw[aa,ah e];exact bj e);generalize l.getD k default=r at*;obtain⟨n,nums,o,s⟩:=r;simp only at f;match nums,f with
 |[a0,a1,a2,a3,p],_=>
  refine⟨b,c,i,g,d 0 _ rfl,fun a m=>?_,d 6 _ rfl,d 7 _ rfl⟩;match a,m with
  |0,_=>exact d 1 _ rfl
  |1,_=>exact d 2 _ rfl
  |2,_=>exact d 3 _ rfl
  |3,_=>exact d 4 _ rfl
  |4,_=>exact d 5 _ rfl
end
def nu(p:Po)(A:Option Addr)(c:Nat):Uc:=T1 #[TY T6 p.kind,TY T6 p.num,T2 p.x32,T0 A p.rules.length c]
def CF(r:Rc):Uc:=T1 (#[TY T7 r.number,TY T7 r.arch,TY T8 r.ptr]++(r.args.map fun n:Nat=>Value.int T8 (n:Int)).toArray)
structure Rc.Ok(r:Rc):Prop where
 number:r.number<4294967296
 arch:r.arch<4294967296
 ptr:r.ptr<=eC
 len:r.args.length=6
 args:∀n∈r.args,n<=eC
theorem bH{P:Program}{c:Func}{p q:Tmp}{ty:TypeId}(h:c.results=#[.cell p ty,.tmp q])(tmps:Array Uc)(w:Ub)(g:Nat)(t:TypeId)(cs:Array Uc)(fr:Nat×Nat)(d:TypeDesc)(v:Uc)
  (j:tmps.getD p undef=TZ (some ⟨g,0,none⟩))(i:tmps.getD q undef=v)(f:w.heap[g]? =some (Ua cs t fr))
  (k : P.underlying ty = some d) (e : (match d with | .struct _ | .array _ _ => true | _ => false) = true) (m : (P.info? ty).map (·.size) = some cs.size) :
  (results c tmps).run P w=.ok (T4 #[T1 cs,v]) w:=by
 have a:tmps[p]?.getD undef=TZ (some ⟨g,0,none⟩):=by simpa using j
 have b:tmps[q]?.getD undef=v:=by simpa using i
 simp[results,h,a,b,asAddr,kQ w g t ty cs fr d f k e m]
def aU(t:TypeId)(w w':Ub):Prop:=∀(g:Nat) (a:Array Uc) (fr:Nat×Nat),w.heap[g]? =some (Ua a t fr)->w'.heap[g]? =some (Ua a t fr)
theorem aU.refl(t:TypeId)(w:Ub):aU t w w:=fun _ _ _ h=>h
theorem aU.trans{t:TypeId}{a b c:Ub}(h:aU t a b)(k:aU t b c):aU t a c:=fun g d fr e=>k g d fr (h g d fr e)
theorem dw{w:Ub}{g:Nat}{o:Obj}(h:w.heap[g]? =some o):g<w.heap.size:=(aL.1 h).1
theorem aU.below{t:TypeId}{w w':Ub}{B:Nat}(h:Below B w w')(c:w.heap.size<=B):aU t w w':=fun g b fr a=>(h.block g (by have:=dw a;omega)).trans a
theorem aU.grows{t:TypeId}{w w':Ub}(h:aS w w'):aU t w w':=aU.below h (ae _)
theorem aU.drew{t:TypeId}(w:Ub):aU t w w.drew:=fun _ _ _ h=>h
theorem aU.alloc{t:TypeId}(w:Ub)(o:Obj):aU t w (w.alloc o):=fun g b fr a=>(iN w o g (dw a)).trans a
theorem aU.grown{t e:TypeId}{w w':Ub}{B size n:Nat}{v:Uc}{xs:List Uc}(h:w.grownBy w' v.ownBlock)(k:w.ownsRow B e size v n xs)(b:e≠t):aU t w w':=fun g j fr c=>by
 refine(h.block g (dw c) (fun e2=>?_)).trans c;rcases k.2 with⟨rfl,_⟩|⟨i,cap,d,rfl,_,a,_⟩
 ·simp[Value.ownBlock]at e2
 have:g=i:=by simpa[Value.ownBlock]using e2
 subst this;rw[c]at a;injection a with a
 injection a with _ f;exact b f.symm
theorem aU.setCell{t e:TypeId}{w:Ub}{p:Addr}{cs:Array Uc}{fr:Nat×Nat}(h:w.heap[p.block]? =some (Ua cs e fr))(a:e≠t)(u:Uc):aU t w (w.setCell p u):=fun g c f b=>by
 refine(cK w p u g (fun e2=>?_)).trans b;subst e2;rw[b]at h;injection h with h
 injection h with _ d;exact a d.symm
theorem aU.SB{t e:TypeId}{w:Ub}{g i:Nat}{cs:Array Uc}(h:bK w g e cs)(a:e≠t)(u:Uc):aU t w (w.setCell ⟨g,i,none⟩ u):=aU.setCell (p:=⟨g,i,none⟩) h a u
def fB(w:Ub)(t:TypeId)(size:Nat)(A:Option Addr)(n:Nat)(xs:List Uc):Prop:=
 xs.length=n*size/\(0<n->∃(g b:Nat) (a:Array Uc) (fr:Nat×Nat),A=some ⟨g,b,none⟩/\w.heap[g]? =some (Ua a t fr)/\∀j v,xs[j]? =some v->a[b+j]? =some v)
theorem fB.keep{w w':Ub}{t:TypeId}{size n:Nat}{A:Option Addr}{xs:List Uc}(h:fB w t size A n xs)(c:aU t w w'):fB w' t size A n xs:=
 ⟨h.1,fun i=>by
   obtain⟨g,b,a,fr,e,d,f⟩:=h.2 i;exact⟨g,b,a,fr,e,c g a fr d,f⟩⟩
theorem fB.none_{w:Ub}{t:TypeId}{size:Nat}{A:Option Addr}:fB w t size A 0 []:=⟨by simp,fun h=>absurd h (by omega)⟩
theorem fB.reads{w:Ub}{t:TypeId}{size n:Nat}{A:Option Addr}{xs:List Uc}(h:fB w t size A n xs):bh w w.heap.size size A n xs:=
 ⟨h.1,fun i=>by
   obtain⟨g,c,b,fr,d,a,f⟩:=h.2 i;refine⟨_,d,dw a,fun j u e=>?_⟩;rw[iq];simp only[World.cell?,a];exact f j u e⟩
theorem fB.Sp{w:Ub}{B:Nat}{e:TypeId}{size n:Nat}{v:Uc}{xs:List Uc}(h:w.ownsRow B e size v n xs):∃A c,v=T0 A n c/\fB w e size A n xs:=by
 obtain⟨d,u⟩:=h;rcases u with⟨rfl,rfl⟩|⟨g,cap,b,rfl,o,f,s,m,p,t⟩
 ·have k:xs=[]:=cI (by simpa using d);exact⟨none,0,rfl,by simpa using d,fun q=>absurd q (by omega)⟩
 have r:=bh.Sp (w:=w) (A:=some ⟨g,0,none⟩) (c:=cap) ⟨d,.inr ⟨g,cap,b,rfl,o,f,s,m,p,t⟩⟩;refine⟨_,cap,rfl,d,fun k=>⟨g,0,b,(0,0),rfl,f,fun j v hv=>?_⟩⟩;obtain⟨x,i,_,a⟩:=r.2 k;injection i with i
 subst i;have:=a j v hv;rw[iq]at this;simp only[World.cell?,f]at this;exact this
def tZ(w:Ub)(t:TypeId)(r:Rl)(vs:List Uc):Prop:=
 ∃A c,vs=[.string r.name,TY T6 r.kind,TY T6 r.num,T0 A r.conds.length c]/\fB w t 4 A r.conds.length (cR r.conds)
theorem tZ.keep{w w':Ub}{t:TypeId}{r:Rl}{vs:List Uc}(h:tZ w t r vs)(a:aU t w w'):tZ w' t r vs:=by
 obtain⟨A,c,d,b⟩:=h;exact⟨A,c,d,b.keep a⟩
theorem tZ.Tp{w:Ub}{t:TypeId}{r:Rl}{vs:List Uc}(h:tZ w t r vs):se w w.heap.size r vs:=by
 obtain⟨A,c,b,a⟩:=h;exact⟨A,c,b,a.reads⟩
structure wN{α:Type}[Inhabited α](size:Nat)(E:α->List Uc->Prop)(l:List α)(vss:List (List Uc)):Prop where
 len:vss.length=l.length
 at_:∀k,k<l.length->(vss.getD k []).length=size/\E (l.getD k default) (vss.getD k [])
theorem wN.nil{α:Type}[Inhabited α]{size:Nat}{E:α->List Uc->Prop}:wN size E [] []:=⟨rfl,fun k a=>absurd a (by simp)⟩
theorem wN.imp{α:Type}[Inhabited α]{size:Nat}{E E':α->List Uc->Prop}{l:List α}{vss:List (List Uc)}(h:wN size E l vss)(b:∀x vs,E x vs->E' x vs):wN size E' l vss:=
 ⟨h.len,fun k a=>⟨(h.at_ k a).1,b _ _ (h.at_ k a).2⟩⟩
theorem wN.snoc{α:Type}[Inhabited α]{size:Nat}{E:α->List Uc->Prop}{l:List α}{vss:List (List Uc)}(h:wN size E l vss){x:α}{vs:List Uc}(b:vs.length=size)(c:E x vs):wN size E (l++[x]) (vss++[vs]):=by
 refine⟨by simp[h.len],fun k a=>?_⟩;rw[bw,List.length_singleton]at a;by_cases e:k<l.length
 ·have:=h.at_ k e;rw[aa,aa,bU e,bU (by rw[h.len];exact e)];simpa using this
 obtain rfl:k=l.length:=by omega
 rw[aa,aa,bY (ae _),bY (by rw[h.len];exact ae _)];simp[h.len,b,c]
theorem wN.elems{α:Type}[Inhabited α]{w:Ub}{B size n:Nat}(b:0<size){E:α->List Uc->Prop}{A:Option Addr}{l:List α}{vss:List (List Uc)}(h:wN size E l vss)(a:bh w B size A n vss.flatten)(c:n=l.length):eX w B size E A l:=
 eX.Sy b a h.len h.at_ c
theorem ik{P:Program}{C:Ub->Prop}{o:Oper}{a:Act}{K:Act->Prop}(ty:TypeId)(x:Operand)(i:o.op=.load ty x)(g b:Nat)(m:a.eval x=TZ (some ⟨g,b,none⟩))(cs:List Uc)(d:TypeDesc)
  (e:∀w,C w->w.rangeAt g b cs)(j:P.underlying ty=some d)(c:d.isRow=true)(k:(P.info? ty).map (·.size)=some cs.length)
  (h:K (a.put o.dst (T1 cs.toArray))):o.quiet P a C K:=
 ⟨T1 cs.toArray,fun w f=>by
   unfold Oper.quietAt execOp;simp only[i,m,aY,run_loadAt_mid w g b ty cs d (e w f) j c k,bd];exact⟨rfl,rfl⟩,h⟩
theorem kZ{w:Ub}{g a:Nat}{cs:List Uc}(c:w.rangeAt g a cs)(b:g<w.heap.size):∀w',(∃x,w'=eb w x)->w'.rangeAt g a cs:=fun _ ⟨x,e⟩ j v hv=>by rw[e];exact(x.grows.cell (p:=⟨g,a+j,none⟩) b).trans (c j v hv)
theorem od{w w':Ub}{B g a:Nat}{cs:List Uc}(d:w.rangeAt g a cs)(b:Below B w w')(c:g<B):w'.rangeAt g a cs:=fun j v hv=>(b.cell (p:=⟨g,a+j,none⟩) c).trans (d j v hv)
theorem bh.SG{w:Ub}{B n:Nat}{A:Option Addr}{l:List Cd}(h:bh w B 4 A n (cR l)){k:Nat}(d:k<n):∃b a,A=some ⟨b,a,none⟩/\b<B/\w.rangeAt b (a+k*4) (l.getD k default).vals:=by
 obtain⟨b,a,f,c,i,e,g,m⟩:=h.Ts d;refine⟨b,a,f,c,fun j v hv=>?_⟩;match j,hv with
 |0,hv=>injection hv with hv;rw[<-hv];exact i
 |1,hv=>injection hv with hv;rw[<-hv];exact e
 |2,hv=>injection hv with hv;rw[<-hv];exact g
 |3,hv=>injection hv with hv;rw[<-hv];exact m
 |j+4,hv=>simp[Cd.vals]at hv
theorem iV{P:Program}{w:Ub}(d:Nat)(xs c:Array Uc)(f:Field)(e:List Field)(l:f.name≠ "_"){a b:Uc}{r:Bool}(g:(part f.type xs f.offset).run P w=.ok a w)(k:(part f.type c f.offset).run P w=.ok b w)
  (i:(Op.equalIn d f.type a b).run P w=.ok r w){s:Bool}(j:(Op.eqFields d xs c e).run P w=.ok s w):(Op.eqFields d xs c (f::e)).run P w=.ok (r&&s) w:=by
 unfold Op.eqFields;rw[aj l];simp only[aY,g,k,i,bd];cases r
 ·rfl
 exact j
def gI(c:Cd):Array Uc:=#[TY T6 c.arg,TY T6 c.op,TY T8 c.mask,TY T8 c.val]
def C6(x y:Cd):Bool:=decide (x.arg=y.arg)&&(decide (x.op=y.op)&&(decide (x.mask=y.mask)&&decide (x.val=y.val)))
theorem Ix(x y:Cd):C6 x y=decide (x=y):=by
 obtain⟨a,b,c,d⟩:=x;obtain⟨e,f,g,h⟩:=y;rw[aZ];simp[C6]
theorem Ar{P:Program}{f e:TypeId}{n0 n1 n2 n3 a0 a1 a2 a3 p0 p1 p2 p3:String}{y0 y1 y2 y3:Nat}{e0 e1 e2 e3':Bool}(n:P.underlying f=some (.int T6))(o:P.underlying e=some (.int T8))
  (i:P.plainKey f=true)(g:P.plainKey e=true)(m:n0≠ "_")(j:n1≠ "_")(l:n2≠ "_")(k:n3≠ "_")(d:Nat)(x y:Cd)(w:Ub):
  (Op.eqFields (d+2) (gI x) (gI y) [{name:=n0,type:=f,offset:=0,embedded:=e0,tag:=a0,pkgPath:=p0,byteOffset:=y0},{name:=n1,type:=f,offset:=1,embedded:=e1,tag:=a1,pkgPath:=p1,byteOffset:=y1},{name:=n2,type:=e,offset:=2,embedded:=e2,tag:=a2,pkgPath:=p2,byteOffset:=y2},{name:=n3,type:=e,offset:=3,embedded:=e3',tag:=a3,pkgPath:=p3,byteOffset:=y3}]).run P w=.ok (C6 x y) w:=by
 have c:∀(x:Cd),(gI x)[0]? =some (TY T6 x.arg)/\(gI x)[1]? =some (TY T6 x.op)/\(gI x)[2]? =some (TY T8 x.mask)/\(gI x)[3]? =some (TY T8 x.val):=fun x=>⟨rfl,rfl,rfl,rfl⟩
 obtain⟨u,J,E,v⟩:=c x;obtain⟨F,C,A,D⟩:=c y;have r:∀q t (a b:Int),P.underlying t=some (.int q)->(Op.equalIn (d+2) t (TY q a) (TY q b)).run P w=.ok (decide (a=b)) w:=fun q t a b h=>by
  rw[run_equalIn_int w (d+1) t q q _ _ h];congr 1
 have p:∀q t (a b:Nat),P.underlying t=some (.int q)->(Op.equalIn (d+2) t (TY q a) (TY q b)).run P w=.ok (decide (a=b)) w:=fun q t a b h=>by
  rw[run_equalIn_int w (d+1) t q q _ _ h];congr 1;rw[aZ];simp only[mM,aV];omega
 unfold C6;generalize gI x=X at*;generalize gI y=Y at*;have H:(Op.eqFields (d+2) X Y [{name:=n3,type:=e,offset:=3,embedded:=e3',tag:=a3,pkgPath:=p3,byteOffset:=y3}]).run P w=.ok (decide (x.val=y.val)) w:=by
  have:=iV (P:=P) (w:=w) (d+2) X Y {name:=n3,type:=e,offset:=3,embedded:=e3',tag:=a3,pkgPath:=p3,byteOffset:=y3} [] k (run_part_plain w g v) (run_part_plain w g D) (p T8 e x.val y.val o) (s:=true) (by simp[Op.eqFields]);rwa [QV]at this
 have G:=iV (P:=P) (w:=w) (d+2) X Y {name:=n2,type:=e,offset:=2,embedded:=e2,tag:=a2,pkgPath:=p2,byteOffset:=y2} _ l (run_part_plain w g E) (run_part_plain w g A) (p T8 e x.mask y.mask o) H;have B:=iV (P:=P) (w:=w) (d+2) X Y {name:=n1,type:=f,offset:=1,embedded:=e1,tag:=a1,pkgPath:=p1,byteOffset:=y1} _ j (run_part_plain w i J) (run_part_plain w i C) (r T6 f x.op y.op n) G;have z:=iV (P:=P) (w:=w) (d+2) X Y {name:=n0,type:=f,offset:=0,embedded:=e0,tag:=a0,pkgPath:=p0,byteOffset:=y0} _ m (run_part_plain w i u) (run_part_plain w i F) (r T6 f x.arg y.arg n) B;exact z
theorem Fv(x y:Cd)(w:Ub):(binOp .eql 162 (T1 (gI x)) (T1 (gI y))).run prog w=.ok (T2 (decide (x=y))) w:=by
 rw[run_eql_struct,run_equalIn_struct w 9999 _ _ _ underlying162 (by kernel_rfl)];have e:=Ar (P:=prog) (n0:= "Arg") (n1:= "Op") (n2:= "Mask") (n3:= "Value") (a0:= "") (a1:= "") (a2:= "") (a3:= "") (p0:= "") (p1:= "") (p2:= "") (p3:= "") (e0:=false) (e1:=false) (e2:=false) (e3':=false) (y0:=0) (y1:=8) (y2:=16) (y3:=24)
  underlying3 underlying29 (by kernel_rfl) (by kernel_rfl) (by decide) (by decide) (by decide) (by decide) 9997 x y w
 have a:(prog.fieldsOf 162).toList=[{name:= "Arg",type:=3,offset:=0,embedded:=false,tag:= "",pkgPath:= "",byteOffset:=0},{name:= "Op",type:=3,offset:=1,embedded:=false,tag:= "",pkgPath:= "",byteOffset:=8},{name:= "Mask",type:=29,offset:=2,embedded:=false,tag:= "",pkgPath:= "",byteOffset:=16},{name:= "Value",type:=29,offset:=3,embedded:=false,tag:= "",pkgPath:= "",byteOffset:=24}]:=by
  simp[Program.fieldsOf,underlying162]
 rw[a,e,Ix];rfl
theorem Fw(x y:Cd)(w:Ub):(binOp .neq 162 (T1 (gI x)) (T1 (gI y))).run prog w=.ok (T2 (!decide (x=y))) w:=by
 have h:=Fv x y w;rw[run_eql_struct]at h;rw[run_neq_struct];cases e:(Op.equalIn 10000 162 (T1 (gI x)) (T1 (gI y))).run prog w with
 |ok b w'=>
  rw[e]at h;simp only[bd]at h⊢;injection h with c d
  injection c with c;rw[c,d]
 |halt a b=>rw[e]at h;cases h
def kg(a b:Int):Array Uc:=#[TY T6 a,TY T6 b]
theorem Df{P:Program}{f:TypeId}{n0 n1 a0 a1 p0 p1:String}{y0 y1:Nat}{e0 e1:Bool}(k:P.underlying f=some (.int T6))(g:P.plainKey f=true)(j:n0≠ "_")(i:n1≠ "_")(d:Nat)(a b c e:Int)(w:Ub):
  (Op.eqFields (d+2) (kg a b) (kg c e) [{name:=n0,type:=f,offset:=0,embedded:=e0,tag:=a0,pkgPath:=p0,byteOffset:=y0},{name:=n1,type:=f,offset:=1,embedded:=e1,tag:=a1,pkgPath:=p1,byteOffset:=y1}]).run P w=.ok (decide (a=c)&&decide (b=e)) w:=by
 have l:∀q t (a b:Int),P.underlying t=some (.int q)->(Op.equalIn (d+2) t (TY q a) (TY q b)).run P w=.ok (decide (a=b)) w:=fun q t a b h=>by
  rw[run_equalIn_int w (d+1) t q q _ _ h];congr 1
 have m:(kg a b)[0]? =some (TY T6 a):=rfl;have r:(kg a b)[1]? =some (TY T6 b):=rfl;have p:(kg c e)[0]? =some (TY T6 c):=rfl;have o:(kg c e)[1]? =some (TY T6 e):=rfl;generalize kg a b=X at*;generalize kg c e=Y at*;have n:(Op.eqFields (d+2) X Y [{name:=n1,type:=f,offset:=1,embedded:=e1,tag:=a1,pkgPath:=p1,byteOffset:=y1}]).run P w=.ok (decide (b=e)) w:=by
  have:=iV (P:=P) (w:=w) (d+2) X Y {name:=n1,type:=f,offset:=1,embedded:=e1,tag:=a1,pkgPath:=p1,byteOffset:=y1} [] i (run_part_plain w g r) (run_part_plain w g o) (l T6 f b e k) (s:=true) (by simp[Op.eqFields,jF]);rwa [QV]at this
 exact iV (P:=P) (w:=w) (d+2) X Y {name:=n0,type:=f,offset:=0,embedded:=e0,tag:=a0,pkgPath:=p0,byteOffset:=y0} _ j (run_part_plain w g m) (run_part_plain w g p) (l T6 f a c k) n
theorem PQ(a b c e:Int)(w:Ub):(binOp .eql 43 (T1 #[TY T6 a,TY T6 b]) (T1 #[TY T6 c,TY T6 e])).run prog w=.ok (T2 (decide (a=c/\b=e))) w:=by
 show(binOp .eql 43 (T1 (kg a b)) (T1 (kg c e))).run prog w=_
 rw[run_eql_struct,run_equalIn_struct w 9999 _ _ _ underlying43 (by kernel_rfl)];have h:=Df (P:=prog) (n0:= "Kind") (n1:= "Number") (a0:= "") (a1:= "") (p0:= "") (p1:= "") (e0:=false) (e1:=false) (y0:=0) (y1:=8) underlying3 (by kernel_rfl) (by decide) (by decide) 9997 a b c e w;have d:(prog.fieldsOf 43).toList=[{name:= "Kind",type:=3,offset:=0,embedded:=false,tag:= "",pkgPath:= "",byteOffset:=0},{name:= "Number",type:=3,offset:=1,embedded:=false,tag:= "",pkgPath:= "",byteOffset:=8}]:=by
  simp[Program.fieldsOf,underlying43]
 rw[d,h];simp only[bd];have:(decide (a=c)&&decide (b=e))=decide (a=c/\b=e):=by rw[aZ];simp
 rw[this]
def Ry(w:Ub)(B:Nat)(r:PR)(vs:List Uc):Prop:=∃A c,vs=[T0 A r.conds.length c,TY T7 r.code]/\bh w B 4 A r.conds.length (cR r.conds)
def Nu(w:Ub)(B:Nat)(A:Option Addr)(l:List PR):Prop:=eX w B 2 (Ry w B) A l
def Rz(w:Ub)(B:Nat)(e:PE)(vs:List Uc):Prop:=∃A c,vs=[TY T7 e.number,T0 A e.rules.length c]/\Nu w B A e.rules
def PEs(w:Ub)(B:Nat)(A:Option Addr)(l:List PE):Prop:=eX w B 2 (Rz w B) A l
def PS.vals(x:PS):List Uc:=[TY T7 x.number,TY T7 x.code]
def Sd(x:PS)(vs:List Uc):Prop:=vs=x.vals
def Nv(w:Ub)(B:Nat)(A:Option Addr)(l:List PS):Prop:=eX w B 2 Sd A l
section
variable {w w':Ub} {B B':Nat} {A:Option Addr}
theorem Ry.below{r:PR}{vs:List Uc}(h:Ry w B r vs)(d:Below B w w'):Ry w' B r vs:=by
 obtain⟨A,c,b,a⟩:=h;exact⟨A,c,b,a.below d⟩
theorem Nu.below{l:List PR}(h:Nu w B A l)(a:Below B w w'):Nu w' B A l:=eX.keep h (fun _ b=>a.cell b) fun _ _ c=>c.below a
theorem Rz.below{r:PE}{vs:List Uc}(h:Rz w B r vs)(d:Below B w w'):Rz w' B r vs:=by
 obtain⟨A,c,b,a⟩:=h;exact⟨A,c,b,a.below d⟩
theorem PEs.below{l:List PE}(h:PEs w B A l)(a:Below B w w'):PEs w' B A l:=eX.keep h (fun _ b=>a.cell b) fun _ _ c=>c.below a
theorem Nv.below{l:List PS}(h:Nv w B A l)(c:Below B w w'):Nv w' B A l:=eX.keep h (fun _ a=>c.cell a) fun _ _ b=>b
theorem Nu.at_{l:List PR}(h:Nu w B A l){k:Nat}(f:k<l.length):∃b a c d,A=some ⟨b,a,none⟩/\b<B/\w.cell? ⟨b,a+k*2,none⟩=some (T0 c (l.getD k default).conds.length d)/\
  w.cell? ⟨b,a+k*2+1,none⟩=some (TY T7 ((l.getD k default).code:Nat))/\bh w B 4 c (l.getD k default).conds.length (cR (l.getD k default).conds):=by
 obtain⟨b,a,i,g,vs,m,⟨c,d,rfl,j⟩,e⟩:=eX.at_ h f;exact⟨b,a,c,d,i,g,e 0 _ rfl,e 1 _ rfl,j⟩
theorem PEs.at_{l:List PE}(h:PEs w B A l){k:Nat}(f:k<l.length):∃b a c d,A=some ⟨b,a,none⟩/\b<B/\w.cell? ⟨b,a+k*2,none⟩=some (TY T7 ((l.getD k default).number:Nat))/\
  w.cell? ⟨b,a+k*2+1,none⟩=some (T0 c (l.getD k default).rules.length d)/\Nu w B c (l.getD k default).rules:=by
 obtain⟨b,a,i,g,vs,m,⟨c,d,rfl,j⟩,e⟩:=eX.at_ h f;exact⟨b,a,c,d,i,g,e 0 _ rfl,e 1 _ rfl,j⟩
theorem Nv.at_{l:List PS}(h:Nv w B A l){k:Nat}(d:k<l.length):∃b a,A=some ⟨b,a,none⟩/\b<B/\w.cell? ⟨b,a+k*2,none⟩=some (TY T7 ((l.getD k default).number:Nat))/\
  w.cell? ⟨b,a+k*2+1,none⟩=some (TY T7 ((l.getD k default).code:Nat)):=by
 obtain⟨b,a,f,e,vs,g,rfl,c⟩:=eX.at_ h d;exact⟨b,a,f,e,c 0 _ rfl,c 1 _ rfl⟩
end
structure jO(w:Ub)(B:Nat)(pl:Pl)(vs:Array Uc):Prop where
 cells:∃A0 c0 A1 c1 A2 c2 A3 c3 A4 c4 S0 d0 S1 d1,vs=#[TY T7 pl.dflt,T2 pl.x32,T0 A0 (pl.entries.getD 0 []).length c0,T0 A1 (pl.entries.getD 1 []).length c1,T0 A2 (pl.entries.getD 2 []).length c2,T0 A3 (pl.entries.getD 3 []).length c3,T0 A4 (pl.entries.getD 4 []).length c4,T0 S0 (pl.subs.getD 0 []).length d0,T0 S1 (pl.subs.getD 1 []).length d1]/\
  PEs w B A0 (pl.entries.getD 0 [])/\PEs w B A1 (pl.entries.getD 1 [])/\PEs w B A2 (pl.entries.getD 2 [])/\PEs w B A3 (pl.entries.getD 3 [])/\PEs w B A4 (pl.entries.getD 4 [])/\Nv w B S0 (pl.subs.getD 0 [])/\Nv w B S1 (pl.subs.getD 1 [])
theorem jO.below{w w':Ub}{B:Nat}{b:Pl}{vs:Array Uc}(h:jO w B b vs)(a:Below B w w'):jO w' B b vs:=by
 obtain⟨m,y,f,n,u,p,t,q,o,x,d,d0,v,i,e,j,c,r,g,k,s,l⟩:=h.cells;exact⟨⟨m,y,f,n,u,p,t,q,o,x,d,d0,v,i,e,j.below a,c.below a,r.below a,g.below a,k.below a,s.below a,l.below a⟩⟩
theorem jO.entry{w:Ub}{B:Nat}{b:Pl}{vs:Array Uc}(h:jO w B b vs){a:Nat}(q:a<5):∃A c,vs[2+a]? =some (T0 A (b.entries.getD a []).length c)/\PEs w B A (b.entries.getD a []):=by
 obtain⟨j,t,e,k,r,m,p,n,l,s,u,d0,z,v,rfl,g,d,o,f,i,y,x⟩:=h.cells;match a,q with
 |0,_=>exact⟨j,t,rfl,g⟩
 |1,_=>exact⟨e,k,rfl,d⟩
 |2,_=>exact⟨r,m,rfl,o⟩
 |3,_=>exact⟨p,n,rfl,f⟩
 |4,_=>exact⟨l,s,rfl,i⟩
theorem jO.sub{w:Ub}{B:Nat}{a:Pl}{vs:Array Uc}(h:jO w B a vs){m:Nat}(f:m<2):∃A c,vs[7+m]? =some (T0 A (a.subs.getD m []).length c)/\Nv w B A (a.subs.getD m []):=by
 obtain⟨p,z,k,q,x,s,v,t,r,y,b,d0,i,d,rfl,n,j,u,l,o,g,e⟩:=h.cells;match m,f with
 |0,_=>exact⟨b,d0,rfl,g⟩
 |1,_=>exact⟨i,d,rfl,e⟩
theorem jO.dflt{w:Ub}{B:Nat}{a:Pl}{vs:Array Uc}(h:jO w B a vs):vs[0]? =some (TY T7 a.dflt)/\vs[1]? =some (T2 a.x32)/\vs.size=9:=by
 obtain⟨e,o,c,f,l,i,k,j,g,n,b,d0,m,d,rfl,_⟩:=h.cells;exact⟨rfl,rfl,rfl⟩
def Rp(P:Prop)(w:Ub)(e:Ending)(w':Ub):Prop:=∃b:Bool,e=.returned (T2 b)/\(b=true↔P)/\Below w.heap.size w w'
theorem rN{P:Prop}{w w':Ub}(h:¬P)(a:Below w.heap.size w w'):Rp P w (.returned (T2 false)) w':=⟨false,rfl,⟨(fun e=>by cases e),fun e=>(h e).elim⟩,a⟩
structure gN(g:Nat)(w w':Ub):Prop where
 os:w'.os=w.os
 tape:w'.tape=w.tape
 output:w'.output=w.output
 size:w.heap.size<=w'.heap.size
 block:∀k,k<w.heap.size->k≠g->w'.heap[k]? =w.heap[k]?
theorem gN.refl(g:Nat)(w:Ub):gN g w w:=⟨rfl,rfl,rfl,ae _,fun _ _ _=>rfl⟩
theorem gN.trans{g:Nat}{a b c:Ub}(h:gN g a b)(k:gN g b c):gN g a c:=⟨k.os.trans h.os,k.tape.trans h.tape,k.output.trans h.output,ax h.size k.size,fun j d e=>(k.block j (bn d h.size) e).trans (h.block j d e)⟩
theorem gN.SC{g:Nat}{w w':Ub}(h:Below w.heap.size w w'):gN g w w':=⟨h.os,h.tape,h.output,h.size,fun k a _=>h.block k a⟩
theorem gN.alloc{g:Nat}{a w:Ub}(h:gN g a w)(o:Obj):gN g a (w.alloc o):=h.trans (.SC ((aw _ w).alloc (ae _) o))
theorem gN.drew{g:Nat}{a w:Ub}(h:gN g a w):gN g a w.drew:=⟨h.os,h.tape,h.output,h.size,h.block⟩
theorem gN.setCell{g:Nat}{a w:Ub}(h:gN g a w){p:Addr}(d:p.block=g)(v:Uc):gN g a (w.setCell p v):=
 ⟨h.os,h.tape,h.output,by simpa[World.setCell]using h.size,fun k b c=>(cK _ _ _ _ (by omega)).trans (h.block k b c)⟩
def RM(n:Nat):Uc:=TY T7 n
def jB(b:Uc)(s:Vs)(steps:Nat)(ld:Uc):List Uc:=[b,TY T6 s.at_,TY T7 s.a,TY T7 s.x]++s.cells.map RM++[TY T7 0,TY T6 steps,ld]
def F9(i:I)(f d:Nat)(x:Bool):Uc:=T1 #[TY T9 i.code,TY .u8 i.jt,TY .u8 i.jf,TY T7 i.k,.func (.func f) #[] #[],TY T6 d,T2 x]
theorem yw{b:Uc}{s:Vs}{st:Nat}{ld:Uc}(h:s.cells.length=16):(jB b s st ld)[21]? =some (TY T6 st):=by
 unfold jB;rw[bY (by simp[h])];simp[h]
theorem zW{b:Uc}{s:Vs}{st:Nat}{ld:Uc}(h:s.cells.length=16)(n:Nat):(jB b s st ld).set 21 (TY T6 n)=jB b s n ld:=by
 unfold jB;rw[zJ _ _ (by simp[h])];simp[h]
theorem yx{b:Uc}{s:Vs}{st:Nat}{ld:Uc}(h:s.cells.length=16):(jB b s st ld)[22]? =some ld:=by
 unfold jB;rw[bY (by simp[h])];simp[h]
theorem zX{b:Uc}{s:Vs}{st:Nat}{ld:Uc}(h:s.cells.length=16)(v:Uc):(jB b s st ld).set 22 v=jB b s st v:=by
 unfold jB;rw[zJ _ _ (by simp[h])];simp[h]
theorem GV{b:Uc}{s:Vs}{st:Nat}{ld:Uc}(h:s.cells.length=16):(jB b s st ld)[20]? =some (TY T7 0):=by
 unfold jB;rw[bY (by simp[h])];simp[h]
theorem Pg(i:I)(f d:Nat)(x:Bool)(g:Nat)(b:Uc)(s:Vs)(r:s.Ok)(st:Nat)(ld:Uc)(w:Ub)(c:dx w g 246 23 (jB b s st ld)):
  Calls prog 185 #[TZ (some ⟨g,0,none⟩),F9 i f d x] w fun e w'=>e=.returned (T4 #[])/\dx w' g 246 23 (jB b {s with a:=i.k} st ld)/\gN g w w':=by
 obtain⟨o,q,n,l⟩:=i;have m:=c.lt;have t:=c.frozen 2;have p:=c.cell (k:=2) rfl;have j:=Lib.hid c;clear c;unfold F9;simp only;go_enter func185,ntmps185;go_wp2_with fail;all_goals
  go_end0;refine⟨rfl,?_,?_⟩
  ·first
    |exact(j.out.set_ 2 (TY T7 l)).alloc _
    |exact((j.out.alloc _).set_ 2 (TY T7 l))
    |exact((show dx (World.drewN _ _) _ _ _ _ from j.out.alloc _).set_ 2 (TY T7 l))
  first
   |exact((gN.refl g w).setCell rfl _).alloc _
   |exact((gN.refl g w).alloc _).setCell rfl _
   |exact(((gN.refl g w).alloc _).drewN _).setCell rfl _
   |exact(((gN.refl g w).alloc _).drew).setCell rfl _
   |exact(((gN.refl g w).setCell rfl _).drew).alloc _
   |exact(((gN.refl g w).setCell rfl _).alloc _).drew
   |exact(((gN.refl g w).alloc _).setCell rfl _).drew
   |exact(((gN.refl g w).setCell rfl _).drewN _).alloc _
   |exact(((gN.refl g w).setCell rfl _).alloc _).drewN _
   |exact(((gN.refl g w).alloc _).setCell rfl _).drewN _
theorem No(i:I)(f d:Nat)(x:Bool)(g:Nat)(b:Uc)(s:Vs)(t:s.Ok)(st:Nat)(ld:Uc)(w:Ub)(a:dx w g 246 23 (jB b s st ld))(u:s.at_<=1000000)(l:i.k<4294967296):
  Calls prog 196 #[TZ (some ⟨g,0,none⟩),F9 i f d x] w fun e w'=>e=.returned (T4 #[])/\dx w' g 246 23 (jB b {s with at_:=s.at_+i.k} st ld)/\gN g w w':=by
 obtain⟨p,r,n,j⟩:=i;have m:=a.lt;have o:=a.frozen 1;have q:=a.cell (k:=1) rfl;simp only at l;have c:=Lib.hid a;clear a;unfold F9;simp only;go_enter func196,ntmps196;go_wp2_with fail;go_region;all_goals
  go_end0;refine⟨rfl,?_,?_⟩
  ·first
    |exact(c.out.set_ 1 (TY T6 (s.at_+j:Nat))).alloc _
    |exact((c.out.alloc _).set_ 1 (TY T6 (s.at_+j:Nat)))
    |exact((show dx (World.drewN _ _) _ _ _ _ from c.out.alloc _).set_ 1 (TY T6 (s.at_+j:Nat)))
  first
   |exact((gN.refl g w).setCell rfl _).alloc _
   |exact((gN.refl g w).alloc _).setCell rfl _
   |exact(((gN.refl g w).alloc _).drewN _).setCell rfl _
   |exact(((gN.refl g w).alloc _).drew).setCell rfl _
   |exact(((gN.refl g w).setCell rfl _).drew).alloc _
   |exact(((gN.refl g w).setCell rfl _).alloc _).drew
   |exact(((gN.refl g w).alloc _).setCell rfl _).drew
   |exact(((gN.refl g w).setCell rfl _).drewN _).alloc _
   |exact(((gN.refl g w).setCell rfl _).alloc _).drewN _
   |exact(((gN.refl g w).alloc _).setCell rfl _).drewN _
def JH(v:Nat):Ending:=.panicked [{v:=.iface 248 (T1 #[TY T7 v]),recovered:=false}]
theorem KG(i:I)(f d:Nat)(g:Nat)(b:Uc)(s:Vs)(q:s.Ok)(st:Nat)(ld:Uc)(w:Ub)(j:dx w g 246 23 (jB b s st ld)):
  TV 199 #[TZ (some ⟨g,0,none⟩),F9 i f d (kx i)] w (TY T7 (othN i s:Nat)):=by
 have o:=j.cell (k:=3) rfl;have l:=j.lt;have a:othN i s=if kx i=true then s.x else i.k:=rfl
 generalize kx i=x at*;obtain⟨n,p,m,r⟩:=i;simp only at a;unfold F9;simp only;clear j;cases x with
 |true=>
  rw[aj rfl]at a;have c:=Lib.hid a;clear a;go_enter func199,ntmps199;go_wp2_with fail;go_ret;refine⟨?_,(aw _ w).alloc (ae _) _⟩;rw[c.out];rfl
 |false=>
  rw[af (by simp)]at a;have c:=Lib.hid a;clear a;go_enter func199,ntmps199;go_wp2_with fail;go_ret;refine⟨?_,(aw _ w).alloc (ae _) _⟩;rw[c.out];rfl
theorem Nn(i:I)(f d:Nat)(x:Bool)(g:Nat)(w:Ub):
  Calls prog 197 #[TZ (some ⟨g,0,none⟩),F9 i f d x] w fun e w'=>e=JH i.k/\Below w.heap.size w w':=by
 obtain⟨j,c,b,a⟩:=i;unfold F9;simp only;go_enter func197,ntmps197;go_wp2_with fail;exact⟨rfl,rfl,(aw _ w).alloc (ae _) _⟩
def yB(p:Nat×Nat)(w:Ub)(e:Ending)(w':Ub):Prop:=e=.returned (T4 #[TY T6 p.1,TY T6 p.2])/\Below w.heap.size w w'
theorem BU(x:Int)(w:Ub):TW 94 #[TY T7 x] w (T2 false):=by
 go_enter func94,ntmps94;go_wp2_with fail;go_ret;exact⟨eQ (fun b=>Ending.returned (T2 b)) (by simp),rfl⟩
namespace Any
variable {P:Program} {ops:Array Oper} {Q:Exit->Act->Ub->Prop}
theorem wpAny_inv{k:Nat}(I:Array Bool->Act->Ub->Prop)(d:coverB ops k=true)
  (u:∀(i:Nat) (o:Oper),ops[i]? =some o->∀e∈o.after,Region.binds .any e=true->e.on<i)(M:k<=ops.size)
  (steps:∀(i:Nat) (o:Oper) (listed:Array Bool) (a:Act) (w:Ub),i<k->ops[i]? =some o->Closed ops listed->listed.getD i true=false->(∀e∈o.after,Region.binds .any e=true->listed.getD e.on false=true)->I listed a w->
    if Region.wanted o (yielded ops a.tmps)then o.wp P a w (fun N w'=>I (listed.setIfInBounds i true) N w') Q else I (listed.setIfInBounds i true) (a.put o.dst undef) w)
  (done:∀(listed:Array Bool) (a:Act) (w:Ub),I listed a w->(∀j,j<k->listed.getD j false=true)->wpList P ops Q (ops.toList.drop k) a w):
  ∀(fuel:Nat) (listed:Array Bool) (a:Act) (w:Ub),Closed ops listed->I listed a w->(∀j,k<=j->j<ops.size->listed.getD j true=false)->
   (List.range ops.size).countP (fun i=> !listed.getD i true)<=fuel->wpAny P .any ops Q fuel listed a w:=by
 have conv:∀{listed:Array Bool} {j:Nat},listed.size=ops.size->j<ops.size->listed.getD j true=true->listed.getD j false=true:=by
  intro listed j hs hj h;simp only[au]at h⊢;rw[bF (by omega)]at h⊢;simpa using h
 have c:∀(listed:Array Bool),(∀j,k<=j->j<ops.size->listed.getD j true=false)->ops.size - k<=(List.range ops.size).countP (fun i=> !listed.getD i true):=by
  intro listed s;have q:(List.range ops.size).countP (fun i=>decide (k<=i))<=(List.range ops.size).countP (fun i=> !listed.getD i true):=by
   apply oH
   intro x H X;rw[s x (by simpa using X) (bE.1 H)];rfl
  have A:∀n,n - k<=(List.range n).countP (fun i=>decide (k<=i)):=by
   intro n;induction n with
   |zero=>simp
   |succ n ih=>
    rw[fI,Si];by_cases h:k<=n
    ·simp[h];omega
    omega
  exact ax (A _) q
 intro fuel;induction fuel with
 |zero=>
  intro listed a w m B s v;have W:k=ops.size:=by have:=c listed s;omega
  have b:∀j,j<k->listed.getD j false=true:=by
   intro j hj;cases S:listed.getD j true with
   |true=>exact conv m.size (by omega) S
   |false=>
    exfalso;have O:0<(List.range ops.size).countP (fun i=> !listed.getD i true):=Dp.2 ⟨j,bE.2 (by omega),by rw[S];rfl⟩;omega
  exact wpAny_tail d u 0 k listed a w (ae _) M m b s (by omega) (done listed a w B b)
 |succ fuel ih=>
  intro listed a w m B s v;by_cases b:∀j,j<k->listed.getD j false=true
  ·exact wpAny_tail d u _ k listed a w (ae _) M m b s (by have:=c listed s;omega) (done listed a w B b)
  obtain⟨C,J⟩:=RX.1 b;obtain⟨T,t⟩:=Sk.1 J;refine⟨fun Y=>absurd (all_listed m.size u Y (C+1) C (by omega) (by omega)) t,fun i Z=>?_⟩;obtain⟨q,A,G⟩:=ready_mem Z;have r:ops[i]? =some (ops[i]'q):=bF q;generalize ops[i]'q=o at r;have F:i<k:=by
   rcases dB i k with h|h
   ·exact h
   exfalso;have hcv:=cL.1 d i (bE.2 q);simp only[df,aV]at hcv;rcases hcv with hcv|hcv
   ·omega
   exact t (reach_listed m _ i C o r (G o r) (cL.1 hcv C (bE.2 (by omega))))
  have g:=steps i o listed a w F r m A (G o r) B;have f:(List.range ops.size).countP (fun j=> !(listed.setIfInBounds i true).getD j true)<=fuel:=by
   have ad:=countP_less (p:=fun j=> !listed.getD j true) (i:=i) (l:=List.range ops.size) (bE.2 q) (by rw[A];rfl);have U:(List.range ops.size).countP (fun j=> !(listed.setIfInBounds i true).getD j true)=(List.range ops.size).countP (fun x=>(!listed.getD x true)&&x != i):=by
    apply tE
    intro x H;have V:x<ops.size:=bE.1 H;by_cases e:x=i
    ·subst e;simp[au,m.size,q]
    simp only[au];rw[aW (fun h=>e h.symm)];simp[e]
   omega
  have y:=m.set_ r (G o r);have z:∀j,k<=j->j<ops.size->(listed.setIfInBounds i true).getD j true=false:=fun j D L=>by
   have:=s j D L;simp only[au]at this⊢;rwa [aW (by omega)]
  unfold wpOp;simp only[r];by_cases R:Region.wanted o (yielded ops a.tmps)=true
  ·rw[aj R]at g⊢;exact .inl (jE (fun N w' E=>ih _ _ _ y E z f) g)
  rw[af R]at g⊢;exact ih _ _ _ y g z f
def But(a:Tmp)(S:Tmp->Kd):Tmp->Uc->Ub->Prop:=fun d v w=>d≠a->(S d).sat v w
def FreeStep(P:Program)(ops:Array Oper)(Q:Exit->Act->Ub->Prop)(S:Tmp->Kd)(c:Tmp)(a0:Act)(o:Oper):Prop:=
 o.guard=none/\∀(a:Act) (b w:Ub),(∀t,t∉dsts ops->a.tmps.getD t undef=a0.tmps.getD t undef)->(∀d∈deps ops o,But c S d (a.tmps.getD d undef) b)->
  o.wp P a w (fun e w'=>∃v,e=a.put o.dst v/\w'=w/\∀d,o.dst=some d->d≠c/\(S d).sat v b) Q
def StepsBut(P:Program)(ops:Array Oper)(Q:Exit->Act->Ub->Prop)(S:Tmp->Kd)(a0:Act)(w0:Ub)(p:Nat):Nat->Nat->List Oper->Prop
 | _, 0, _ => True
 | _, _, [] => True
 |i,n+1,o::l=>(i=p\/St P ops Q S a0 w0 o)/\StepsBut P ops Q S a0 w0 p (i+1) n l
theorem stepsBut_of{S:Tmp->Kd}{a0:Act}{w0:Ub}{p:Nat}:∀{i n:Nat} {l:List Oper},StepsBut P ops Q S a0 w0 p i n l->∀j o,j<n->i+j≠p->l[j]? =some o->St P ops Q S a0 w0 o
 | _, 0, _, _, j, _, c, _, _ => absurd c (by omega)
 | _, n + 1, [], _, j, o, _, _, a => by simp at a
 |i,n+1,x::l,h,j,o,c,d,a=>by
  have b:(i=p\/St P ops Q S a0 w0 x)/\StepsBut P ops Q S a0 w0 p (i+1) n l:=h;cases j with
  |zero=>
   simp at a;subst a;rcases b.1 with e|e
   ·omega
   exact e
  |succ j=>exact stepsBut_of b.2 j o (by omega) (by omega) (by simpa using a)
def Lates(P:Program)(ops:Array Oper)(Q:Exit->Act->Ub->Prop)(S:Tmp->Kd)(a:Tmp)(a0:Act)(l:List Oper):List Nat->Prop
 |[]=>True
 |i::t=>(∃o,l[i]? =some o/\FreeStep P ops Q S a a0 o)/\Lates P ops Q S a a0 l t
theorem lates_of{S:Tmp->Kd}{a:Tmp}{a0:Act}{l:List Oper}:∀{L:List Nat},Lates P ops Q S a a0 l L->∀i∈L,∀o,l[i]? =some o->FreeStep P ops Q S a a0 o
 |[],_,i,hi,_,_=>by simp at hi
 |x::t,h,i,hi,o,d=>by
  have c:(∃o,l[x]? =some o/\FreeStep P ops Q S a a0 o)/\Lates P ops Q S a a0 l t:=h;rcases aP.1 hi with rfl|hi
  ·obtain⟨⟨f,b,e⟩,_⟩:=c;rw[d]at b;injection b with b
   rw[b];exact e
  exact lates_of c.2 i hi o d
theorem wp_region_app{id:Nat}{l:List Oper}{a0:Act}{w:Ub}(k p:Nat)(r:Tmp)(L:List Nat)(hm:P.follows .mixedOrders=true)(S:Tmp->Kd)(D Dk:List Tmp)(hD:dsts l.toArray=D)(bl:dsts (l.take k).toArray=Dk)
  (bf:D.all (fun d=>decide (d<a0.tmps.size))=true)(W:backB l.toArray=true)(ad:coverB l.toArray k=true)(hk:k<=l.length)(br:p<k)
  (op:Oper)(bq:l[p]? =some op)(bb:op.guard=none)(N:op.dst=some r)
  (V:((List.range k).all fun i=>decide (i=p)||L.contains i||reachB l.toArray l.toArray.size p i)=true)
  (C:Ub->Uc->Ub->Prop)
  (steps:StepsBut P l.toArray Q S a0 w.drew p 0 k l)
  (late:Lates P l.toArray Q S r a0 l L)
  (app:∀(a:Act) (y:Ub),Ctx l.toArray S a0 w.drew op a y->op.wp P a y (fun a' w'=>∃v,a'=a.put (some r) v/\C y v w') Q)
  (done:∀(f:Tmp->Uc) (y w2:Ub),aS w.drew y->(∀d,Dk.contains d=true->d≠r->(S d).sat (f d) y)->C y (f r) w2->wpList P l.toArray Q (l.drop k) {tmps:=fill f D a0.tmps,defers:=a0.defers} w2):
  (Code.region id l.toArray true).wp P Q a0 w:=by
 refine Jd hm ?_;have s:∀d∈dsts l.toArray,d<a0.tmps.size:=fun d u=>by
  rw[hD]at u;simpa using cL.1 bf d u
 have B:l.toArray[p]? =some op:=by simpa using bq
 have c:∀{F:Tmp->Uc->Ub->Prop} {listed:Array Bool} {a:Act} {z:Ub} {o:Oper},Holds l.toArray F a0 w.drew listed a z->(∀e∈o.after,Region.binds .any e=true->listed.getD e.on false=true)->∀d∈deps l.toArray o,F d (a.tmps.getD d undef) z:=by
  intro F listed a z o b h3 d u;unfold deps at u;obtain⟨e,he,n⟩:=eE.1 u;unfold depOf at n;by_cases hb:Region.binds .any e=true
  ·rw[aj hb]at n;cases U:l.toArray[e.on]? with
   |none=>rw[U]at n;cases n
   |some oj=>
    rw[U]at n;exact b.new e.on oj d U (h3 e (by simpa using he) hb) n
  rw[af hb]at n;cases n
 let I:Array Bool->Act->Ub->Prop:=fun listed a z=>
  (listed.getD p false=false/\Holds l.toArray (fun d v w=>(S d).sat v w) a0 w.drew listed a z)\/(listed.getD p false=true/\∃y,Holds l.toArray (But r S) a0 w.drew listed a y/\C y (a.tmps.getD r undef) z)
 have q:∀d v w w',aS w w'->But r S d v w->But r S d v w':=fun d v w w' R h A=>(S d).mono v w w' R (h A)
 refine wpAny_inv (k:=k) I ad (back_of W) (by simpa using hk) (fun i o listed a z a4 m hc Z h3 hI=>?_) (fun listed a z hI J=>?_) _ _ _ _ ⟨by simp,fun j oj hj hl=>?_⟩ ?_ (fun j Y h2=>by simp only[au,cw,aj h2];rfl) ?_
 ·have a5:i<l.toArray.size:=(aL.1 m).1;have H:listed.getD i false=false:=by
   simp only[au]at Z⊢;rw[bF (by rw[hc.size];exact a5)]at Z⊢;simpa using Z
  by_cases M:i=p
  ·subst M;rw[B]at m;injection m with m
   subst m;rw[aj (by simp[Region.wanted,bb])];rcases hI with⟨_,b⟩|⟨Y,_⟩
   ·refine jE (fun a' w' hq=>?_) (app a z ⟨b.grows,fun t ht=>by simp only[au];rw[b.old t ht],c b h3⟩);obtain⟨v,rfl,g⟩:=hq;have am:(listed.setIfInBounds i true).getD i false=true:=by
     simp only[au];rw[lk (by rw[hc.size];exact a5)];rfl
    have bp:Holds l.toArray (But r S) a0 w.drew listed a z:=⟨b.grows,b.defers,b.size,b.old,fun j oj d a1 a2 a3 _=>b.new j oj d a1 a2 a3⟩;refine .inr ⟨am,z,?_,?_⟩
    ·rw[<-N];exact bp.put q s B (aS.refl _) (fun d u A=>absurd (by rw[N]at u;injection u with u;exact u.symm) A)
    have bk:r<a.tmps.size:=by rw[b.size];exact s r (mem_dsts B N)
    have:(a.put (some r) v).tmps.getD r undef=v:=by
     simp only[Act.put,au];rw[lk bk];rfl
    rw[this];exact g
   rw[H]at Y;cases Y
  have x:(listed.setIfInBounds i true).getD p false=listed.getD p false:=by
   simp only[au];rw[aW M]
  have ar:l[i]? =some o:=by simpa using m
  rcases hI with⟨h0,b⟩|⟨Y,y,b,g⟩
  ·have G:=stepsBut_of steps i o a4 (by omega) ar a z b.grows (fun t ht=>by simp only[au];rw[b.old t ht]) (c b h3);by_cases hw:Region.wanted o (yielded l.toArray a.tmps)=true
   ·rw[aj hw]at G⊢;refine jE (fun a' w' hq=>?_) G;obtain⟨v,rfl,hv,R⟩:=hq;exact .inl ⟨x.trans h0,b.put (fun d v w w' R h=>(S d).mono v w w' R h) s m R hv⟩
   rw[af hw]at G⊢;exact .inl ⟨x.trans h0,b.put (fun d v w w' R h=>(S d).mono v w w' R h) s m (aS.refl _) G⟩
  have T:FreeStep P l.toArray Q S r a0 o:=by
   have ap:=cL.1 V i (bE.2 a4);simp only[df,aV]at ap;rcases ap with(e|e)|e
   ·exact absurd e M
   ·exact lates_of late i (by simpa using e) o ar
   exfalso;have u:∀e∈op.after,Region.binds .any e=true->listed.getD e.on false=true:=hc.deps p op B Y;have:=reach_listed hc _ p i op B u e;rw[H]at this;cases this
  obtain⟨bi,bm⟩:=T;rw[aj (by simp[Region.wanted,bi])];refine jE (fun a' w' hq=>?_) (bm a y z (fun t ht=>by simp only[au];rw[b.old t ht]) (c b h3));obtain⟨v,rfl,rfl,hv⟩:=hq;refine .inr ⟨x.trans Y,y,b.put q s m (aS.refl _) (fun d u _=>(hv d u).2),?_⟩;have:(a.put o.dst v).tmps.getD r undef=a.tmps.getD r undef:=by
   cases ab:o.dst with
   |none=>rfl
   |some d=>exact put_other ((hv d ab).1)
  rw[this];exact g
 ·rcases hI with⟨h0,_⟩|⟨Y,y,b,g⟩
  ·rw[J p br]at h0;cases h0
  have a6:=b.shape;rw[hD]at a6;have bo:=done (fun d=>a.tmps.getD d undef) y z b.grows (fun d u A=>?_) g
  ·rw[a6];simpa using bo
  have al:d∈dsts (l.take k).toArray:=by rw[bl];simpa using u
  unfold dsts at al;obtain⟨o,ho,ab⟩:=eE.1 al;obtain⟨j,hj⟩:=pP ho;have E:(l.take k)[j]? =some o:=by simpa using hj
  rw[eS]at E;by_cases O:j<k
  ·rw[aj O]at E;exact b.new j o d (by simpa using E) (J j O) ab A
  rw[af O]at E;cases E
 ·have X:j<l.toArray.size:=(aL.1 hj).1;simp only[au,cw,aj X]at hl;cases hl
 ·refine .inl ⟨?_,aS.refl _,rfl,rfl,fun _ _=>rfl,fun j oj d hj hl=>?_⟩
  ·simp only[au,cw];split<;>rfl
  have X:j<l.toArray.size:=(aL.1 hj).1;simp only[au,cw,aj X]at hl;cases hl
 have:=kO (p:=fun i=> !(Array.replicate l.toArray.size false).getD i true) (l:=List.range l.toArray.size);simpa using this
theorem free_old1{S:Tmp->Kd}{g:Tmp}{a0:Act}{o:Oper}(d t:Tmp)(v u:Uc)(k:o.guard=none)(i:o.dst=some d)(f:d≠g)(j:(dsts ops).contains t=false)(l:a0.tmps.getD t undef=u)
  (m:∀(a:Act) (w:Ub),a.eval (.tmp t)=u->(execOp a.eval o).run P w=.ok (.value v) w)(n:S d=.eq v):FreeStep P ops Q S g a0 o:=
 ⟨k,fun a p w b _=>by
   have e:a.eval (.tmp t)=u:=(b t (by simpa using j)).trans l;unfold Oper.wp;rw[m a w e];refine⟨v,rfl,rfl,fun q c=>?_⟩;rw[i]at c;cases c;exact⟨f,by rw[n];rfl⟩⟩
end Any
theorem BE:(prog.info? 157).map (fun i=>(i.zero,i.size,i.bytes))=some (some (T1 #[TY T9 0,TY .u8 0,TY .u8 0,TY T7 0]),4,8):=by kernel_rfl
def ny(a:Int)(second:Bool):Int:=if a<0\/5<a then 0 else 16+8*a+(if second then 4 else 0)
def Eo(a:Int):Int:=if a<0\/5<a then 16 else 0
theorem Ng(a:Int)(i: -9223372036854775808<=a)(g:a<=9223372036854775807)(second:Bool)(w:Ub):
  TW 320 #[TY T6 a,T2 second] w (T4 #[TY T6 (ny a second),TY T6 (Eo a)]):=by
 by_cases d:a<0
 ·have e1:ny a second=0:=aj (.inl d);have e2:Eo a=16:=aj (.inl d);obtain⟨b,c⟩:=aA e1 e2;clear e1 e2;go_enter func320,ntmps320;go_wp2_with fail;go_ret2;exact⟨by rw[b.out,c.out];rfl,rfl⟩
 by_cases f:5<a
 ·have e1:ny a second=0:=aj (.inr f);have e2:Eo a=16:=aj (.inr f);obtain⟨b,c⟩:=aA e1 e2;clear e1 e2;go_enter func320,ntmps320;go_wp2_with fail;go_ret2;exact⟨by rw[b.out,c.out];rfl,rfl⟩
 have e1:ny a second=16+8*a+(if second then 4 else 0):=af (by omega);have e2:Eo a=0:=af (by omega);obtain⟨b,c⟩:=aA e1 e2;clear e1 e2;cases second
 ·go_enter func320,ntmps320;go_wp2_with fail;go_ret2;refine⟨?_,rfl⟩;rw[b.out,c.out];simp
 go_enter func320,ntmps320;go_wp2_with fail;go_ret2;refine⟨?_,rfl⟩;rw[b.out,c.out];simp
theorem JF(a:Int)(d: -9223372036854775808<=a)(c:a<=9223372036854775807)(b:Bool)(w:Ub):
  TW 242 #[TY T6 a,T2 b] w (T4 #[TY T6 (ny a b),TY T6 (Eo a)]):=by
 go_enter func242,ntmps242;go_wp2_with fail;refine(Ng a d c b w).mono ?_;rintro e f ⟨rfl,rfl⟩;go_wp2_with fail;go_ret2;exact⟨rfl,rfl⟩
theorem Nh(a:Int)(d: -9223372036854775808<=a)(c:a<=9223372036854775807)(b:Bool)(w:Ub):
  TW 314 #[TY T6 a,T2 b] w (T4 #[TY T6 (ny a (!b)),TY T6 (Eo a)]):=by
 go_enter func314,ntmps314;go_wp2_with fail;refine(Ng a d c (!b) w).mono ?_;rintro e f ⟨rfl,rfl⟩;go_wp2_with fail;go_ret2;exact⟨rfl,rfl⟩
def UB(W:Ub)(g n:Nat):Prop:=∃a,W.heap[g]? =some (Ua a 28 (0,0))/\∀k,k<n->∃x:Nat,x<4294967296/\a[k]? =some (TY T7 x)
section
variable {W W':Ub} {g n:Nat}
theorem UB.cell(h:UB W g n)(k:Nat)(a:k<n):∃x:Nat,x<4294967296/\W.cell? ⟨g,k,none⟩=some (TY T7 x):=by
 obtain⟨b,c,d⟩:=h;obtain⟨x,e,a⟩:=d k a;exact⟨x,e,by simp only[World.cell?,c];simpa using a⟩
theorem UB.TP(h:UB W g n):∃G:Nat->Nat,(∀k,G k<4294967296)/\∀k,k<n->W.cell? ⟨g,k,none⟩=some (TY T7 (G k:Nat)):=by
 refine⟨fun k=>if a:k<n then(h.cell k a).choose else 0,fun k=>?_,fun k a=>?_⟩
 ·by_cases a:k<n
  ·simp only[dif_pos a];exact(h.cell k a).choose_spec.1
  simp[dif_neg a]
 simp only[dif_pos a];exact(h.cell k a).choose_spec.2
theorem UB.frozen(h:UB W g n)(k:Nat):W.frozen? ⟨g,k,none⟩=false:=by
 obtain⟨a,b,c⟩:=h;simp[World.frozen?,b]
theorem UB.lt(h:UB W g n):g<W.heap.size:=by
 obtain⟨a,b,r⟩:=h;exact(aL.1 b).1
theorem UB.set_(h:UB W g n)(k:Nat)(x:Nat)(l:x<4294967296):UB (W.setCell ⟨g,k,none⟩ (TY T7 x)) g n:=by
 obtain⟨b,f,i⟩:=h;refine⟨_,heap_setCell_same _ _ _ _ _ _ f,fun j c=>?_⟩;obtain⟨y,d,a⟩:=i j c;by_cases e:k=j
 ·subst e;have:=(aL.1 a).1;exact⟨x,l,by simp[this]⟩
 exact⟨y,d,by rw[aW e];exact a⟩
theorem UB.of_heap(h:UB W g n)(e:W'.heap[g]? =W.heap[g]?):UB W' g n:=by
 obtain⟨a,b,r⟩:=h;exact⟨a,e.trans b,r⟩
theorem UB.drew(h:UB W g n):UB W.drew g n:=h
theorem UB.drewN(h:UB W g n)(m:Nat):UB (W.drewN m) g n:=h.of_heap rfl
theorem UB.alloc(h:UB W g n)(o:Obj):UB (W.alloc o) g n:=h.of_heap (iN W o g h.lt)
theorem UB.far(h:UB W g n){p:Addr}(a:g≠p.block)(u:Uc):UB (W.setCell p u) g n:=h.of_heap (cK W p u g a)
theorem UB.grown{row:Option Nat}(h:UB W g n)(b:W.grownBy W' row)(a:some g≠row):UB W' g n:=h.of_heap (b.block g h.lt a)
end
theorem cQ{w W:Ub}{g:Nat}(h:w.grownBy W (some g))(k:Nat)(v:Uc):w.grownBy (W.setCell ⟨g,k,none⟩ v) (some g):=
 ⟨h.os,h.tape,h.output,by simpa[World.setCell]using h.size,fun i b a=>(cK W _ _ _ (fun e=>a (by rw[e]))).trans (h.block i b a)⟩
theorem cD{w W:Ub}{g:Nat}(h:w.grownBy W (some g))(m:Nat):w.grownBy (W.drewN m) (some g):=⟨h.os,h.tape,h.output,h.size,h.block⟩
theorem eM{w W:Ub}{g:Nat}(h:w.grownBy W (some g)):w.grownBy W.drew (some g):=⟨h.os,h.tape,h.output,h.size,h.block⟩
theorem fp{a b c:Ub}{row:Option Nat}(h:a.grownBy b row)(k:b.grownBy c row):a.grownBy c row:=
 ⟨k.os.trans h.os,k.tape.trans h.tape,k.output.trans h.output,ax h.size k.size,fun i d e=>(k.block i (bn d h.size) e).trans (h.block i d e)⟩
def Og(g n:Nat)(w:Ub)(e:Ending)(w':Ub):Prop:=e=.returned (T4 #[])/\UB w' g n/\w.grownBy w' (some g)
end
end Go.Proofs.YtfammloeljmplaaGreatDoor
