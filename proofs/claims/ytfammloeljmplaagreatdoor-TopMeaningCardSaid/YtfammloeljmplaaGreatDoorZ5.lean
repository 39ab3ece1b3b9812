/- The assembled program's run in plain Lean; sorting walks; conditions: each lemma's own. -/
import Derived.Deep.Cut
import Derived.Deep.CutRange
import Derived.Test.YtfammloeljmplaaGreatDoorZ4
open Go.Value renaming int->TY,slice->T0,bool->T2
open Go.IntKind renaming i64->T6,u32->T7
open Go renaming World->Ub
namespace Go.Proofs.YtfammloeljmplaaGreatDoor
open Go.Proofs.Tryz
set_option maxRecDepth 100000
set_option maxHeartbeats 8000000
set_option linter.unusedVariables false
set_option linter.unusedSimpArgs false
section
def R3(L:List It)(i:Nat)(m:Int)(j:Nat):Prop:=(m=0/\j=i+1)\/(m≠0/\pa L m j)
inductive gY (L:List It) (W:Nat->Nat):Nat->Nat->Nat->Prop
 |mark {a i v:Nat}:i<L.length->(L.getD i default).mark≠0->gY L W a (i+1) v->gY L W a i v
 |load {a i v:Nat}:i<L.length->(L.getD i default).mark=0->(L.getD i default).code=32->(L.getD i default).k<=60->gY L W (W (L.getD i default).k) (i+1) v->gY L W a i v
 |and {a i v:Nat}:i<L.length->(L.getD i default).mark=0->(L.getD i default).code=84->gY L W (a&&&(L.getD i default).k) (i+1) v->gY L W a i v
 |jump {a i j v:Nat}:i<L.length->(L.getD i default).mark=0->(L.getD i default).code=5->pa L (L.getD i default).tr j->gY L W a j v->gY L W a i v
 |ret {a i:Nat}:i<L.length->(L.getD i default).mark=0->(L.getD i default).code=6->gY L W a i (L.getD i default).k
 |br {a i j v:Nat}:i<L.length->(L.getD i default).mark=0->25<=(L.getD i default).kd->(L.getD i default).kx=false->
   R3 L i (if Ds (L.getD i default).kd a (L.getD i default).k=true then(L.getD i default).tr else(L.getD i default).fa) j->gY L W a j v->gY L W a i v
inductive nX (p:List I) (W:Nat->Nat):Nat->Nat->Nat->Prop
 |load {a i v:Nat}:i<p.length->kd (p.getD i default)=1->nX p W (W (p.getD i default).k) (i+1) v->nX p W a i v
 |and {a i v:Nat}:i<p.length->kd (p.getD i default)=21->kx (p.getD i default)=false->nX p W (a&&&(p.getD i default).k) (i+1) v->nX p W a i v
 |jump {a i v:Nat}:i<p.length->kd (p.getD i default)=13->nX p W a (i+1+(p.getD i default).k) v->nX p W a i v
 |ret {a i:Nat}:i<p.length->kd (p.getD i default)=14->nX p W a i (p.getD i default).k
 |br {a i v:Nat}:i<p.length->25<=kd (p.getD i default)->kx (p.getD i default)=false->
   nX p W a (i+1+if Ds (kd (p.getD i default)) a (p.getD i default).k=true then(p.getD i default).jt else(p.getD i default).jf) v->nX p W a i v
theorem Ka{p:List I}(h:gQ p){W:Nat->Nat}{a i v:Nat}(k:nX p W a i v):∀s:Vs,s.at_=i->s.a=a->(nd p W (p.length - s.at_) s).1=v:=by
 induction k with
 |@load a i v g d _ ih=>
  intro s f c;subst f c;have e:jM (p.getD s.at_ default) s=none:=by unfold jM;rw[af (by omega),af (by omega),af (by omega)]
  rw[oN h g e];have b:iC W (p.getD s.at_ default) {s with at_:=s.at_+1}={s with at_:=s.at_+1,a:=W (p.getD s.at_ default).k}:=by unfold iC;rw[aj d]
  exact ih _ (by rw[b]) (by rw[b])
 |@and a i v g d j _ ih=>
  intro s f c;subst f c;have e:jM (p.getD s.at_ default) s=none:=by unfold jM;rw[af (by omega),af (by omega),af (by omega)]
  rw[oN h g e];have b:iC W (p.getD s.at_ default) {s with at_:=s.at_+1}={s with at_:=s.at_+1,a:=s.a&&&(p.getD s.at_ default).k}:=by
   unfold iC;rw[af (by omega),af (by omega),af (by omega),af (by omega),af (by omega),af (by omega),af (by omega),af (by omega),af (by omega),af (by omega),af (by omega),af (by omega),af (by omega),af (by omega)];unfold AQ othN;rw[d,j];rfl
  exact ih _ (by rw[b]) (by rw[b])
 |@jump a i v g d _ ih=>
  intro s f c;subst f c;have e:jM (p.getD s.at_ default) s=none:=by unfold jM;rw[af (by omega),af (by omega),af (by omega)]
  rw[oN h g e];have b:iC W (p.getD s.at_ default) {s with at_:=s.at_+1}={s with at_:=s.at_+1+(p.getD s.at_ default).k}:=by
   unfold iC;rw[af (by omega),af (by omega),af (by omega),af (by omega),af (by omega),af (by omega),af (by omega),af (by omega),af (by omega),af (by omega),af (by omega),af (by omega),aj d]
  exact ih _ (by rw[b]) (by rw[b])
 |@ret a i g d=>
  intro s f c;subst f c;have e:jM (p.getD s.at_ default) s=some (p.getD s.at_ default).k:=by unfold jM;rw[aj d]
  rw[AS (by omega) e]
 |@br a i v g d j _ ih=>
  intro s f c;subst f c;have e:jM (p.getD s.at_ default) s=none:=by unfold jM;rw[af (by omega),af (by omega),af (by omega)]
  rw[oN h g e];have b:iC W (p.getD s.at_ default) {s with at_:=s.at_+1}={s with at_:=s.at_+1+if Ds (kd (p.getD s.at_ default)) s.a (p.getD s.at_ default).k=true then(p.getD s.at_ default).jt else(p.getD s.at_ default).jf}:=by
   unfold iC;rw[af (by omega),af (by omega),af (by omega),af (by omega),af (by omega),af (by omega),af (by omega),af (by omega),af (by omega),af (by omega),af (by omega),af (by omega),af (by omega),aj d];unfold othN;rw[j];rfl
  exact ih _ (by rw[b]) (by rw[b])
theorem Q7:(oy 32).1=1:=by decide+kernel
theorem Qc:oy 84=(21,false):=by decide+kernel
theorem Q8:(oy 5).1=13:=by decide+kernel
theorem RH:(oy 6).1=14:=by decide+kernel
theorem MJ{L:List It}{F:Nat->Bool}(B:fZ L)(hL:Laid L F){W:Nat->Nat}{a i v:Nat}(h:gY L W a i v):reachB L (cnt L i)=true->nX (kS L F) W a (plN L F (cnt L i)) v:=by
 have r:∀{n:Nat},n<(dR L).length->reachB L n=true->plN L F n<(kS L F).length/\(kS L F).getD (plN L F n) default=(kG L F n).getD 0 default:=fun {n} N b=>by
  have M:=kH F b N;have A:=Cl L F N (j:=0) (by omega);exact⟨by rw[nY];omega,by simpa using A⟩
 have plain:∀{n:Nat},n<(dR L).length->reachB L n=true->(gw L n).kd≠13->¬25<=(gw L n).kd->(kG L F n).getD 0 default=⟨(gw L n).code,0,0,(gw L n).k⟩/\plN L F (n+1)=plN L F n+1:=fun {n} N b X H=>by
  have z:F n=false:=by
   cases h:F n with
   |false=>rfl
   |true=>exact absurd (hL.br n h).2.2 H
  rw[qh b z X H,lU];refine⟨rfl,?_⟩;unfold wZ;rw[b,z];rfl
 have next:∀{n:Nat},n<(dR L).length->reachB L n=true->∀{t:Nat},(dY L n=(t:Int)\/jo L n=(t:Int))->reachB L t=true:=fun {n} N b {t} O=>(B.room (F:=F) N b O).1.2.2
 have spot:∀{i:Nat},i<L.length->(L.getD i default).mark=0->cnt L i<(dR L).length/\gw L (cnt L i)=L.getD i default/\cnt L (i+1)=cnt L i+1:=fun {i} d f=>by
  have M:=Gl L (p:=i) (q:=L.length) d (ae _) f;rw[nZ]at M;have A:=mZ L i d;rw[aj f]at A;exact⟨M,Gm L i d f,A⟩
 have on:∀{i:Nat},i<L.length->(L.getD i default).mark=0->((L.getD i default).kd=1\/(L.getD i default).kd=21)->dY L (cnt L i)=((cnt L i+1:Nat):Int):=fun {i} d f g=>by
  obtain⟨p1,p2,p3⟩:=spot d f;have o:=B.1 i d;unfold uK at o;rw[af (by omega)]at o;have Y:(L.getD i default).tr=0:=lQ fun e=>by
   have M:=(o.2.1 e).1;clear o;generalize (L.getD i default).kd=y at g M;omega
  unfold dY;unfold gw at p2;have he:¬fH (L.getD i default).kd:=by
   clear o;generalize (L.getD i default).kd=y at g;unfold fH;omega
  rw[p2,af he];unfold toN;rw[aj Y]
 have goto:∀{i:Nat},i<L.length->(L.getD i default).mark=0->∀{m:Int} {j:Nat},R3 L i m j->toN L (cnt L i) m=cnt L j:=fun {i} d f {m} {j} Z=>by
  obtain⟨p1,p2,p3⟩:=spot d f;unfold toN;rcases Z with⟨rfl,rfl⟩|⟨h0,U⟩
  ·rw[aj rfl,p3]
  rw[af h0,uI U]
 induction h with
 |@mark a i v d f _ ih=>
  intro b;have A:=mZ L i d;rw[af f]at A;rw[A]at ih;exact ih b
 |@load a i v d f x al _ ih=>
  intro b;obtain⟨p1,p2,p3⟩:=spot d f;have g:(L.getD i default).kd=1:=by unfold It.kd;rw[x];exact Q7
  obtain⟨b1,k⟩:=r p1 b;obtain⟨J,V⟩:=plain p1 b (by rw[p2];omega) (by rw[p2];omega);have e:=k.trans J;rw[p2]at e;refine .load b1 (by rw[e];exact g) ?_;rw[e,<-V];rw[p3]at ih;exact ih (next p1 b (.inl (on d f (.inl g))))
 |@and a i v d f x _ ih=>
  intro b;obtain⟨p1,p2,p3⟩:=spot d f;have g:(L.getD i default).kd=21:=by unfold It.kd;rw[x,Qc]
  obtain⟨b1,k⟩:=r p1 b;obtain⟨J,V⟩:=plain p1 b (by rw[p2];omega) (by rw[p2];omega);have e:=k.trans J;rw[p2]at e;refine .and b1 (by rw[e];exact g) (by rw[e];show(oy (L.getD i default).code).2=false;rw[x,Qc]) ?_;rw[e,<-V];rw[p3]at ih;exact ih (next p1 b (.inl (on d f (.inr g))))
 |@jump a i j v d f x U _ ih=>
  intro b;obtain⟨p1,p2,p3⟩:=spot d f;have g:(L.getD i default).kd=13:=by unfold It.kd;rw[x];exact Q8
  obtain⟨b1,k⟩:=r p1 b;have O:dY L (cnt L i)=((cnt L j:Nat):Int):=by
   unfold dY;have l:=p2;unfold gw at l;rw[l,af (by unfold fH;omega),goto d f (.inr ⟨U.1,U⟩)]
  have z:F (cnt L i)=false:=by
   cases h:F (cnt L i)with
   |false=>rfl
   |true=>have:=(hL.br _ h).2.2;unfold gw at p2;rw[p2]at this;omega
  obtain⟨⟨_,_,s⟩,r1,r2,r3⟩:=B.room (F:=F) p1 b (.inl O);rw[sC b z (by rw[p2];exact g) O]at k;refine .jump b1 (by rw[k];show(oy (gw L (cnt L i)).code).1=13;rw[p2,x];exact Q8) ?_;rw[k];simp only[iP];rw[show plN L F (cnt L i)+1+(plN L F (cnt L j) - plN L F (cnt L i) - 1)=plN L F (cnt L j)by omega];exact ih s
 |@ret a i d f x=>
  intro b;obtain⟨p1,p2,p3⟩:=spot d f;have g:(L.getD i default).kd=14:=by unfold It.kd;rw[x];exact RH
  obtain⟨b1,k⟩:=r p1 b;obtain⟨J,V⟩:=plain p1 b (by rw[p2];omega) (by rw[p2];omega);have e:=k.trans J;rw[p2]at e;have:=nX.ret (W:=W) (a:=a) b1 (by rw[e];exact g);rw[e]at this;exact this
 |@br a i j v d f g hx Z _ ih=>
  intro b;obtain⟨p1,p2,p3⟩:=spot d f;obtain⟨b1,k⟩:=r p1 b;obtain⟨t,u,E,D,_⟩:=B.ways p1 (by unfold gw at p2;rw[p2];exact g);have l:=p2;unfold gw at l;have et:t=toN L (cnt L i) (L.getD i default).tr:=by
   have:=E;unfold dY at this;rw[l,af (by unfold fH;omega)]at this;omega
  have eu:u=toN L (cnt L i) (L.getD i default).fa:=by
   have:=D;unfold jo at this;rw[l,aj g]at this;omega
  have c:=goto d f Z;obtain⟨⟨_,_,s⟩,r1,r2,r3⟩:=B.room (F:=F) p1 b (.inl E);obtain⟨⟨_,_,G⟩,r4,r5,r6⟩:=B.room (F:=F) p1 b (.inr D);cases T:F (cnt L i)with
  |false=>
   rw[sD b T (by rw[p2];exact g) E D,p2]at k;refine .br b1 (by rw[k];exact g) (by rw[k];exact hx) ?_;rw[k];simp only[iP];show nX (kS L F) W a (plN L F (cnt L i)+1+if Ds (L.getD i default).kd a (L.getD i default).k=true then _ else _) v
   by_cases C:Ds (L.getD i default).kd a (L.getD i default).k=true
   ·rw[aj C]at c⊢;rw[<-et]at c;rw[show plN L F (cnt L i)+1+(plN L F t - plN L F (cnt L i) - 1)=plN L F t by omega,c];rw[<-c]at ih⊢;exact ih s
   rw[af C]at c⊢;rw[<-eu]at c;rw[show plN L F (cnt L i)+1+(plN L F u - plN L F (cnt L i) - 1)=plN L F u by omega,c];rw[<-c]at ih⊢;exact ih G
  |true=>
   have hz:wZ L F (cnt L i)=3:=by unfold wZ;rw[b,T];rfl
   have S:=Cl L F p1 (j:=1) (by omega);have R:=Cl L F p1 (j:=2) (by omega);rw[rj b T E D,p2]at k;rw[rj b T E D]at S R;refine .br b1 (by rw[k];exact g) (by rw[k];exact hx) ?_;rw[k];simp only[iP,R6]at S R⊢;show nX (kS L F) W a (plN L F (cnt L i)+1+if Ds (L.getD i default).kd a (L.getD i default).k=true then _ else _) v
   by_cases C:Ds (L.getD i default).kd a (L.getD i default).k=true
   ·rw[aj C]at c⊢;rw[<-et]at c;rw[cP];refine .jump (by rw[nY];omega) (by rw[S];exact Q9 _ _ _) ?_;rw[S];simp only;rw[show plN L F (cnt L i)+1+1+(plN L F t - (plN L F (cnt L i)+1) - 1)=plN L F t by omega];rw[<-c]at ih;exact ih s
   rw[af C]at c⊢;rw[<-eu]at c;refine .jump (by rw[nY];omega) (by rw[R];exact Q9 _ _ _) ?_;rw[R];simp only;rw[show plN L F (cnt L i)+1+1+1+(plN L F u - (plN L F (cnt L i)+2) - 1)=plN L F u by omega];rw[<-c]at ih;exact ih G
theorem Gh{L:List It}{F:Nat->Bool}(a:fZ L)(c:Laid L F)(d:(fK (kS L F)).2=0){W:Nat->Nat}{v:Nat}(h:gY L W 0 0 v):(nd (kS L F) W (kS L F).length v0).1=v:=by
 have b:gQ (kS L F):=mO (Kl d).1;have:=MJ a c h ((a.Sq (iS _)).2 .zero);exact Ka b this v0 rfl rfl
def lookM:List (Nat×Nat)->Nat->Nat
 |[],_=>0
 |p::t,c=>if p.1=c then p.2 else lookM t c
def kL:List (Nat×Nat)->Nat->Nat->List (Nat×Nat)
 |[],c,m=>[(c,m)]
 |p::t,c,m=>if p.1=c then(c,m)::t else p::kL t c m
theorem lE(l:List (Nat×Nat))(c m d:Nat):lookM (kL l c m) d=if c=d then m else lookM l d:=by
 induction l with
 |nil=>simp[kL,lookM]
 |cons p t ih=>
  unfold kL;by_cases h:p.1=c
  ·rw[aj h];show(if c=d then m else lookM t d)=if c=d then m else if p.1=d then p.2 else lookM t d
   by_cases e:c=d
   ·rw[aj e,aj e]
   rw[af e,af e,af (fun x=>e (h▸x))]
  rw[af h];show(if p.1=d then p.2 else lookM (kL t c m) d)=if c=d then m else if p.1=d then p.2 else lookM t d
  rw[ih];by_cases e:p.1=d
  ·rw[aj e,aj e,af (fun x=>h (e.trans x.symm))]
  rw[af e,af e]
structure Mk where
 l:List It
 marks:Nat
 blocks:List (Nat×Nat)
def Mk.put(s:Mk)(xs:List It):Mk:={s with l:=s.l++xs}
def Mk.mark(s:Mk):Mk:={s with marks:=s.marks+1}
def Mk.goes(s:Mk)(c:Nat):Mk:=if lookM s.blocks c=0 then⟨s.l,s.marks+1,kL s.blocks c (s.marks+1)⟩else s
def Mk.to(s:Mk)(c:Nat):Nat:=lookM (s.goes c).blocks c
def bc(code k a b:Nat):It:=⟨0,code,k,a,b⟩
def du(m:Nat):It:=⟨m,0,0,0,0⟩
def nV(v:Nat):Nat:=v % 4294967296
def q9(v:Nat):Nat:=v / 4294967296
def loAt(c:Cd):Nat:=16+8*c.arg.toNat
def hiAt(c:Cd):Nat:=20+8*c.arg.toNat
def mX(c:Cd)(wide:Bool)(a b:Nat):List It:=
 (if wide then[bc 32 (hiAt c) 0 0,bc 21 (q9 c.val) 0 b]else[])++[bc 32 (loAt c) 0 0,bc 21 (nV c.val) a b]
def j3(c:Cd)(wide:Bool)(a b:Nat):List It:=
 (if wide then[bc 32 (hiAt c) 0 0,bc 37 (q9 c.val) a 0,bc 21 (q9 c.val) 0 b]else[])++[bc 32 (loAt c) 0 0,bc 53 (nV c.val) a b]
def jc(c:Cd)(wide:Bool)(a b:Nat):List It:=
 (if wide then[bc 32 (hiAt c) 0 0,bc 84 (q9 c.mask) 0 0,bc 21 (q9 c.val) 0 b]else[])++[bc 32 (loAt c) 0 0,bc 84 (nV c.mask) 0 0,bc 21 (nV c.val) a b]
def jY(c:Cd)(wide:Bool)(a b:Nat):List It:=
 if c.op=1 then mX c wide a b else if c.op=2 then mX c wide b a else if c.op=3 then j3 c wide b a else if c.op=6 then j3 c wide a b else jc c wide a b
def gL(wide:Bool)(next:Nat):List Cd->Mk->Mk
 |[],s=>s
 |c::t,s=>gL wide next t ((s.mark.put (jY c wide (s.marks+1) next)).put [du (s.marks+1)])
def lz(wide:Bool)(r:PR)(s:Mk):Mk:=
 ((((gL wide (s.marks+1) r.conds s.mark).goes r.code).put [bc 5 0 ((gL wide (s.marks+1) r.conds s.mark).to r.code) 0]).put [du (s.marks+1)])
def jH(wide:Bool)(a:Nat):List PR->Mk->Mk
 |[],s=>s.put [bc 5 0 a 0]
 |r::t,s=>jH wide a t (lz wide r s)
def cW(a:Nat):Nat->List (Nat×Nat)->Mk->Mk
 |0,_,s=>s
 |f+1,[],s=>s.put [bc 5 0 a 0]
 |f+1,[x],s=>s.put [bc 21 x.1 x.2 a]
 |f+1,l,s=>cW a f (l.drop (l.length / 2))
   ((cW a f (l.take (l.length / 2)) (s.mark.put [bc 53 (l.getD (l.length / 2) default).1 (s.marks+1) 0])).put [du (s.marks+1)])
def bV:List PS->Mk->Mk×List (Nat×Nat)
 |[],s=>(s,[])
 |x::t,s=>((bV t (s.goes x.code)).1,(x.number,s.to x.code)::(bV t (s.goes x.code)).2)
def kR(a:Nat)(l:List PS)(s:Mk):Mk:=
 cW a (l.length+1) (bV l (s.put [bc 32 16 0 0])).2 (bV l (s.put [bc 32 16 0 0])).1
inductive dX where
 |rules (n:Nat) (l:List PR)
 |subs (n:Nat) (l:List PS)
 deriving Inhabited
def dX.number:dX->Nat
 | .rules n _=>n
 | .subs n _=>n
def dX.Sw(wide:Bool)(a:Nat):dX->Mk->Mk
 | .rules _ l=>jH wide a l
 | .subs _ l=>kR a l
def cM:List dX->Mk->Mk×List (Nat×Nat)
 |[],s=>(s,[])
 |x::t,s=>((cM t s.mark).1,(x.number,s.marks+1)::(cM t s.mark).2)
def F6(wide:Bool)(a:Nat):List (dX×Nat)->Mk->Mk
 |[],s=>s
 |x::t,s=>F6 wide a t (x.1.Sw wide a (s.put [du x.2]))
def dM(b:Pl)(a:Nat):List dX:=
 (b.entries.getD a []).map (fun e=>.rules e.number e.rules)++if a=2 then[.subs 102 (b.subs.getD 0 []),.subs 117 (b.subs.getD 1 [])]else[]
def cH(b:Pl)(a:Nat):List dX:=(dM b a).mergeSort fun x y=> !decide (y.number<x.number)
def fA(b:Pl)(a:Nat)(s:Mk):Mk:=
 F6 (decide (a≠2)) (s.to b.dflt) ((cH b a).zip ((cM (cH b a) (s.goes b.dflt)).2.map (·.2)))
  (cW (s.to b.dflt) ((cH b a).length+1) (cM (cH b a) (s.goes b.dflt)).2 (cM (cH b a) (s.goes b.dflt)).1)
def nP(a:Pl)(s:Mk):Mk:=
 let b:=(s.goes a.dflt).put [bc 21 4294967295 (s.to a.dflt) 0];if a.x32=false then fA a 0 ((b.goes 2147483648).put [bc 69 1073741824 (b.to 2147483648) 0])
 else fA a 1 ((fA a 0 (b.mark.put [bc 69 1073741824 (b.marks+1) 0])).put [du (b.marks+1)])
def tokenN(a:Nat):Nat:=if a=2 then 1073741827 else if a=3 then 3221225655 else if a=4 then 3221225715 else 3221225534
def rV(a:Nat)(s:Mk):Mk:=s.mark.put [bc 21 (tokenN a) (s.marks+1) 0]
def gM(b:Pl)(a m:Nat)(s:Mk):Mk:=
 let c:=(s.put [du m]).put [bc 32 0 0 0];if a=0 then nP b c else fA b a c
def jI(a:Pl):Mk:=
 let c:Mk:=⟨[bc 32 4 0 0],0,[]⟩;let b:=rV 4 (rV 3 (rV 2 (rV 0 c)));let d:=(b.goes 2147483648).put [bc 5 0 (b.to 2147483648) 0];gM a 4 4 (gM a 3 3 (gM a 2 2 (gM a 0 1 d)))
def l7(s:Mk):List Nat->List It
 |[]=>[]
 |c::t=>du (lookM s.blocks c)::bc 6 c 0 0::l7 s t
def iH(b:Pl)(a:List Nat):List It:=(jI b).l++l7 (jI b) a
structure fY(s s':Mk):Prop where
 pre:∃R,s'.l=s.l++R
 marks:s.marks<=s'.marks
 blocks:∀c,lookM s'.blocks c=lookM s.blocks c\/(lookM s.blocks c=0/\s.marks<lookM s'.blocks c)
theorem fY.refl(s:Mk):fY s s:=⟨⟨[],by simp⟩,ae _,fun c=>.inl rfl⟩
theorem fY.trans{a b c:Mk}(h:fY a b)(k:fY b c):fY a c:=by
 obtain⟨⟨R,j⟩,o,m⟩:=h;obtain⟨⟨S,l⟩,n,g⟩:=k;refine⟨⟨R++S,by rw[l,j,dz]⟩,by omega,fun d=>?_⟩;rcases m d with e|⟨e,e2⟩
 ·rcases g d with f|⟨f,i⟩
  ·exact .inl (f.trans e)
  exact .inr ⟨e▸f,by omega⟩
 rcases g d with f|⟨f,i⟩
 ·exact .inr ⟨e,by rw[f];exact e2⟩
 exact .inr ⟨e,by omega⟩
theorem fY.put(s:Mk)(xs:List It):fY s (s.put xs):=⟨⟨xs,rfl⟩,ae _,fun c=>.inl rfl⟩
theorem fY.mark(s:Mk):fY s s.mark:=⟨⟨[],by simp[Mk.mark]⟩,tH _,fun c=>.inl rfl⟩
theorem fY.goes(s:Mk)(c:Nat):fY s (s.goes c):=by
 unfold Mk.goes;by_cases h:lookM s.blocks c=0
 ·rw[aj h];refine⟨⟨[],by simp⟩,tH _,fun d=>?_⟩;simp only[lE];by_cases e:c=d
  ·subst e;rw[aj rfl];exact .inr ⟨h,Nat.lt_succ_self _⟩
  rw[af e];exact .inl rfl
 rw[af h];exact fY.refl s
theorem Mk.SD(s:Mk)(c:Nat):s.to c≠0:=by
 unfold Mk.to Mk.goes;by_cases h:lookM s.blocks c=0
 ·rw[aj h];simp[lE]
 rw[af h];exact h
theorem fY.code{s s':Mk}(h:fY s s'){c:Nat}(a:lookM s.blocks c≠0):lookM s'.blocks c=lookM s.blocks c:=by
 rcases h.blocks c with e|⟨e,_⟩
 ·exact e
 exact absurd e a
theorem fY.to{s s':Mk}{c:Nat}(h:fY (s.goes c) s'):lookM s'.blocks c=s.to c:=h.code (s.SD c)
structure NB(s:Mk)(m:Nat):Prop where
 pos:0<m
 le:m<=s.marks
 no:∀c,lookM s.blocks c≠m
theorem NB.ext{s s':Mk}{m:Nat}(h:NB s m)(k:fY s s'):NB s' m:=by
 refine⟨h.pos,ax h.le k.marks,fun c=>?_⟩;rcases k.blocks c with e|⟨_,e⟩
 ·rw[e];exact h.no c
 have:=h.le;omega
structure vI(s:Mk):Prop where
 inj:∀c d,lookM s.blocks c≠0->lookM s.blocks c=lookM s.blocks d->c=d
 le:∀c,lookM s.blocks c<=s.marks
 here:∀x∈s.l,x.mark≠0->∃m:Nat,x.mark=(m:Int)/\NB s m
 cnt:s.blocks.length<=s.marks
theorem DC(l:List (Nat×Nat))(c m:Nat):(kL l c m).length<=l.length+1:=by
 induction l with
 |nil=>simp[kL]
 |cons p t ih=>
  unfold kL;split
  ·simp
  simp;omega
theorem vI.mark{s:Mk}(h:vI s):vI s.mark/\NB s.mark (s.marks+1):=
 ⟨⟨h.inj,fun c=>nU (h.le c),fun x d b=>by
   obtain⟨m,e,a⟩:=h.here x d b;exact⟨m,e,a.ext (fY.mark s)⟩,nU h.cnt⟩,⟨Nat.succ_pos _,ae _,fun c=>by have:=h.le c;show lookM s.blocks c≠_;omega⟩⟩
theorem vI.put{s:Mk}(h:vI s){xs:List It}(c:∀x∈xs,x.mark≠0->∃m:Nat,x.mark=(m:Int)/\NB s m):vI (s.put xs):=
 ⟨h.inj,h.le,fun x a b=>by
   rcases bT.1 a with h1|h1
   ·obtain⟨m,e,a⟩:=h.here x h1 b;exact⟨m,e,a.ext (fY.put s xs)⟩
   obtain⟨m,e,a⟩:=c x h1 b;exact⟨m,e,a.ext (fY.put s xs)⟩,h.cnt⟩
theorem vI.plain{s:Mk}(h:vI s){xs:List It}(c:∀x∈xs,x.mark=0):vI (s.put xs):=h.put fun x a b=>absurd (c x a) b
theorem vI.at_{s:Mk}(h:vI s){m:Nat}(b:NB s m):vI (s.put [du m]):=h.put fun x a c=>by
 rw[bz]at a;subst a;exact⟨m,rfl,b⟩
theorem vI.goes{s:Mk}(h:vI s)(c:Nat):vI (s.goes c):=by
 have i:=fY.goes s c;refine⟨?_,?_,fun x g a=>?_,?_⟩
 ·unfold Mk.goes;by_cases a:lookM s.blocks c=0
  ·rw[aj a];intro d e;simp only[lE];by_cases f:c=d
   ·by_cases b:c=e
    ·intros;rw[<-f,<-b]
    rw[aj f,af b];intro _ l;have:=h.le e;omega
   by_cases b:c=e
   ·rw[af f,aj b];intro _ l;have:=h.le d;omega
   rw[af f,af b];exact h.inj d e
  rw[af a];exact h.inj
 ·unfold Mk.goes;by_cases a:lookM s.blocks c=0
  ·rw[aj a];intro d;simp only[lE];split
   ·exact ae _
   exact nU (h.le d)
  rw[af a];exact h.le
 ·have k:(s.goes c).l=s.l:=by unfold Mk.goes;split<;>rfl
  rw[k]at g;obtain⟨m,e,j⟩:=h.here x g a;exact⟨m,e,j.ext i⟩
 unfold Mk.goes;split
 ·have:=DC s.blocks c (s.marks+1);have:=h.cnt;show(kL s.blocks c (s.marks+1)).length<=s.marks+1
  omega
 exact h.cnt
structure Step(s s':Mk):Prop where
 ext:fY s s'
 inv:vI s->vI s'
theorem Step.refl(s:Mk):Step s s:=⟨fY.refl s,id⟩
theorem Step.trans{a b c:Mk}(h:Step a b)(k:Step b c):Step a c:=⟨h.ext.trans k.ext,fun x=>k.inv (h.inv x)⟩
theorem Step.mark(s:Mk):Step s s.mark:=⟨fY.mark s,fun h=>h.mark.1⟩
theorem Step.goes(s:Mk)(c:Nat):Step s (s.goes c):=⟨fY.goes s c,fun h=>h.goes c⟩
theorem Step.plain(s:Mk){xs:List It}(a:∀x∈xs,x.mark=0):Step s (s.put xs):=⟨fY.put s xs,fun h=>h.plain a⟩
theorem Step.one(s:Mk)(c k t f:Nat):Step s (s.put [bc c k t f]):=Step.plain s fun x a=>by rw[bz]at a;rw[a];rfl
theorem Step.SK{s a:Mk}(h:Step s.mark a):Step s (a.put [du (s.marks+1)]):=
 ⟨(fY.mark s).trans (h.ext.trans (fY.put _ _)),fun b=>(h.inv b.mark.1).at_ (b.mark.2.ext h.ext)⟩
theorem DD(c:Cd)(wide:Bool)(a b:Nat):∀x∈mX c wide a b,x.mark=0:=fun x hx=>by
 cases wide<;>simp[mX,bc]at hx<;>(repeat' (first|(rcases hx with rfl|hx;·rfl)|(subst hx;rfl)))
theorem Ck(c:Cd)(wide:Bool)(a b:Nat):∀x∈j3 c wide a b,x.mark=0:=fun x hx=>by
 cases wide<;>simp[j3,bc]at hx<;>(repeat' (first|(rcases hx with rfl|hx;·rfl)|(subst hx;rfl)))
theorem zP(c:Cd)(wide:Bool)(a b:Nat):∀x∈jc c wide a b,x.mark=0:=fun x hx=>by
 cases wide<;>simp[jc,bc]at hx<;>(repeat' (first|(rcases hx with rfl|hx;·rfl)|(subst hx;rfl)))
theorem DE(c:Cd)(wide:Bool)(a b:Nat):∀x∈jY c wide a b,x.mark=0:=by
 unfold jY;repeat' split
 all_goals first|exact DD _ _ _ _|exact Ck _ _ _ _|exact zP _ _ _ _
theorem kF(wide:Bool)(next:Nat):∀(l:List Cd) (s:Mk),Step s (gL wide next l s)
 |[],s=>Step.refl s
 |c::t,s=>(Step.SK (Step.plain s.mark (DE c wide (s.marks+1) next))).trans (kF wide next t _)
theorem xC(wide:Bool)(r:PR)(s:Mk):Step s (lz wide r s):=
 Step.SK ((kF wide _ _ _).trans ((Step.goes _ _).trans (Step.one _ _ _ _ _)))
theorem nW(wide:Bool)(o:Nat):∀(l:List PR) (s:Mk),Step s (jH wide o l s)
 |[],s=>Step.one _ _ _ _ _
 |r::t,s=>(xC wide r s).trans (nW wide o t _)
theorem eK(o:Nat):∀(f:Nat) (l:List (Nat×Nat)) (s:Mk),Step s (cW o f l s)
 |0,_,s=>Step.refl s
 |f+1,[],s=>Step.one _ _ _ _ _
 |f+1,[x],s=>Step.one _ _ _ _ _
 |f+1,x::y::t,s=>(Step.SK ((Step.one _ _ _ _ _).trans (eK o f _ _))).trans (eK o f _ _)
theorem gV:∀(l:List PS) (s:Mk),Step s (bV l s).1
 |[],s=>Step.refl s
 |x::t,s=>(Step.goes s x.code).trans (gV t _)
theorem Gg(o:Nat)(l:List PS)(s:Mk):Step s (kR o l s):=
 (Step.one _ _ _ _ _).trans ((gV l _).trans (eK o _ _ _))
theorem mN(wide:Bool)(o:Nat)(x:dX)(s:Mk):Step s (x.Sw wide o s):=by
 cases x with
 |rules n l=>exact nW wide o l s
 |subs n l=>exact Gg o l s
theorem iZ:∀(l:List dX) (s:Mk),Step s (cM l s).1
 |[],s=>Step.refl s
 |x::t,s=>(Step.mark s).trans (iZ t _)
theorem mY:∀(l:List dX) (s:Mk),(cM l s).2.length=l.length
 |[],s=>rfl
 |x::t,s=>by show((cM t s.mark).2.length+1)=_;rw[mY t];rfl
theorem AL:∀(l:List dX) (s:Mk),vI s->∀x∈(cM l s).2,NB (cM l s).1 x.2
 |[],s,_,x,a=>by cases a
 |y::t,s,b,x,a=>by
  rcases aP.1 a with rfl|h
  ·exact b.mark.2.ext (iZ t _).ext
  exact AL t s.mark b.mark.1 x h
theorem oJ(wide:Bool)(o:Nat):∀(l:List (dX×Nat)) (s:Mk),(vI s->∀x∈l,NB s x.2)->Step s (F6 wide o l s)
 |[],s,_=>Step.refl s
 |x::t,s,h=>by
  have b:Step s (x.1.Sw wide o (s.put [du x.2])):=by
   refine⟨(fY.put _ _).trans (mN wide o x.1 _).ext,fun a=>(mN wide o x.1 _).inv (a.at_ (h a x (by simp)))⟩
  refine⟨b.ext.trans ?_,fun a=>?_⟩
  ·exact(doG_ext wide o t _)
  exact(oJ wide o t _ fun _ y c=>(h a y (by simp[c])).ext b.ext).inv (b.inv a)
 where
 doG_ext (wide:Bool) (o:Nat):∀(l:List (dX×Nat)) (s:Mk),fY s (F6 wide o l s)
  |[],s=>fY.refl s
  |x::t,s=>((fY.put _ _).trans (mN wide o x.1 _).ext).trans (doG_ext wide o t _)
theorem eB(b:Pl)(a:Nat)(s:Mk):Step s (fA b a s):=by
 have d:=(Step.goes s b.dflt).trans (iZ (cH b a) (s.goes b.dflt));have c:=eK (s.to b.dflt) ((cH b a).length+1) (cM (cH b a) (s.goes b.dflt)).2 (cM (cH b a) (s.goes b.dflt)).1;refine⟨d.ext.trans (c.ext.trans (oJ.doG_ext _ _ _ _)),fun f=>?_⟩;refine(oJ _ _ _ _ fun _ x i=>?_).inv (c.inv (d.inv f));obtain⟨y,g,e⟩:=bt.1 (mA (show(x.1,x.2)∈_ from i)).2;rw[<-e];exact(AL _ _ (f.goes _) y g).ext c.ext
theorem re(a:Pl)(s:Mk):Step s (nP a s):=by
 unfold nP;simp only;have b:Step s ((s.goes a.dflt).put [bc 21 4294967295 (s.to a.dflt) 0]):=(Step.goes _ _).trans (Step.one _ _ _ _ _);split
 ·exact b.trans ((Step.goes _ _).trans ((Step.one _ _ _ _ _).trans (eB a 0 _)))
 exact b.trans ((Step.SK ((Step.one _ _ _ _ _).trans (eB a 0 _))).trans (eB a 1 _))
theorem rh(b:Pl)(a m:Nat)(s:Mk)(e:vI s->NB s m):Step s (gM b a m s):=by
 have c:Step s ((s.put [du m]).put [bc 32 0 0 0]):=⟨(fY.put _ _).trans (fY.put _ _),fun d=>(Step.one _ _ _ _ _).inv (d.at_ (e d))⟩;unfold gM;simp only;split
 ·exact c.trans (re b _)
 exact c.trans (eB b a _)
def D8(L:List It)(W:Nat->Nat)(a m v:Nat):Prop:=
 ∀i,i<L.length->(L.getD i default).mark=0->((L.getD i default).tr=(m:Int)\/(L.getD i default).fa=(m:Int))->∃j,pa L (m:Int) j/\gY L W a j v
def Cx(L:List It)(W:Nat->Nat)(m v:Nat):Prop:=∀a,D8 L W a m v
def pS(s:Mk)(L:List It):Prop:=∃R,L=s.l++R
theorem pS.ext{s s':Mk}{L:List It}(h:pS s' L)(k:fY s s'):pS s L:=by
 obtain⟨R,a⟩:=h;obtain⟨S,b⟩:=k.pre;exact⟨S++R,by rw[a,b,dz]⟩
theorem pS.has{s:Mk}{xs:List It}{L:List It}(h:pS (s.put xs) L){k:Nat}(a:k<xs.length):s.l.length+k<L.length/\L.getD (s.l.length+k) default=xs.getD k default:=by
 obtain⟨R,rfl⟩:=h;refine⟨by simp[Mk.put];omega,?_⟩;show((s.l++xs)++R).getD _ _=_
 rw[dz,aa,aa,bY (by omega),bU (by omega)];congr 2;omega
theorem jd(s:Mk)(xs:List It):(s.put xs).l.length=s.l.length+xs.length:=by simp[Mk.put]
section
variable {L:List It} {W:Nat->Nat} (hF:fZ L)
include hF
theorem uS{a m v j:Nat}(d:j<L.length)(e:L.getD j default=du m)(f:m≠0)(h:gY L W a (j+1) v):D8 L W a m v:=fun _ _ _ _=>by
 have c:(L.getD j default).mark=(m:Int):=by rw[e];rfl
 have b:=hF.1 j d;unfold uK at b;rw[aj (by rw[c];omega),c]at b;exact⟨j,b.2.1,.mark d (by rw[c];omega) h⟩
omit hF in
theorem kY{a p k v:Nat}(c:p<L.length)(b:L.getD p default=bc 32 k 0 0)(d:k<=60)(h:gY L W (W k) (p+1) v):gY L W a p v:=by
 refine .load c (by rw[b];rfl) (by rw[b];rfl) (by rw[b];exact d) ?_;rw[b];exact h
omit hF in
theorem Jz{a p k v:Nat}(c:p<L.length)(b:L.getD p default=bc 84 k 0 0)(h:gY L W (a&&&k) (p+1) v):gY L W a p v:=by
 refine .and c (by rw[b];rfl) (by rw[b];rfl) ?_;rw[b];exact h
omit hF in
theorem O0{a p k:Nat}(c:p<L.length)(b:L.getD p default=bc 6 k 0 0):gY L W a p k:=by
 have:=gY.ret (L:=L) (W:=W) (a:=a) c (by rw[b];rfl) (by rw[b];rfl);rw[b]at this;exact this
omit hF in
theorem tU{a p m v:Nat}(c:p<L.length)(b:L.getD p default=bc 5 0 m 0)(h:D8 L W a m v):gY L W a p v:=by
 obtain⟨j,e,d⟩:=h p c (by rw[b];rfl) (.inl (by rw[b];rfl));exact .jump c (by rw[b];rfl) (by rw[b];rfl) (by rw[b];exact e) d
omit hF in
theorem lF{a p c k t f v d:Nat}(n:p<L.length)(q:L.getD p default=bc c k t f)(A:oy c=(d,false))(s:25<=d)
  (B:Ds d a k=true->(t=0->gY L W a (p+1) v)/\(t≠0->D8 L W a t v))(C:Ds d a k=false->(f=0->gY L W a (p+1) v)/\(f≠0->D8 L W a f v)):gY L W a p v:=by
 have b:(L.getD p default).kd=d:=by rw[q];show(oy c).1=d;rw[A]
 have g:(L.getD p default).kx=false:=by rw[q];show(oy c).2=false;rw[A]
 have o:(L.getD p default).mark=0:=by rw[q];rfl
 have e:(L.getD p default).k=k:=by rw[q];rfl
 have l:(L.getD p default).tr=(t:Int):=by rw[q];rfl
 have i:(L.getD p default).fa=(f:Int):=by rw[q];rfl
 cases m:Ds d a k with
 |true=>
  obtain⟨x,u⟩:=B m;by_cases r:t=0
  ·exact .br n o (by rw[b];exact s) g (by rw[b,e,m,aj rfl,l];exact .inl ⟨by omega,rfl⟩) (x r)
  obtain⟨j,z,y⟩:=u r p n o (.inl l);exact .br n o (by rw[b];exact s) g (by rw[b,e,m,aj rfl,l];exact .inr ⟨by omega,z⟩) y
 |false=>
  obtain⟨x,u⟩:=C m;by_cases r:f=0
  ·exact .br n o (by rw[b];exact s) g (by rw[b,e,m,af (by decide),i];exact .inl ⟨by omega,rfl⟩) (x r)
  obtain⟨j,z,y⟩:=u r p n o (.inr i);exact .br n o (by rw[b];exact s) g (by rw[b,e,m,af (by decide),i];exact .inr ⟨by omega,z⟩) y
end
theorem vR:oy 21=(25,false):=by decide+kernel
theorem Re:oy 37=(26,false):=by decide+kernel
theorem Qe:oy 53=(27,false):=by decide+kernel
theorem Qf:oy 69=(28,false):=by decide+kernel
theorem rW(a k:Nat):Ds 25 a k=decide (a=k):=rfl
theorem Rf(a k:Nat):Ds 26 a k=decide (k<a):=rfl
theorem O1(a k:Nat):Ds 27 a k=decide (k<=a):=rfl
theorem O2(a k:Nat):Ds 28 a k=decide (a&&&k≠0):=rfl
structure tV(W:Nat->Nat)(wide:Bool)(c:Cd)(x:Nat):Prop where
 nrm:uO c
 lo:W (loAt c)=nV x
 hi:wide=true->W (hiAt c)=q9 x
 small:wide=false->x<4294967296/\c.val<4294967296/\c.mask<4294967296
theorem Qs(x m:Nat):nV (x&&&m)=nV x&&&nV m:=by
 unfold nV;exact R8 (n:=32)
theorem Qt(x m:Nat):q9 (x&&&m)=q9 x&&&q9 m:=by
 unfold q9;have:=P6 (a:=x) (b:=m) (i:=32);simpa only[tA]using this
theorem AZ(x y:Nat):x=y↔q9 x=q9 y/\nV x=nV y:=by unfold q9 nV;omega
section
variable {L:List It} {W:Nat->Nat}
theorem D9{c:Cd}{wide:Bool}{b d p x v:Nat}(g:tV W wide c x)(l:∀k,k<(mX c wide b d).length->p+k<L.length/\L.getD (p+k) default=(mX c wide b d).getD k default)
  (r:b≠0)(i:d≠0)(z:x=c.val->Cx L W b v)(u:x≠c.val->Cx L W d v)(a:Nat):gY L W a p v:=by
 have f:loAt c<=60/\hiAt c<=60:=by unfold loAt hiAt;have:=g.nrm.arg;omega
 have tail:∀q,(∀k,k<2->q+k<L.length/\L.getD (q+k) default=[bc 32 (loAt c) 0 0,bc 21 (nV c.val) b d].getD k default)->(nV x=nV c.val↔x=c.val)->∀a,gY L W a q v:=fun q j y a=>by
  refine kY (j 0 (by omega)).1 (j 0 (by omega)).2 f.1 ?_;refine lF (j 1 (by omega)).1 (j 1 (by omega)).2 vR (by omega) (fun h=>⟨fun e=>absurd e r,fun _=>?_⟩) (fun h=>⟨fun e=>absurd e i,fun _=>?_⟩)
  ·rw[rW,g.lo]at h;exact z (y.1 (aN h)) _
  rw[rW,g.lo]at h;exact u (fun e=>cA h (y.2 e)) _
 cases wide with
 |false=>
  have A:=g.small rfl;exact tail p (fun k n=>l k (by simpa[mX]using n)) (by unfold nV;omega) a
 |true=>
  have s:=l 0 (by simp[mX]);have t:=l 1 (by simp[mX]);refine kY s.1 s.2 f.2 ?_;rw[g.hi rfl];refine lF t.1 t.2 vR (by omega) (fun h=>⟨fun _=>?_,fun e=>absurd rfl e⟩) (fun h=>⟨fun e=>absurd e i,fun _=>?_⟩)
  ·rw[rW]at h;have o:=aN h;refine tail (p+1+1) (fun k n=>?_) ?_ _
   ·have m:=l (k+2) (by have:=n;simp[mX]at this⊢;omega);rw[show p+(k+2)=p+1+1+k by omega]at m;exact⟨m.1,by rw[m.2];simp[mX]⟩
   rw[AZ x c.val];exact⟨fun e=>⟨o,e⟩,fun e=>e.2⟩
  rw[rW]at h;exact u (fun e=>cA h (by rw[e])) _
theorem Ba{c:Cd}{wide:Bool}{b g p x v:Nat}(j:tV W wide c x)(f:∀k,k<(j3 c wide b g).length->p+k<L.length/\L.getD (p+k) default=(j3 c wide b g).getD k default)
  (m:b≠0)(l:g≠0)(y:c.val<=x->Cx L W b v)(z:x<c.val->Cx L W g v)(a:Nat):gY L W a p v:=by
 have i:loAt c<=60/\hiAt c<=60:=by unfold loAt hiAt;have:=j.nrm.arg;omega
 have tail:∀q,(∀k,k<2->q+k<L.length/\L.getD (q+k) default=[bc 32 (loAt c) 0 0,bc 53 (nV c.val) b g].getD k default)->(nV c.val<=nV x↔c.val<=x)->∀a,gY L W a q v:=fun q n A a=>by
  refine kY (n 0 (by omega)).1 (n 0 (by omega)).2 i.1 ?_;refine lF (n 1 (by omega)).1 (n 1 (by omega)).2 Qe (by omega) (fun h=>⟨fun e=>absurd e m,fun _=>?_⟩) (fun h=>⟨fun e=>absurd e l,fun _=>?_⟩)
  ·rw[O1,j.lo]at h;exact y (A.1 (aN h)) _
  rw[O1,j.lo]at h;exact z (by have:=cA h;omega) _
 cases wide with
 |false=>
  have B:=j.small rfl;exact tail p (fun k o=>f k (by simpa[j3]using o)) (by unfold nV;omega) a
 |true=>
  have t:=f 0 (by simp[j3]);have u:=f 1 (by simp[j3]);have d:=f 2 (by simp[j3]);refine kY t.1 t.2 i.2 ?_;rw[j.hi rfl];refine lF u.1 u.2 Re (by omega) (fun h=>⟨fun e=>absurd e m,fun _=>?_⟩) (fun h=>⟨fun _=>?_,fun e=>absurd rfl e⟩)
  ·rw[Rf]at h;exact y (by have:=aN h;unfold q9 at this;omega) _
  rw[Rf]at h;have s:=cA h;refine lF (show p+1+1<L.length from d.1) d.2 vR (by omega) (fun h=>⟨fun _=>?_,fun e=>absurd rfl e⟩) (fun h=>⟨fun e=>absurd e l,fun _=>?_⟩)
  ·rw[rW]at h;have r:=aN h;refine tail (p+1+1+1) (fun k o=>?_) ?_ _
   ·have d:=f (k+3) (by have:=o;simp[j3]at this⊢;omega);rw[show p+(k+3)=p+1+1+1+k by omega]at d;exact⟨d.1,by rw[d.2];simp[j3]⟩
   unfold q9 at r;unfold nV;omega
  rw[rW]at h;have:=cA h;exact z (by unfold q9 at this s;omega) _
theorem GI{c:Cd}{wide:Bool}{b i p x v:Nat}(m:tV W wide c x)(g:∀k,k<(jc c wide b i).length->p+k<L.length/\L.getD (p+k) default=(jc c wide b i).getD k default)
  (r:b≠0)(l:i≠0)(z:x&&&c.mask=c.val->Cx L W b v)(u:x&&&c.mask≠c.val->Cx L W i v)(a:Nat):gY L W a p v:=by
 have j:loAt c<=60/\hiAt c<=60:=by unfold loAt hiAt;have:=m.nrm.arg;omega
 have tail:∀q,(∀k,k<3->q+k<L.length/\L.getD (q+k) default=[bc 32 (loAt c) 0 0,bc 84 (nV c.mask) 0 0,bc 21 (nV c.val) b i].getD k default)->(nV (x&&&c.mask)=nV c.val↔x&&&c.mask=c.val)->∀a,gY L W a q v:=fun q f y a=>by
  refine kY (f 0 (by omega)).1 (f 0 (by omega)).2 j.1 ?_;refine Jz (f 1 (by omega)).1 (f 1 (by omega)).2 ?_;rw[m.lo,<-Qs];refine lF (show q+1+1<L.length from(f 2 (by omega)).1) (f 2 (by omega)).2 vR (by omega) (fun h=>⟨fun e=>absurd e r,fun _=>?_⟩) (fun h=>⟨fun e=>absurd e l,fun _=>?_⟩)
  ·rw[rW]at h;exact z (y.1 (aN h)) _
  rw[rW]at h;exact u (fun e=>cA h (y.2 e)) _
 cases wide with
 |false=>
  have B:=m.small rfl;refine tail p (fun k n=>g k (by simpa[jc]using n)) ?_ a;have A:x&&&c.mask<=x:=xu;unfold nV;omega
 |true=>
  have s:=g 0 (by simp[jc]);have t:=g 1 (by simp[jc]);have d:=g 2 (by simp[jc]);refine kY s.1 s.2 j.2 ?_;rw[m.hi rfl];refine Jz t.1 t.2 ?_;rw[<-Qt];refine lF (show p+1+1<L.length from d.1) d.2 vR (by omega) (fun h=>⟨fun _=>?_,fun e=>absurd rfl e⟩) (fun h=>⟨fun e=>absurd e l,fun _=>?_⟩)
  ·rw[rW]at h;have o:=aN h;refine tail (p+1+1+1) (fun k n=>?_) ?_ _
   ·have d:=g (k+3) (by have:=n;simp[jc]at this⊢;omega);rw[show p+(k+3)=p+1+1+1+k by omega]at d;exact⟨d.1,by rw[d.2];simp[jc]⟩
   rw[AZ (x&&&c.mask) c.val];exact⟨fun e=>⟨o,e⟩,fun e=>e.2⟩
  rw[rW]at h;exact u (fun e=>cA h (by rw[e])) _
theorem M0{c:Cd}{wide:Bool}{j m p x v:Nat}(l:tV W wide c x)(d:∀k,k<(jY c wide j m).length->p+k<L.length/\L.getD (p+k) default=(jY c wide j m).getD k default)
  (i:j≠0)(g:m≠0)(b:ee c x=true->Cx L W j v)(f:ee c x=false->Cx L W m v)(a:Nat):gY L W a p v:=by
 unfold jY at d;unfold ee at b f;have s:=l.nrm.op;by_cases o:c.op=1
 ·simp only[aj o]at d b f;exact D9 l d i g (fun e=>b (bM e)) (fun e=>f (aK e)) a
 simp only[af o]at d b f;by_cases n:c.op=2
 ·simp only[aj n]at d b f;exact D9 l d g i (fun e=>f (by simp[e])) (fun e=>b (by simp[e])) a
 simp only[af n]at d b f;by_cases q:c.op=3
 ·simp only[aj q]at d b f;exact Ba l d g i (fun e=>f (aK (by omega))) (fun e=>b (bM e)) a
 simp only[af q]at d b f;by_cases r:c.op=6
 ·simp only[aj r,af (show¬c.op=4 by omega),af (show¬c.op=5 by omega)]at d b f;exact Ba l d i g (fun e=>b (by simp;omega)) (fun e=>f (by simp;omega)) a
 simp only[af r,af (show¬c.op=4 by omega),af (show¬c.op=5 by omega)]at d b f;exact GI l d i g (fun e=>b (bM e)) (fun e=>f (aK e)) a
end
def sd(L:List It)(W:Nat->Nat)(a:Mk):Prop:=∀c,lookM a.blocks c≠0->Cx L W (lookM a.blocks c) c
section
variable {L:List It} {W:Nat->Nat} (hF:fZ L)
include hF
theorem Bb{wide:Bool}{next:Nat}(m:next≠0)(X:Cd->Nat):∀(cs:List Cd) (s:Mk),(∀c∈cs,tV W wide c (X c))->pS (gL wide next cs s) L->∀v,
  ((cs.all fun c=>ee c (X c))=true->∀a,gY L W a (gL wide next cs s).l.length v)->((cs.all fun c=>ee c (X c))=false->Cx L W next v)->∀a,gY L W a s.l.length v
 |[],s,_,j,v,i,l,a=>i rfl a
 |c::t,s,n,j,v,i,l,a=>by
  have r:=(kF wide next t ((s.mark.put (jY c wide (s.marks+1) next)).put [du (s.marks+1)])).ext;have e:=j.ext r;have f:=e.ext (fY.put _ _);have b:=e.has (k:=0) (by simp);rw[cP]at b;refine M0 (n c (by simp)) (fun k p=>f.has p) (ib _) m (fun h=>fun q=>?_) (fun h=>?_) a
  ·refine uS hF b.1 b.2 (ib _) ?_;have ih:=Bb m X t _ (fun d o=>n d (by simp[o])) j v (fun g=>i (by rw[fg,h,g];rfl)) (fun g=>l (by rw[fg,h,g];rfl)) q;rw[jd]at ih;exact ih
  exact l (by rw[fg,h];rfl)
theorem M1{wide:Bool}(X:Cd->Nat){l:Mk}(q:sd L W l)(r:PR)(s:Mk)(u:∀c∈r.conds,tV W wide c (X c))(j:pS (lz wide r s) L)(o:fY (lz wide r s) l)(v:Nat)
  (t:(r.conds.all fun c=>ee c (X c))=true->v=r.code)(p:(r.conds.all fun c=>ee c (X c))=false->∀a,gY L W a (lz wide r s).l.length v)(a:Nat):gY L W a s.l.length v:=by
 unfold lz at j o p;have e:=j.ext (fY.put _ _);have i:=e.ext (fY.put _ _);have f:=i.ext (fY.goes _ _);have d:=j.has (k:=0) (by simp);have m:=e.has (k:=0) (by simp);rw[cP]at d m;have b:lookM l.blocks r.code=(gL wide (s.marks+1) r.conds s.mark).to r.code:=fY.to ((fY.put _ _).trans ((fY.put _ _).trans o));have n:((gL wide (s.marks+1) r.conds s.mark).goes r.code).l=(gL wide (s.marks+1) r.conds s.mark).l:=by unfold Mk.goes;split<;>rfl
 refine Bb hF (ib s.marks) X r.conds s.mark u f v (fun h g=>?_) (fun h g=>?_) a
 ·rw[<-n];refine tU m.1 m.2 ?_;have:=q r.code (by rw[b];exact Mk.SD _ _) g;rw[b]at this;rw[t h];exact this
 have:=p h g;rw[jd]at this;exact uS hF d.1 d.2 (ib _) this
theorem Bc{wide:Bool}{o d:Nat}(i:Cx L W o d)(X:Cd->Nat){j:Mk}(f:sd L W j):∀(l:List PR) (s:Mk),(∀r∈l,∀c∈r.conds,tV W wide c (X c))->pS (jH wide o l s) L->fY (jH wide o l s) j->∀a,
  gY L W a s.l.length (kK (fun c=>ee c (X c)) l d)
 |[],s,_,b,_,a=>by
  have e:=pS.has (s:=s) (xs:=[bc 5 0 o 0]) b (k:=0) (by simp);rw[cP]at e;exact tU e.1 e.2 (i a)
 |r::t,s,m,b,g,a=>by
  have n:=(nW wide o t (lz wide r s)).ext;refine M1 hF X f r s (m r (by simp)) (pS.ext b n) (n.trans g) _ (fun h=>?_) (fun h u=>?_) a
  ·unfold kK;rw[cG,h]
  have ih:=Bc i X f t _ (fun q p=>m q (by simp[p])) b g u;have:kK (fun c=>ee c (X c)) (r::t) d=kK (fun c=>ee c (X c)) t d:=by
   unfold kK;rw[cG,h]
  rw[this];exact ih
theorem ph{o n v:Nat}:∀(f:Nat) (l:List (Nat×Nat)) (s:Mk),l.length<f->(l.Pairwise fun x y=>x.1<y.1)->(∀x∈l,x.2≠0)->o≠0->pS (cW o f l s) L->
  (∀x∈l,x.1=n->D8 L W n x.2 v)->((∀x∈l,x.1≠n)->D8 L W n o v)->gY L W n s.l.length v
 |0,_,s,X,_,_,_,_,_,_=>absurd X (by omega)
 |f+1,[],s,_,_,_,A,j,E,q=>by
  have p:=pS.has (s:=s) (xs:=[bc 5 0 o 0]) j (k:=0) (by simp);rw[cP]at p;exact tU p.1 p.2 (q (by simp))
 |f+1,[x],s,_,_,M,A,j,E,q=>by
  have p:=pS.has (s:=s) (xs:=[bc 21 x.1 x.2 o]) j (k:=0) (by simp);rw[cP]at p;refine lF p.1 p.2 vR (by omega) (fun h=>⟨fun e=>absurd e (M x (by simp)),fun _=>?_⟩) (fun h=>⟨fun e=>absurd e A,fun _=>?_⟩)
  ·rw[rW]at h;exact E x (by simp) (aN h).symm
  rw[rW]at h;exact q (fun y H e=>cA h (by rw[bz]at H;subst H;exact e.symm))
 |f+1,x::y::t,s,X,J,M,A,j,E,q=>by
  generalize u:x::y::t=l at*;have V:2<=l.length:=by rw[<-u];simp
  generalize Z:l.length / 2=h at*;have b:1<=h/\h<l.length:=by omega
  have e:cW o (f+1) l s=cW o f (l.drop h) ((cW o f (l.take h) (s.mark.put [bc 53 (l.getD h default).1 (s.marks+1) 0])).put [du (s.marks+1)]):=by
   subst u;subst Z;rfl
  rw[e]at j;generalize D:s.mark.put [bc 53 (l.getD h default).1 (s.marks+1) 0]=F at*;have Y:=(eK o f (l.drop h) ((cW o f (l.take h) F).put [du (s.marks+1)])).ext;have C:=pS.ext j Y;have r:=pS.ext C (fY.put _ _);have G:=pS.ext r (eK o f (l.take h) F).ext;have m:=C.has (k:=0) (by simp);have U:s.l.length<L.length/\L.getD s.l.length default=bc 53 (l.getD h default).1 (s.marks+1) 0:=by
   rw[<-D]at G;have:=G.has (k:=0) (by simp);rw[cP]at this;exact this
  rw[cP]at m;have B:F.l.length=s.l.length+1:=by rw[<-D,jd];rfl
  have c:l.getD h default=l[h]'b.2:=by rw[aa,ah b.2];rfl
  have O:∀z∈l.take h,z.1<(l.getD h default).1:=fun z hz=>by
   rw[c];obtain⟨i,S,rfl⟩:=fj hz;have R:i<h:=by simpa using(bn S (R7 _ _))
   rw[List.getElem_take];exact gP.1 J i h (by omega) b.2 R
  have N:∀z∈l.drop h,(l.getD h default).1<=z.1:=fun z hz=>by
   rw[c];obtain⟨i,S,rfl⟩:=fj hz;rw[List.getElem_drop];by_cases T:i=0
   ·subst T;exact ae _
   rw[dt]at S;exact dS (gP.1 J h (h+i) b.2 (by omega) (by omega))
  have a:∀z,z∈l↔z∈l.take h\/z∈l.drop h:=fun z=>by rw[<-bT,fl]
  refine lF U.1 U.2 Qe (by omega) (fun g=>⟨fun e=>absurd e (ib _),fun _=>?_⟩) (fun g=>⟨fun _=>?_,fun e=>absurd rfl e⟩)
  ·rw[O1]at g;have g:=aN g;refine uS hF m.1 m.2 (ib _) ?_;have ih:=ph f (l.drop h) ((cW o f (l.take h) F).put [du (s.marks+1)]) (by rw[dt];omega) (J.sublist (List.drop_sublist _ _)) (fun z hz=>M z ((a z).2 (.inr hz))) A j
    (fun z hz=>E z ((a z).2 (.inr hz))) (fun d=>q fun z hz e=>by
      rcases(a z).1 hz with hz|hz
      ·have:=O z hz;omega
      exact d z hz e)
   rw[jd]at ih;exact ih
  rw[O1]at g;have g:=cA g;have ih:=ph f (l.take h) F (by rw[bJ];omega) (J.sublist (List.take_sublist _ _)) (fun z hz=>M z ((a z).2 (.inl hz))) A r
   (fun z hz=>E z ((a z).2 (.inl hz))) (fun d=>q fun z hz e=>by
     rcases(a z).1 hz with hz|hz
     ·exact d z hz e
     have:=N z hz;omega)
  rw[B]at ih;exact ih
omit hF in
theorem vS{a:Mk}:∀(l:List PS) (s:Mk),fY (bV l s).1 a->(bV l s).2=l.map fun y=>(y.number,lookM a.blocks y.code)
 |[],s,_=>rfl
 |x::t,s,b=>by
  have d:=vS t (s.goes x.code) b;have c:lookM a.blocks x.code=s.to x.code:=fY.to ((gV t _).ext.trans b);show(x.number,s.to x.code)::(bV t (s.goes x.code)).2=_
  rw[d,<-c];rfl
omit hF in
theorem vT:∀(l:List PS) (s:Mk),∀x∈(bV l s).2,x.2≠0
 |[],s,x,a=>by cases a
 |y::t,s,x,a=>by
  rcases aP.1 a with rfl|h
  ·exact Mk.SD _ _
  exact vT t _ x h
theorem M3{o d:Nat}(D:o≠0)(E:Cx L W o d){q:Mk}(C:sd L W q)(l:List PS)(s:Mk)(z:l.Pairwise fun x y=>x.number<y.number)(c:pS (kR o l s) L)(v:fY (kR o l s) q)(a:Nat):
  gY L W a s.l.length (match l.find? fun e=>decide (e.number=W 16)with|some e=>e.code|none=>d):=by
 unfold kR at c v;have B:=(eK o (l.length+1) (bV l (s.put [bc 32 16 0 0])).2 (bV l (s.put [bc 32 16 0 0])).1).ext;have m:=B.trans v;have i:=pS.ext c B;have u:=pS.ext i (gV l _).ext;have n:=u.has (k:=0) (by simp);rw[cP]at n;refine kY n.1 n.2 (by omega) ?_;have r:(bV l (s.put [bc 32 16 0 0])).1.l.length=s.l.length+1:=by
  have:∀(l:List PS) (s:Mk),(bV l s).1.l=s.l:=by
   intro l;induction l with
   |nil=>intro s;rfl
   |cons x t ih=>
    intro s;show(bV t (s.goes x.code)).1.l=s.l
    rw[ih];unfold Mk.goes;split<;>rfl
  rw[this,jd];rfl
 rw[<-r];have j:=vS l (s.put [bc 32 16 0 0]) m;have b:=vT l (s.put [bc 32 16 0 0]);rw[j]at c b;refine ph hF (l.length+1) _ _ (by simp) (by rw[fQ];exact z) b D c (fun x A e=>?_) (fun g=>?_)
 ·obtain⟨y,p,rfl⟩:=bt.1 A;have f:=AV PS.number z p;simp only at e;rw[e]at f;rw[f];exact C y.code (b _ A) _
 have f:(l.find? fun e=>decide (e.number=W 16))=none:=by
  rw[dQ];intro y p e;exact g (y.number,lookM q.blocks y.code) (bt.2 ⟨y,p,rfl⟩) (aN e)
 rw[f];exact E _
end
def Qr(l:List PS)(s d:Nat):Nat:=match l.find? fun e=>decide (e.number=s)with|some e=>e.code|none=>d
def dX.val(X:Cd->Nat)(s d:Nat):dX->Nat
 | .rules _ l=>kK (fun c=>ee c (X c)) l d
 | .subs _ l=>Qr l s d
def dX.Td(W:Nat->Nat)(wide:Bool)(X:Cd->Nat):dX->Prop
 | .rules _ l=>∀r∈l,∀c∈r.conds,tV W wide c (X c)
 | .subs _ l=>l.Pairwise fun x y=>x.number<y.number
theorem sM(s:Mk)(c:Nat):(s.goes c).l=s.l:=by unfold Mk.goes;split<;>rfl
theorem D7:∀(l:List dX) (s:Mk),(cM l s).1.l=s.l
 |[],s=>rfl
 |x::t,s=>by show(cM t s.mark).1.l=s.l;rw[D7 t];rfl
theorem pg:∀(l:List dX) (s:Mk),(cM l s).2.map (·.1)=l.map dX.number
 |[],s=>rfl
 |x::t,s=>by show x.number::(cM t s.mark).2.map (·.1)=_;rw[pg t];rfl
theorem uR:∀(l:List dX) (s:Mk),∀x∈(cM l s).2,x.2≠0
 |[],s,x,a=>by cases a
 |y::t,s,x,a=>by
  rcases aP.1 a with rfl|h
  ·exact ib _
  exact uR t _ x h
theorem x8:∀(l:List dX) (s:Mk),∀x∈(cM l s).2,∃y,y.number=x.1/\y∈l/\(y,x.2)∈l.zip ((cM l s).2.map (·.2))
 |[],s,x,a=>by cases a
 |y::t,s,x,a=>by
  rcases aP.1 a with rfl|h
  ·exact⟨y,rfl,by simp,by show(y,s.marks+1)∈(y::t).zip ((s.marks+1)::(cM t s.mark).2.map (·.2));simp⟩
  obtain⟨z,c,b,d⟩:=x8 t s.mark x h;exact⟨z,c,by simp[b],by show(z,x.2)∈(y::t).zip ((s.marks+1)::(cM t s.mark).2.map (·.2));rw[Sg];exact lu _ d⟩
structure Cw(X:Cd->Nat)(sub:Nat)(pl:Pl)(a n v:Nat):Prop where
 yes:∀x∈dM pl a,x.number=n->v=x.val X sub pl.dflt
 no:(∀x∈dM pl a,x.number≠n)->v=pl.dflt
structure xh(W:Nat->Nat)(X:Cd->Nat)(pl:Pl)(a:Nat):Prop where
 okay:∀x∈dM pl a,x.Td W (decide (a≠2)) X
 apart:((dM pl a).map dX.number).Nodup
theorem nh{b:Pl}{a:Nat}{x:dX}:x∈cH b a↔x∈dM b a:=by unfold cH;exact F1
theorem qw{d:Pl}{a:Nat}(h:((dM d a).map dX.number).Nodup):(cH d a).Pairwise fun x y=>x.number<y.number:=by
 have j:(cH d a).Pairwise fun x y=>(!decide (y.number<x.number))=true:=by
  unfold cH;refine QZ ?_ ?_ _
  ·intro a b c f g;simp only[fm,dh]at f g⊢;omega
  intro a b;simp only[df,fm,dh];omega
 have i:(cH d a).Perm (dM d a):=gK _ _;have k:((cH d a).map dX.number).Nodup:=(i.map dX.number).nodup_iff.2 h;have e:(cH d a).Pairwise fun x y=>x.number≠y.number:=fQ.1 k
 refine(j.and e).imp ?_;rintro x y ⟨f,g⟩;simp only[fm,dh]at f;omega
theorem xi(n:Nat):n&&&1073741824≠0↔n / 1073741824 % 2=1:=by
 have h:n&&&1073741824=(n / 1073741824 % 2)*1073741824:=by
  apply iy
  intro i;have e1:(1073741824:Nat)=2^30:=by decide
  rw[e1,mB,Nat.testBit_two_pow,Jf,Nat.testBit_two_pow_mul];by_cases a:30=i
  ·subst a;simp[Nat.testBit,tA]
  by_cases b:30<=i
  ·have:(n / 2^30 % 2).testBit (i - 30)=false:=nT (bn (ly _ (by decide)) (show 2<=2^(i-30) from by
     have:=gk (n:=2) (by decide) (show 1<=i - 30 by omega);simpa using this))
   simp[a,this]
  simp[a,b]
 rw[h];omega
section
variable {L:List It} {W:Nat->Nat} (hF:fZ L)
include hF
theorem MY{wide:Bool}{o d:Nat}(j:o≠0)(e:Cx L W o d)(X:Cd->Nat){g:Mk}(f:sd L W g)(x:dX)(s:Mk)(i:x.Td W wide X)(b:pS (x.Sw wide o s) L)(c:fY (x.Sw wide o s) g)(a:Nat):
  gY L W a s.l.length (x.val X (W 16) d):=by
 cases x with
 |rules n l=>exact Bc hF e X f l s i b c a
 |subs n l=>exact M3 hF j e f l s i b c a
theorem MZ{wide:Bool}{o d:Nat}(j:o≠0)(q:Cx L W o d)(X:Cd->Nat){r:Mk}(i:sd L W r):∀(l:List (dX×Nat)) (s:Mk),(∀x∈l,x.1.Td W wide X)->pS (F6 wide o l s) L->fY (F6 wide o l s) r->
  ∀x∈l,x.2≠0->Cx L W x.2 (x.1.val X (W 16) d)
 |[],s,_,_,_,x,f,_=>by cases f
 |y::t,s,m,n,p,x,f,c=>by
  have u:=oJ.doG_ext wide o t (y.1.Sw wide o (s.put [du y.2]));rcases aP.1 f with rfl|h
  ·have b:=pS.ext n u;have e:=pS.ext b (mN wide o x.1 _).ext;have g:=e.has (k:=0) (by simp);rw[cP]at g;intro a;refine uS hF g.1 g.2 c ?_;have:=MY hF j q X i x.1 (s.put [du x.2]) (m x (by simp)) b (u.trans p) a;rw[jd]at this;exact this
  exact MZ j q X i t _ (fun z v=>m z (by simp[v])) n p x h c
theorem ry{b:Pl}{a:Nat}(X:Cd->Nat){o:Mk}(q:sd L W o)(r:xh W X b a)(s:Mk)(l:pS (fA b a s) L)(m:fY (fA b a s) o){n v:Nat}(hv:Cw X (W 16) b a n v):
  gY L W n s.l.length v:=by
 unfold fA at l m;have p:=oJ.doG_ext (decide (a≠2)) (s.to b.dflt) ((cH b a).zip ((cM (cH b a) (s.goes b.dflt)).2.map (·.2)))
  (cW (s.to b.dflt) ((cH b a).length+1) (cM (cH b a) (s.goes b.dflt)).2 (cM (cH b a) (s.goes b.dflt)).1)
 have C:=(eK (s.to b.dflt) ((cH b a).length+1) (cM (cH b a) (s.goes b.dflt)).2 (cM (cH b a) (s.goes b.dflt)).1).ext;have D:=(iZ (cH b a) (s.goes b.dflt)).ext;have c:lookM o.blocks b.dflt=s.to b.dflt:=fY.to (D.trans (C.trans (p.trans m)));have k:s.to b.dflt≠0:=Mk.SD _ _;have t:Cx L W (s.to b.dflt) b.dflt:=by
  have:=q b.dflt (by rw[c];exact k);rwa [c]at this
 have j:=MZ hF k t X q _ _ (fun x g=>r.okay x.1 (nh.1 (mA (show(x.1,x.2)∈_ from g)).1)) l m;have z:(cM (cH b a) (s.goes b.dflt)).1.l.length=s.l.length:=by rw[D7,sM]
 rw[<-z];refine ph hF _ _ _ (by rw[mY];omega) ?_ (uR _ _) k (pS.ext l p) (fun x g e=>?_) (fun i=>?_)
 ·have:=qw r.apart;rw[<-fQ (f:=dX.number) (R:=fun x y=>x<y),<-pg _ (s.goes b.dflt),fQ]at this;exact this
 ·obtain⟨y,F,u,B⟩:=x8 _ _ x g;rw[hv.yes y (nh.1 u) (by omega)];exact j (y,x.2) B (uR _ _ x g) n
 rw[hv.no fun y A e=>?_]
 ·exact t n
 have d:y.number∈(cH b a).map dX.number:=bt.2 ⟨y,nh.2 A,rfl⟩;rw[<-pg _ (s.goes b.dflt)]at d;obtain⟨x,g,E⟩:=bt.1 d;exact i x g (by omega)
theorem OZ{a:Pl}(X:Cd->Nat){y:Mk}(t:sd L W y)(x:xh W X a 0)(G:xh W X a 1)(s:Mk)(f:pS (nP a s) L)(g:fY (nP a s) y){n v:Nat}
  (O:n=4294967295->v=a.dflt)(M:n≠4294967295->n / 1073741824 % 2=1->a.x32=false->v=2147483648)(H:n / 1073741824 % 2≠1->Cw X (W 16) a 0 n v)
  (N:n≠4294967295->n / 1073741824 % 2=1->a.x32=true->Cw X (W 16) a 1 n v):gY L W n s.l.length v:=by
 unfold nP at f g;simp only at f g;have first:∀A:Mk,fY ((s.goes a.dflt).put [bc 21 4294967295 (s.to a.dflt) 0]) A->pS A L->fY A y->(n≠4294967295->gY L W n (s.l.length+1) v)->gY L W n s.l.length v:=fun A J j F R=>by
  have d:=(pS.ext j J).has (k:=0) (by simp);rw[cP,sM]at d;have b:lookM y.blocks a.dflt=s.to a.dflt:=fY.to ((fY.put _ _).trans (J.trans F));refine lF d.1 d.2 vR (by omega) (fun h=>⟨fun e=>absurd e (Mk.SD _ _),fun _=>?_⟩) (fun h=>⟨fun _=>?_,fun e=>absurd rfl e⟩)
  ·rw[rW]at h;rw[O (aN h)];have:=t a.dflt (by rw[b];exact Mk.SD _ _) n;rwa [b]at this
  rw[rW]at h;exact R (cA h)
 generalize C:(s.goes a.dflt).put [bc 21 4294967295 (s.to a.dflt) 0]=c at*;have l:c.l.length=s.l.length+1:=by rw[<-C,jd,sM];rfl
 by_cases E:a.x32=false
 ·rw[aj E]at f g;have o:=(eB a 0 ((c.goes 2147483648).put [bc 69 1073741824 (c.to 2147483648) 0])).ext;have i:=pS.ext f o;refine first _ ((fY.goes _ _).trans ((fY.put _ _).trans o)) f g fun m=>?_
  have d:=i.has (k:=0) (by simp);rw[cP,sM,l]at d;have b:lookM y.blocks 2147483648=c.to 2147483648:=fY.to ((fY.put _ _).trans (o.trans g));refine lF d.1 d.2 Qf (by omega) (fun h=>⟨fun e=>absurd e (Mk.SD _ _),fun _=>?_⟩) (fun h=>⟨fun _=>?_,fun e=>absurd rfl e⟩)
  ·rw[O2]at h;rw[M m ((xi n).1 (aN h)) E];have:=t 2147483648 (by rw[b];exact Mk.SD _ _) n;rwa [b]at this
  rw[O2]at h;have q:n / 1073741824 % 2≠1:=fun e=>cA h ((xi n).2 e)
  have:=ry hF X t x _ f g (H q);rw[jd,sM,l]at this;exact this
 rw[af E]at f g;have B:a.x32=true:=by cases h:a.x32<;>simp_all
 have r:=(eB a 1 ((fA a 0 (c.mark.put [bc 69 1073741824 (c.marks+1) 0])).put [du (c.marks+1)])).ext;have u:=(eB a 0 (c.mark.put [bc 69 1073741824 (c.marks+1) 0])).ext;have j:=pS.ext f r;have i:=pS.ext j (fY.put _ _);have D:=pS.ext i u;refine first _ ((fY.mark _).trans ((fY.put _ _).trans (u.trans ((fY.put _ _).trans r)))) f g fun m=>?_
 have d:=D.has (k:=0) (by simp);have p:=j.has (k:=0) (by simp);rw[cP]at d p;have z:s.l.length+1<L.length/\L.getD (s.l.length+1) default=bc 69 1073741824 (c.marks+1) 0:=by rw[<-l];exact d
 refine lF z.1 z.2 Qf (by omega) (fun h=>⟨fun e=>absurd e (ib _),fun _=>?_⟩) (fun h=>⟨fun _=>?_,fun e=>absurd rfl e⟩)
 ·rw[O2]at h;refine uS hF p.1 p.2 (ib _) ?_;have:=ry hF X t G _ f g (N m ((xi n).1 (aN h)) B);rw[jd]at this;exact this
 rw[O2]at h;have q:n / 1073741824 % 2≠1:=fun e=>cA h ((xi n).2 e)
 have:=ry hF X t x _ i ((fY.put _ _).trans (r.trans g)) (H q);rw[jd,show c.mark.l=c.l from rfl,l]at this;exact this
end
structure Rb(pl:Pl):Prop where
 erise:∀a,a<5->(pl.entries.getD a []).Pairwise fun x y=>x.number<y.number
 srise:∀m,m<2->(pl.subs.getD m []).Pairwise fun x y=>x.number<y.number
 e0:∀e∈pl.entries.getD 0 [],e.number≠4294967295
 e2:∀e∈pl.entries.getD 2 [],e.number≠102/\e.number≠117
 conds:∀a,a<5->∀e∈pl.entries.getD a [],∀r∈e.rules,∀c∈r.conds,uO c/\(a=2->c.val<4294967296/\c.mask<4294967296)
structure QX(W:Nat->Nat)(r:Rc):Prop where
 number:W 0=r.number
 arch:W 4=r.arch
 lo:∀i,i<6->W (16+8*i)=nV (r.args.getD i 0)
 hi:∀i,i<6->W (20+8*i)=q9 (r.args.getD i 0)
def OY(r:Rc)(a:Nat)(c:Cd):Nat:=argN a (r.args.getD c.arg.toNat 0)
theorem MV{W:Nat->Nat}{r:Rc}(f:QX W r){a:Nat}{c:Cd}(d:uO c/\(a=2->c.val<4294967296/\c.mask<4294967296)):tV W (decide (a≠2)) c (OY r a c):=by
 have j:=d.1.arg;have g:=f.lo c.arg.toNat (by omega);have i:=f.hi c.arg.toNat (by omega);refine⟨d.1,?_,fun h=>?_,fun h=>?_⟩
 ·show W (16+8*c.arg.toNat)=_
  rw[g];unfold OY argN nV;split<;>omega
 ·have b:a≠2:=aN h;show W (20+8*c.arg.toNat)=_
  rw[i];unfold OY argN;rw[af b]
 have b:a=2:=lQ fun e=>cA h e
 refine⟨?_,d.2 b⟩;unfold OY argN;rw[aj b];exact ly _ (by omega)
theorem x7{W:Nat->Nat}{r:Rc}(k:QX W r){i:Pl}(d:Rb i){a:Nat}(j:a<5):xh W (OY r a) i a:=by
 refine⟨fun x f=>?_,?_⟩
 ·unfold dM at f;rcases bT.1 f with h|h
  ·obtain⟨e,g,rfl⟩:=bt.1 h;exact fun q l c o=>MV k (d.conds a j e g q l c o)
  by_cases b:a=2
  ·rw[aj b]at h;simp only[aP,bQ,eW]at h;rcases h with rfl|rfl
   ·exact d.srise 0 (by omega)
   exact d.srise 1 (by omega)
  rw[af b]at h;cases h
 unfold dM;rw[ew,cT];have g:((i.entries.getD a []).map (dX.number∘fun e=>dX.rules e.number e.rules)).Nodup:=by
  refine fQ.2 ((d.erise a j).imp ?_);intro x y h;show x.number≠y.number
  omega
 by_cases b:a=2
 ·subst b;rw[aj rfl];refine jx.2 ⟨g,by simp[dX.number],fun x f y m=>?_⟩;obtain⟨e,n,rfl⟩:=bt.1 f;have:=d.e2 e n;simp only[aJ,a8,dX.number,aP,bQ,eW,Function.comp]at m⊢;omega
 rw[af b];simpa using g
def Ct(b:Pl)(r:Rc)(a:Nat):Nat:=
 if a=2/\r.number=102 then vQ b 0 (r.args.getD 0 0 % 4294967296)else if a=2/\r.number=117 then vQ b 1 (r.args.getD 0 0 % 4294967296)else qt b r a
theorem Cu{W:Nat->Nat}{r:Rc}(n:QX W r){d:Pl}(m:Rb d){a:Nat}(o:a<5):Cw (OY r a) (W 16) d a r.number (Ct d r a):=by
 have k:W 16=r.args.getD 0 0 % 4294967296:=n.lo 0 (by omega);have j:∀e∈d.entries.getD a [],e.number=r.number->qt d r a=kK (fun c=>ee c (OY r a c)) e.rules d.dflt:=fun e i h=>by
  have:=AV PE.number (m.erise a o) i;unfold qt;rw[<-h,this];rfl
 refine⟨fun x hx h=>?_,fun f=>?_⟩
 ·unfold dM at hx;rcases bT.1 hx with hx|hx
  ·obtain⟨e,i,rfl⟩:=bt.1 hx;have l:e.number=r.number:=h;unfold Ct;have b:¬(a=2/\r.number=102):=fun⟨b,g⟩=>by subst b;have:=m.e2 e i;omega
   have g:¬(a=2/\r.number=117):=fun⟨b,g⟩=>by subst b;have:=m.e2 e i;omega
   rw[af b,af g];exact j e i l
  by_cases b:a=2
  ·rw[aj b]at hx;simp only[aP,bQ,eW]at hx;unfold Ct;rcases hx with rfl|rfl
   ·have l:r.number=102:=h.symm;rw[aj ⟨b,l⟩];show vQ d 0 _=Qr _ (W 16) d.dflt
    rw[k];rfl
   have l:r.number=117:=h.symm;rw[af (by omega),aj ⟨b,l⟩];show vQ d 1 _=Qr _ (W 16) d.dflt
   rw[k];rfl
  rw[af b]at hx;cases hx
 unfold dM at f;unfold Ct;have b:¬(a=2/\r.number=102):=fun⟨b,g⟩=>f (.subs 102 (d.subs.getD 0 [])) (by rw[aj b];simp) g.symm
 have g:¬(a=2/\r.number=117):=fun⟨b,g⟩=>f (.subs 117 (d.subs.getD 1 [])) (by rw[aj b];simp) g.symm
 rw[af b,af g];unfold qt;have:((d.entries.getD a []).find? fun e=>decide (e.number=r.number))=none:=by
  rw[dQ];intro e i h;exact f (.rules e.number e.rules) (bT.2 (.inl (bt.2 ⟨e,i,rfl⟩))) (aN h)
 rw[this]
theorem Jv(s:Mk){m:Nat}(g:m≠0):∀(a:List Nat) (k:Nat),k<(l7 s a).length->((l7 s a).getD k default).mark=(m:Int)->
  ∃c,lookM s.blocks c=m/\k+1<(l7 s a).length/\(l7 s a).getD (k+1) default=bc 6 c 0 0
 |[],k,b,_=>absurd b (by simp[l7])
 |c::t,0,b,h=>⟨c,by have:((lookM s.blocks c:Nat):Int)=(m:Int):=h;omega,by simp[l7],rfl⟩
 |c::t,1,b,h=>by have:(0:Int)=(m:Int):=h;omega
 |c::t,k+2,b,h=>by
  obtain⟨d,f,e,i⟩:=Jv s g t k (by simpa[l7]using b) h;exact⟨d,f,by have:=e;simp[l7]at this⊢;omega,i⟩
theorem DZ(s:Mk):∀a:List Nat,(l7 s a).length=2*a.length
 |[]=>rfl
 |c::t=>by simp[l7,DZ s t];omega
theorem MW{s:Mk}{b:List Nat}{W:Nat->Nat}(hF:fZ (s.l++l7 s b))(C:vI s):sd (s.l++l7 s b) W s:=fun c z a i v D F=>by
 generalize u:s.l++l7 s b=L at*;have r:((lookM s.blocks c:Nat):Int)≠0:=by omega
 have x:¬(L.getD i default).mark≠0:=by omega
 have f:=hF.1 i v;unfold uK at f;rw[af x]at f;obtain⟨j,G,o⟩:∃j,i<j/\pa L (lookM s.blocks c:Nat) j:=by
  rcases F with h|h
  ·rw[h]at f;exact(f.2.1 r).2
  rw[h]at f;exact(f.2.2 r).2
 clear f;have l:=(o.2.2 j o.2.1).2 rfl;have t:¬j<s.l.length:=fun n=>by
  have e:L.getD j default=s.l.getD j default:=by rw[<-u,aa,bU n,aa]
  have p:s.l.getD j default∈s.l:=Kb n;rw[e]at l;obtain⟨m,A,y⟩:=C.here _ p (by omega);exact y.no c (by omega)
 obtain⟨k,rfl⟩:=Mv (Mn t);have g:∀q,L.getD (s.l.length+q) default=(l7 s b).getD q default:=fun q=>by
  rw[<-u,aa,bY (by omega),aa];congr 2;omega
 have B:L.length=s.l.length+(l7 s b).length:=by rw[<-u,bw]
 rw[g]at l;obtain⟨d,A,y,E⟩:=Jv s z b k (by have:=o.2.1;omega) l;obtain rfl:=C.inj c d z A.symm;refine⟨_,o,.mark o.2.1 (by rw[g,l];omega) ?_⟩;exact O0 (by omega) (by rw[eF,g];exact E)
section
variable {L:List It} {W:Nat->Nat} (hF:fZ L)
include hF
theorem xb{c:Pl}(f:Rb c){r:Rc}(d:QX W r){a m:Nat}(A:a<5)(B:m≠0){y:Mk}(u:sd L W y)(s:Mk)(b:pS (gM c a m s) L)(g:fY (gM c a m s) y){v:Nat}
  (j:a=0->v=if r.number≠4294967295/\r.number / 1073741824 % 2=1 then(if c.x32=false then 2147483648 else Ct c r 1)else Ct c r 0)(E:a≠0->v=Ct c r a):Cx L W m v:=fun D=>by
 unfold gM at b g;simp only at b g;have key:∀n:Mk,fY ((s.put [du m]).put [bc 32 0 0 0]) n->pS n L->gY L W r.number ((s.put [du m]).put [bc 32 0 0 0]).l.length v->D8 L W D m v:=fun n F o z=>by
  have i:=pS.ext o F;have p:=i.has (k:=0) (by simp);have q:=(pS.ext i (fY.put _ _)).has (k:=0) (by simp);rw[cP]at p q;rw[jd]at z;refine uS hF q.1 q.2 B ?_;have e:s.l.length+1=(s.put [du m]).l.length:=by rw[jd];rfl
  rw[e];refine kY p.1 p.2 (by omega) ?_;rw[d.number];exact z
 by_cases h:a=0
 ·rw[aj h]at b g;refine key _ (re c _).ext b (OZ hF (OY r 0) u (x7 d f (by omega)) ?_ _ b g ?_ ?_ ?_ ?_)
  ·have:=x7 d f (a:=1) (by omega);exact this
  ·intro e;rw[j h,af (by omega)];unfold Ct;rw[af (by omega),af (by omega)];unfold qt;have:((c.entries.getD 0 []).find? fun x=>decide (x.number=r.number))=none:=by
    rw[dQ];intro x l C;exact f.e0 x l ((aN C).trans e)
   rw[this]
  ·intro e1 e2 t;rw[j h,aj ⟨e1,e2⟩,aj t]
  ·intro e;rw[j h,af (by omega)];exact Cu d f (by omega)
  intro e1 e2 t;rw[j h,aj ⟨e1,e2⟩,af (by rw[t];decide)];exact Cu d f (a:=1) (by omega)
 rw[af h]at b g;refine key _ (eB c a _).ext b (ry hF (OY r a) u (x7 d f A) _ b g ?_);rw[E h];exact Cu d f A
end
def Jw:Mk:=rV 4 (rV 3 (rV 2 (rV 0 ⟨[bc 32 4 0 0],0,[]⟩)))
def xg:Mk:=(Jw.goes 2147483648).put [bc 5 0 (Jw.to 2147483648) 0]
theorem D5(a:Pl):jI a=gM a 4 4 (gM a 3 3 (gM a 2 2 (gM a 0 1 xg))):=rfl
theorem Qq:vI Jw:=by
 have e:vI ⟨[bc 32 4 0 0],0,[]⟩:=⟨fun c d h=>absurd rfl h,fun c=>ae _,fun x b h=>by
  rw[bz]at b;subst b;exact absurd rfl h,ae _⟩
 have step:∀a (s:Mk),vI s->vI (rV a s):=fun a s h=>(Step.one _ _ _ _ _).inv h.mark.1
 exact step 4 _ (step 3 _ (step 2 _ (step 0 _ e)))
theorem Cv:Step Jw xg:=(Step.goes _ _).trans (Step.one _ _ _ _ _)
theorem Jy{m:Nat}(b:1<=m)(a:m<=4):NB xg m:=by
 refine NB.ext ⟨by omega,a,fun c=>?_⟩ Cv.ext;show lookM [] c≠m
 exact fun e=>by have:(0:Nat)=m:=e;omega
theorem sL(a:Pl):Step xg (gM a 0 1 xg)/\Step (gM a 0 1 xg) (gM a 2 2 (gM a 0 1 xg))/\Step (gM a 2 2 (gM a 0 1 xg)) (gM a 3 3 (gM a 2 2 (gM a 0 1 xg)))/\
  Step (gM a 3 3 (gM a 2 2 (gM a 0 1 xg))) (jI a):=by
 have b:=rh a 0 1 xg fun _=>Jy (by omega) (by omega)
 have c:=rh a 2 2 (gM a 0 1 xg) fun _=>(Jy (by omega) (by omega)).ext b.ext
 have d:=rh a 3 3 (gM a 2 2 (gM a 0 1 xg)) fun _=>(Jy (by omega) (by omega)).ext (b.ext.trans c.ext)
 have e:=rh a 4 4 (gM a 3 3 (gM a 2 2 (gM a 0 1 xg))) fun _=>(Jy (by omega) (by omega)).ext (b.ext.trans (c.ext.trans d.ext))
 exact⟨b,c,d,e⟩
theorem D6(a:Pl):vI (jI a):=by
 obtain⟨d,b,e,c⟩:=sL a;exact(d.trans (b.trans (e.trans c))).inv (Cv.inv Qq)
theorem MX{d:Pl}(u:Rb d){c:List Nat}(hF:fZ (iH d c)){W:Nat->Nat}{r:Rc}(n:QX W r):gY (iH d c) W 0 0 (qu d r):=by
 have l:sd (iH d c) W (jI d):=MW hF (D6 d);have A:pS (jI d) (iH d c):=⟨_,rfl⟩;obtain⟨t,p,y,x⟩:=sL d;generalize iH d c=L at*;have p3:=A.ext x.ext;have p2:=p3.ext y.ext;have p1:=p2.ext p.ext;have p0:=p1.ext t.ext;have z:=x.ext;have e2:=y.ext.trans z;have e1:=p.ext.trans e2;have e0:=t.ext.trans e1;have g:∀k,k<5->k<L.length/\L.getD k default=[bc 32 4 0 0,bc 21 3221225534 1 0,bc 21 1073741827 2 0,bc 21 3221225655 3 0,bc 21 3221225715 4 0].getD k default:=fun k q=>by
  obtain⟨R,G⟩:=p0;have E:xg.l=[bc 32 4 0 0,bc 21 3221225534 1 0,bc 21 1073741827 2 0,bc 21 3221225655 3 0,bc 21 3221225715 4 0]++[bc 5 0 (Jw.to 2147483648) 0]:=by
   unfold xg Mk.put;simp only[sM];rfl
  rw[G,E];refine⟨by simp;omega,?_⟩;rw[dz,aa,bU (by simpa using q),aa]
 have B:5<L.length/\L.getD 5 default=bc 5 0 (Jw.to 2147483648) 0:=by
  have:=pS.has (s:=Jw.goes 2147483648) (xs:=[bc 5 0 (Jw.to 2147483648) 0]) p0 (k:=0) (by simp);rw[sM]at this;exact this
 have i:Cx L W (Jw.to 2147483648) 2147483648:=by
  have f:lookM (jI d).blocks 2147483648=Jw.to 2147483648:=fY.to ((fY.put _ _).trans e0);have:=l 2147483648 (by rw[f];exact Mk.SD _ _);rwa [f]at this
 refine kY (g 0 (by omega)).1 (g 0 (by omega)).2 (by omega) ?_;rw[n.arch];have step:∀k K m,k<5->0<k->[bc 32 4 0 0,bc 21 3221225534 1 0,bc 21 1073741827 2 0,bc 21 3221225655 3 0,bc 21 3221225715 4 0].getD k default=bc 21 K m 0->m≠0->(r.arch=K->Cx L W m (qu d r))->(r.arch≠K->gY L W r.arch (k+1) (qu d r))->gY L W r.arch k (qu d r):=fun k K m q D H F t p=>by
  refine lF (g k q).1 ((g k q).2.trans H) vR (by omega) (fun h=>⟨fun e=>absurd e F,fun _=>?_⟩) (fun h=>⟨fun _=>?_,fun e=>absurd rfl e⟩)
  ·rw[rW]at h;exact t (aN h) _
  rw[rW]at h;exact p (cA h)
 have b:∀a,ma r.arch r.number=some a->¬(a=1/\d.x32=false)->qu d r=Ct d r a:=fun a h j=>by
  unfold qu;rw[h];simp only;rw[af j];rfl
 refine step 1 3221225534 1 (by omega) (by omega) rfl (by omega) (fun h=>?_) (fun n0=>?_)
 ·refine xb hF u n (by omega) (by omega) l _ p1 e1 (fun _=>?_) (fun e=>absurd rfl e);have o:ma r.arch r.number=if r.number≠4294967295/\r.number / 1073741824 % 2=1 then some 1 else some 0:=by
   unfold ma;rw[af (by omega),af (by omega),af (by omega),aj h]
  by_cases v:r.number≠4294967295/\r.number / 1073741824 % 2=1
  ·rw[aj v]at o⊢;by_cases j:d.x32=false
   ·rw[aj j];unfold qu;rw[o];simp only;rw[aj ⟨by trivial,j⟩]
   rw[af j];exact b 1 o fun e=>j e.2
  rw[af v]at o⊢;exact b 0 o fun e=>by omega
 refine step 2 1073741827 2 (by omega) (by omega) rfl (by omega) (fun h=>?_) (fun n2=>?_)
 ·refine xb hF u n (by omega) (by omega) l _ p2 e2 (fun e=>absurd e (by omega)) (fun _=>?_);exact b 2 (by unfold ma;rw[aj h]) fun e=>by omega
 refine step 3 3221225655 3 (by omega) (by omega) rfl (by omega) (fun h=>?_) (fun n3=>?_)
 ·refine xb hF u n (by omega) (by omega) l _ p3 z (fun e=>absurd e (by omega)) (fun _=>?_);exact b 3 (by unfold ma;rw[af (by omega),aj h]) fun e=>by omega
 refine step 4 3221225715 4 (by omega) (by omega) rfl (by omega) (fun h=>?_) (fun C=>?_)
 ·refine xb hF u n (by omega) (by omega) l _ A (fY.refl _) (fun e=>absurd e (by omega)) (fun _=>?_);exact b 4 (by unfold ma;rw[af (by omega),af (by omega),aj h]) fun e=>by omega
 have hv:qu d r=2147483648:=by
  unfold qu ma;rw[af n2,af n3,af C,af n0]
 rw[hv];exact tU B.1 B.2 (i _)
end
section
open Go.RowKit
theorem zr(x y:Int)(w:Ub):TW 252 #[TY T7 x,TY T7 y] w (T2 (decide (x<y))):=by
 have a:=fun x W=>BU x W
 go_enter func252,ntmps252;go_wp2_with (go_at_call 94;refine(a _ _).mono ?_;rintro e b ⟨rfl,rfl⟩);all_goals
  go_ret;exact⟨rfl,rfl⟩
theorem eD(x y:Int)(w:Ub):TX 252 #[TY T7 x,TY T7 y] w (T2 (decide (x<y))):=
 (zr x y w).mono fun e w' h=>⟨h.1,h.2.symm⟩
theorem vx(g n cap a b:Nat)(w:Ub)(r:UB w g n)(B:n<=1000000)(k:a<=b)(z:b<=n):
  Calls prog 250 #[T0 (some ⟨g,0,none⟩) n cap,TY T6 a,TY T6 b] w (Og g n w):=by
 go_enter func250,ntmps250;go_wp2_with fail;go_loopw [6,7] (fun i j wr=>∃e:Nat,∃d:Int,i=TY T6 e/\j=TY T6 d/\d<b/\a<=e/\e<=b/\UB wr g n/\w.grownBy wr (some g))
  (fun i _ _=>b - (intOf i).toNat)
 case atStart=>exact⟨a,(b:Int) - 1,rfl,rfl,by omega,ae _,k,r,cj _ _⟩
 case round=>
  obtain⟨e,d,rfl,rfl,v,u,p,c,l⟩:=hrel;by_cases m:(e:Int)<d
  ·obtain⟨f,rfl⟩:∃f:Nat,d=(f:Nat):=⟨d.toNat,by omega⟩;obtain⟨x,t,o⟩:=c.cell e (by omega);obtain⟨y,s,q⟩:=c.cell f (by omega);have A:=c.frozen e;have C:=c.frozen f;go_wp2_with fail;go_region;go_wp2_with fail;go_roundw;case rel=>exact⟨e+1,(f:Int) - 1,by go_num,by go_num,by omega,by omega,by omega,((c.set_ e y s).set_ f x t).drew,eM (cQ (cQ l _ _) _ _)⟩
   case measure=>simp[intOf]<;>omega
  go_wp2_with fail;go_end0
  exact⟨rfl,c,l⟩
theorem uB(g n cap a b:Nat)(w:Ub)(z:UB w g n)(M:n<=1000000)(s:a<=b)(G:b<=n):
  Calls prog 246 #[T0 (some ⟨g,0,none⟩) n cap,TY T6 a,TY T6 b] w (Og g n w):=by
 have A:=fun x y W=>zr x y W
 go_enter func246,ntmps246;go_wp2_with fail;go_loopw [6] (fun i wr=>∃e:Nat,i=TY T6 e/\a+1<=e/\UB wr g n/\w.grownBy wr (some g))
  (fun i _=>n - (intOf i).toNat)
 case atStart=>exact⟨a+1,by go_num,ae _,z,cj _ _⟩
 case round=>
  obtain⟨e,rfl,F,k,p⟩:=hrel;by_cases m:(e:Int)<(b:Nat)
  ·go_wp2_with fail;obtain⟨r,o⟩:∃r,r=wr:=⟨wr,rfl⟩
   go_loopw [7] (fun j l=>∃d:Nat,j=TY T6 d/\a<=d/\d<=e/\UB l g n/\w.grownBy l (some g))
    (fun j _=>(intOf j).toNat)
   case atStart=>exact⟨e,rfl,by omega,ae _,k,p⟩
   case round=>
    obtain⟨d,rfl,D,u,c,f⟩:=hrel;have q:e<b:=by omega
    clear A m o;go_wp2;by_cases B:a<d
    ·obtain⟨x,E,t⟩:=c.cell d (by omega);obtain⟨y,C,v⟩:=c.cell (d - 1) (by omega);have L:=c.frozen d;have N:=c.frozen (d - 1);have H:d<n:=by omega
     have J:d - 1<n:=by omega
     go_quiet (first|(go_at_call 252;refine Calls.quiet_of_same (eD _ _ _)))
     go_wp2
     ·go_region
      all_goals go_wp2
      go_roundw;case rel=>exact⟨d - 1,by congr 1;omega,by omega,by omega,(((c.drewN nq).set_ d y C).set_ (d - 1) x E).drew,eM (cQ (cQ (cD f nq) _ _) _ _)⟩
      case measure=>simp[intOf]<;>omega
     go_roundw;case rel=>exact⟨e+1,by go_num,by omega,c.drewN nq,cD f nq⟩
     case measure=>simp[intOf]<;>omega
    go_quiet (first|(go_at_call 252;refine Calls.quiet_of_same (eD _ _ _)))
    go_wp2;go_roundw;case rel=>exact⟨e+1,by go_num,by omega,c.drewN nq,cD f nq⟩
    case measure=>simp[intOf]<;>omega
  go_wp2;go_end0;exact⟨rfl,k,p⟩
theorem C9(g n cap t d c:Nat)(w:Ub)(p:UB w g n)(X:n<=1000000)(f:t<=d)(R:c+d<=n):
  Calls prog 329 #[T0 (some ⟨g,0,none⟩) n cap,TY T6 t,TY T6 d,TY T6 c] w (Og g n w):=by
 go_enter func329,ntmps329;go_wp2;go_loopw [8] (fun i wr=>∃r:Nat,i=TY T6 r/\r<=d/\UB wr g n/\w.grownBy wr (some g))
  (fun i _=>d - (intOf i).toNat)
 case atStart=>exact⟨t,rfl,f,p,cj _ _⟩
 case round=>
  obtain⟨r,rfl,V,a,e⟩:=hrel;by_cases j:2*r+1<d
  ·obtain⟨b,l⟩:∃b:Nat,b=2*r+1:=⟨_,rfl⟩;have M:(2:Int)*(r:Int)+1=(b:Nat):=by omega
   have O:b<d:=by omega
   have E:r<b:=by omega
   obtain⟨x,A,o⟩:=a.cell (c+b) (by omega);obtain⟨y,q,F⟩:=a.cell (c+r) (by omega);have J:=a.frozen (c+b);have Y:=a.frozen (c+r);have S:c+b<n:=by omega
   have T:c+r<n:=by omega
   obtain⟨C,D,L,W⟩:=aB l j f p;clear l j f p;go_wp2;by_cases U:(b:Int)+1<(d:Int)
   ·obtain⟨z,G,m⟩:=a.cell (c+b+1) (by omega);have u:=a.frozen (c+b+1);have N:c+b+1<n:=by omega
    have k:wr.cell? ⟨g,c+(b+1),none⟩=some (TY T7 z):=m;have s:wr.frozen? ⟨g,c+(b+1),none⟩=false:=u;have H:c+(b+1)<n:=N;have v:r<b+1:=by omega
    go_quiet (first|(go_at_call 252;refine Calls.quiet_of_same (eD _ _ _)))
    go_wp2
    ·clear o J;go_quiet (first|(go_at_call 252;exact(eD _ _ _).mono (fun _ _ h=>⟨h.1,_,h.2⟩)));go_wp2
     ·go_end0;exact⟨rfl,(a.drewN _).drewN _,cD (cD e _) _⟩
     go_region
     all_goals go_wp2_with fail
     go_roundw;case rel=>exact⟨b+1,by go_num,by omega,((a.drewN _).set_ _ _ G).set_ _ _ q,cQ (cQ (cD e _) _ _) _ _⟩
     case measure=>simp[intOf]<;>omega
    clear m u k s;go_quiet (first|(go_at_call 252;exact(eD _ _ _).mono (fun _ _ h=>⟨h.1,_,h.2⟩)));go_wp2
    ·go_end0;exact⟨rfl,(a.drewN _).drewN _,cD (cD e _) _⟩
    go_region
    all_goals go_wp2_with fail
    go_roundw;case rel=>exact⟨b,by go_num,by omega,((a.drewN _).set_ _ _ A).set_ _ _ q,cQ (cQ (cD e _) _ _) _ _⟩
    case measure=>simp[intOf]<;>omega
   go_quiet (first|(go_at_call 252;refine Calls.quiet_of_same (eD _ _ _)))
   go_wp2;go_quiet (first|(go_at_call 252;exact(eD _ _ _).mono (fun _ _ h=>⟨h.1,_,h.2⟩)));go_wp2
   ·go_end0;exact⟨rfl,(a.drewN _).drewN _,cD (cD e _) _⟩
   go_region
   all_goals go_wp2
   go_roundw;case rel=>exact⟨b,by go_num,by omega,((a.drewN _).set_ _ _ A).set_ _ _ q,cQ (cQ (cD e _) _ _) _ _⟩
   case measure=>simp[intOf]<;>omega
  have B:d<=2*r+1:=by omega
  go_wp2;go_end0;exact⟨rfl,a,e⟩
theorem Da(g n cap a b:Nat)(w:Ub)(X:UB w g n)(hn:n<=1000000)(m:a<=b)(v:b<=n):
  Calls prog 247 #[T0 (some ⟨g,0,none⟩) n cap,TY T6 a,TY T6 b] w (Og g n w):=by
 have t:=fun(F s:Nat) (W:Ub) (h:UB W g n) (T:F<=s) (M:a+s<=n)=>C9 g n cap F s a W h hn T M
 obtain⟨L,C⟩:∃L:Nat,L=b - a:=⟨_,rfl⟩;have O:(b:Int) - (a:Int)=(L:Nat):=by omega
 have Z:a+L<=n:=by omega
 have B:((L:Int) - 1).tdiv 2<=(L:Nat)/\ -1<=((L:Int) - 1).tdiv 2:=by
  rcases fG L with h|h
  ·rw[h];decide
  rw[iX (by omega)];omega
 obtain⟨HL,U,HB,A⟩:=aB C m v B;clear C m v B;go_enter func247,ntmps247;go_wp2;go_loopw [9] (fun i wr=>∃d:Int,i=TY T6 d/\d<=L/\ -1<=d/\UB wr g n/\w.grownBy wr (some g))
  (fun i _=>(intOf i+1).toNat)
 case atStart=>exact⟨_,rfl,A.out.1,A.out.2,X,cj _ _⟩
 case round=>
  obtain⟨d,rfl,hd,ag,o,z⟩:=hrel;by_cases J:0<=d
  ·obtain⟨k,rfl⟩:∃k:Nat,d=(k:Nat):=⟨d.toNat,by omega⟩;go_wp2_with (go_at_call 329;refine(t _ _ _ o (by omega) (by omega)).mono ?_;rintro e u ⟨rfl,f,j⟩);go_roundw;case rel=>exact⟨(k:Int) - 1,by go_num,by omega,by omega,f,fp z j⟩
   case measure=>simp[intOf]<;>omega
  have Y:d<0:=by omega
  go_wp2;obtain⟨D,q⟩:∃D,D=wr:=⟨wr,rfl⟩;go_loopw [10] (fun i p=>∃d2:Int,i=TY T6 d2/\d2<L/\ -1<=d2/\UB p g n/\w.grownBy p (some g))
   (fun i _=>(intOf i+1).toNat)
  case atStart=>exact⟨_,rfl,by omega,by omega,o,z⟩
  case round=>
   obtain⟨d2,rfl,H,S,c,l⟩:=hrel;clear q;by_cases E:0<=d2
   ·obtain⟨k,rfl⟩:∃k:Nat,d2=(k:Nat):=⟨d2.toNat,by omega⟩;have h5:a<n:=by omega
    obtain⟨y,r,V⟩:=c.cell a (by omega);have fy:=c.frozen a;rcases fG k with rfl|hk0
    ·go_wp2;go_region;all_goals go_wp2_with fail
     refine(t 0 0 _ ((c.set_ a y r).set_ a y r).drew (by omega) (by omega)).mono ?_;rintro e u ⟨rfl,f,j⟩;go_wp2;go_roundw;case rel=>exact⟨(0:Int) - 1,by go_num,by omega,by omega,f,fp (eM (cQ (cQ l _ _) _ _)) j⟩
     case measure=>simp[intOf]<;>omega
    obtain⟨x,hx,R⟩:=c.cell (a+k) (by omega);have fx:=c.frozen (a+k);have h4:a+k<n:=by omega
    have N:¬k=0:=by omega
    go_wp2;go_region;all_goals go_wp2_with fail
    refine(t 0 k _ ((c.set_ a x hx).set_ (a+k) y r).drew (by omega) (by omega)).mono ?_;rintro e u ⟨rfl,f,j⟩;go_wp2;go_roundw;case rel=>exact⟨(k:Int) - 1,by go_num,by omega,by omega,f,fp (eM (cQ (cQ l _ _) _ _)) j⟩
    case measure=>simp[intOf]<;>omega
   have G:d2<0:=by omega
   go_wp2;go_end0;exact⟨rfl,c,l⟩
theorem tk(g n cap a b p:Nat)(w:Ub)(B:UB w g n)(hn:n<=1000000)(U:a<=p)(ab:p<b)(hb:b<=n):
  Calls prog 253 #[T0 (some ⟨g,0,none⟩) n cap,TY T6 a,TY T6 b,TY T6 p] w fun e w'=>
   (∃m:Nat,e=.returned (TY T6 m)/\a<m/\m<=b)/\UB w' g n/\w.grownBy w' (some g):=by
 go_enter func253,ntmps253;obtain⟨y,t,u⟩:=B.cell a (by omega);have O:=B.frozen a;have X:a<n:=by omega
 go_wp2_with fail;go_cut [24] from 11 to 24 (fun am v=>UB v g n/\w.grownBy v (some g))
 case first=>
  rcases iY U with rfl|hap'
  ·go_region
   go_wp2_with fail;go_meet
   exact⟨((B.set_ a y t).set_ a y t).drew,eM (cQ (cQ (cj _ _) _ _) _ _)⟩
  obtain⟨x,H,z⟩:=B.cell p (by omega);have V:=B.frozen p;have h4:p<n:=by omega
  have R:¬p=a:=by omega
  have G:¬a=p:=by omega
  go_region
  go_wp2_with fail;go_meet
  exact⟨((B.set_ a x H).set_ p y t).drew,eM (cQ (cQ (cj _ _) _ _) _ _)⟩
 case rest=>
  obtain⟨L,M⟩:=hcut;clear u O t B;go_wp2_with fail;go_loopw [9,10] (fun i j wr=>∃(r:Nat) (d:Int),i=TY T6 r/\j=TY T6 d/\a<r/\r<=b/\d<b/\UB wr g n/\w.grownBy wr (some g))
   (fun i j _=>(intOf j+1 - intOf i).toNat)
  case atStart=>exact⟨a+1,(b:Int) - 1,by go_num,rfl,by omega,by omega,by omega,L,M⟩
  case round=>
   obtain⟨i0,d0,rfl,rfl,Z,T,ak,C,S⟩:=hrel;clear L M;go_step;go_step;go_step;go_cut [9] from 29 to 45 (fun s9 v=>∃r:Nat,s9=TY T6 r/\i0<=r/\r<=b/\UB v g n/\w.grownBy v (some g))
   case first=>
    go_step;go_loopw [9] (fun i q=>∃r:Nat,i=TY T6 r/\i0<=r/\r<=b/\UB q g n/\w.grownBy q (some g))
     (fun i _=>b - (intOf i).toNat)
    case atStart=>exact⟨i0,rfl,ae _,T,C,S⟩
    case round=>
     obtain⟨i1,rfl,E,D,f,l⟩:=hrel;clear C S;obtain⟨y,t,u⟩:=f.cell a (by omega);have O:=f.frozen a;have X:a<n:=by omega
     by_cases F:(i1:Int)<=d0
     ·have J:i1<n:=by omega
      obtain⟨x,H,z⟩:=f.cell i1 J;have V:=f.frozen i1;go_wp2_with fail;go_quiet (first|(go_at_call 252;refine Calls.quiet_of_same (eD _ _ _)));go_wp2_with fail
      ·go_roundw;case rel=>exact⟨i1+1,by go_num,by omega,by omega,f.drewN nq,cD l nq⟩
       case measure=>simp[intOf]<;>omega
      go_meet
      exact⟨i1,rfl,E,D,f.drewN nq,cD l nq⟩
     have hf:decide ((i1:Int)<=d0)=false:=aK F;go_wp2_with fail;go_quiet (first|(go_at_call 252;refine Calls.quiet_of_same (eD _ _ _)));go_wp2_with fail;go_meet;exact⟨i1,rfl,E,D,f.drewN nq,cD l nq⟩
   case rest=>
    obtain⟨i1,rfl,E,D,f,l⟩:=hcut;clear C S;go_at_K;go_step;go_step;go_cut [10] from 46 to 61 (fun W v=>∃d:Int,W=TY T6 d/\d<=d0/\UB v g n/\w.grownBy v (some g))
    case first=>
     go_step;go_loopw [10] (fun i q=>∃d:Int,i=TY T6 d/\d<=d0/\UB q g n/\w.grownBy q (some g))
      (fun i _=>(intOf i+1).toNat)
     case atStart=>exact⟨d0,rfl,by omega,f,l⟩
     case round=>
      obtain⟨s,rfl,A,c,o⟩:=hrel;clear f l;obtain⟨y,t,u⟩:=c.cell a (by omega);have O:=c.frozen a;have X:a<n:=by omega
      by_cases F:(i1:Int)<=s
      ·obtain⟨k,rfl⟩:∃k:Nat,s=(k:Nat):=⟨s.toNat,by omega⟩;have J:k<n:=by omega
       obtain⟨x,H,z⟩:=c.cell k J;have V:=c.frozen k;go_wp2_with fail;go_quiet (first|(go_at_call 252;refine Calls.quiet_of_same (eD _ _ _)));go_wp2_with fail
       ·go_roundw;case rel=>exact⟨(k:Int) - 1,by go_num,by omega,c.drewN nq,cD o nq⟩
        case measure=>simp[intOf]<;>omega
       go_meet
       exact⟨(k:Int),rfl,A,c.drewN nq,cD o nq⟩
      have hf:decide ((i1:Int)<=s)=false:=aK F;go_wp2_with fail;go_quiet (first|(go_at_call 252;refine Calls.quiet_of_same (eD _ _ _)));go_wp2_with fail;go_meet;exact⟨s,rfl,A,c.drewN nq,cD o nq⟩
    case rest=>
     obtain⟨s,rfl,A,c,o⟩:=hcut;clear f l;by_cases ag:(i1:Int)<=s
     ·obtain⟨k,rfl⟩:∃k:Nat,s=(k:Nat):=⟨s.toNat,by omega⟩;have J:k<n:=by omega
      have h7:i1<n:=by omega
      obtain⟨x,H,z⟩:=c.cell k J;have V:=c.frozen k;obtain⟨y,t,u⟩:=c.cell i1 h7;have O:=c.frozen i1;have hm:(d0+1 - (i0:Int)).toNat≥((k:Int)+1 - (i1:Int)).toNat:=by omega
      have N:i1<=k:=by omega
      go_wp2_with fail;rcases iY N with he|hl1
      ·subst he;go_region;go_wp2_with fail;go_roundw;case rel=>exact⟨i1+1,(i1:Int) - 1,by go_num,by go_num,by omega,by omega,by omega,((c.set_ i1 y t).set_ i1 y t).drew,eM (cQ (cQ o _ _) _ _)⟩
       case measure=>simp[intOf]<;>omega
      have R:¬i1=k:=by omega
      have G:¬k=i1:=by omega
      go_region
      go_wp2_with fail;go_roundw
      case rel=>exact⟨i1+1,(k:Int) - 1,by go_num,by go_num,by omega,by omega,by omega,((c.set_ i1 x H).set_ k y t).drew,eM (cQ (cQ o _ _) _ _)⟩
      case measure=>simp[intOf]<;>omega
     have Y:s<(i1:Int):=by omega
     go_wp2_with fail;go_ret
     exact⟨⟨i1,rfl,by omega,by omega⟩,c,o⟩
theorem Md(l:List I)(y:∀i∈l,i.Ok)(A:Option Addr)(n c:Nat)(w:Ub)(t:bh w w.heap.size 4 A n (gx l))(Z:n<=1000000):
  Calls prog 19 #[T0 A n c] w (kz (dF l) w):=by
 obtain⟨i0,z,q,r,s⟩:=cZ xp;have B:n=l.length:=by have:=t.1;rw[jq]at this;omega
 have m:=Lib.hid B;clear B;go_enter func19,ntmps19;go_wp2_with fail;go_loopw [3,8] (fun v i wr=>∃k:Nat,k<=n/\i=TY T6 k/\wr.ownsRow w.heap.size 5 1 v (8*k) (dN (dF (l.take k)))/\Below w.heap.size w wr) (fun _ i _=>n - (intOf i).toNat)
 case atStart=>exact⟨0,by omega,rfl,aX _ _ _ _,aw _ _⟩
 case round=>
  obtain⟨k,W,rfl,d,j⟩:=hrel;by_cases o:k<n
  ·obtain⟨b,M,rfl,V,E,G,D,O⟩:=(t.below j).Th o;have g:=oc y (k:=k) (by have:=m.out;omega);generalize C:l.getD k default=x at*;obtain⟨X,Y,U,xk⟩:=x;obtain⟨J,H,L,S⟩:=g;simp only at E G D O J H L S;have u:n=l.length:=m.out;have a:=DV l k (by omega);rw[C]at a;clear C u;have R:=Lib.hid a;clear a;go_wp2_with (at_builtin;refine fo rfl (.tmp 12) (.tmp 39) 37 rfl w.heap.size 5 i0 _ 1 1 underlying37 z q r s rfl (by omega) _ _ _ _ rfl (d.alloc _) _ 8 8 (by simp) _ rfl rfl (by simp[Value.oneCell']) (by simp only[maxLen];omega) (by omega) (by have:=j.size;simp;omega) ?_;intro v' T f p N);go_roundw;case rel=>
    refine⟨k+1,by omega,by go_num,?_,j.trans (((aw _ _).alloc j.size _).trans p)⟩;rw[R.out,j7,show 8*(k+1)=8*k+8 by omega];simpa[dN,l9]using f
   case measure=>simp[intOf];omega
  obtain rfl:k=n:=by omega
  have e:l.take k=l:=bI (by have:=m.out;omega);have F:=Lib.hid e;clear e t;go_wp2_with fail;go_ret;refine⟨_,rfl,?_,j⟩;rw[F.out]at d;rw[oz,<-m.out];exact d
end
end Go.Proofs.YtfammloeljmplaaGreatDoor
