/- Items and trees in plain Lean; small walks; conditions: each lemma's own. -/
import Derived.Test.YtfammloeljmplaaGreatDoorZ13
import Derived.Test.YtfammloeljmplaaGreatDoorZ5
open Go.Value renaming int->TY,pointer->TZ,slice->T0,bool->T2,tuple->T4
open Go.IntKind renaming i64->T6,u32->T7,u16->T9
open Go.Obj renaming cells->Ua
open Go renaming World->Ub,Value->Uc
namespace Go.Proofs.YtfammloeljmplaaGreatDoor
open Go.Proofs.Tryz
set_option maxRecDepth 100000
set_option maxHeartbeats 8000000
set_option linter.unusedVariables false
set_option linter.unusedSimpArgs false
section
open Go.RowKit
theorem qV{α:Type}(f:α->List Uc)(s:Nat)(a:∀x,(f x).length=s)(d:α)(l:List α)(k j:Nat)(v:Uc)(y:α)(b:k<l.length)(e:j<s)(c:f y=(f (l.getD k d)).set j v):
  (l.set k y).flatMap f=(l.flatMap f).set (k*s+j) v:=by
 induction l generalizing k with
 |nil=>simp at b
 |cons i l ih=>
  cases k with
  |zero=>
   rw[aH,cB,cB,c];rw[List.set_append,aj (by rw[a];omega)];simp
  |succ k=>
   rw[aI,cB,cB,ih k (by simpa using b) (by simpa using c)];rw[List.set_append,af (by rw[a,gE];omega),show(k+1)*s+j - (f i).length=k*s+j by rw[a,gE];omega]
structure St where
 it:It
 yes:Int
 no:Int
 far:Bool
 at_:Nat
 dead:Bool
 deriving Inhabited
def St.vals(s:St):List Uc:=[TY T6 s.it.mark,TY T9 s.it.code,TY T7 s.it.k,TY T6 s.it.tr,TY T6 s.it.fa,TY T6 s.it.kd,TY T6 s.yes,TY T6 s.no,T2 s.far,TY T6 s.at_,T2 s.dead]
theorem St.Sn(s:St):s.vals.length=11:=rfl
def fc(S:List St):List Uc:=S.flatMap St.vals
theorem Az(a b:List St):fc (a++b)=fc a++fc b:=by unfold fc;rw[bX]
theorem I0(S:List St)(k j:Nat)(a:k<S.length)(b:j<11):(fc S)[k*11+j]? =(St.vals (S.getD k default))[j]? :=jL _ 11 St.Sn default S k j a b
def lj(L:List It)(Y O:Nat->Int)(F:Nat->Bool)(P:Nat->Nat)(D:Nat->Bool):List St:=(List.range L.length).map fun n=>⟨L.getD n default,Y n,O n,F n,P n,D n⟩
section
variable (L:List It) (Y O:Nat->Int) (F:Nat->Bool) (P:Nat->Nat) (D:Nat->Bool)
theorem jl:(lj L Y O F P D).length=L.length:=by simp[lj]
theorem oU{n:Nat}(h:n<L.length):(lj L Y O F P D).getD n default=⟨L.getD n default,Y n,O n,F n,P n,D n⟩:=by simp[lj,h]
def upd{α:Type}(f:Nat->α)(n:Nat)(v:α):Nat->α:=fun m=>if m=n then v else f m
theorem qW{α:Type}(f:Nat->α)(n:Nat)(v:α):upd f n v n=v:=by simp[upd]
theorem oV{α:Type}(f:Nat->α)(n m:Nat)(v:α)(h:m≠n):upd f n v m=f m:=by simp[upd,h]
theorem uG{n:Nat}(h:n<L.length)(b c:Nat->Int)(a:Nat->Bool)(f:Nat->Nat)(d:Nat->Bool)(l:∀m,m≠n->b m=Y m)(k:∀m,m≠n->c m=O m)(j:∀m,m≠n->a m=F m)(i:∀m,m≠n->f m=P m)(g:∀m,m≠n->d m=D m):
  lj L b c a f d=(lj L Y O F P D).set n ⟨L.getD n default,b n,c n,a n,f n,d n⟩:=by
 apply oY (by simp[lj])
 intro m p o;rw[List.getElem_set];by_cases e:n=m
 ·subst e;simp[lj]
 rw[af e];simp[lj,l m (fun h=>e h.symm),k m (fun h=>e h.symm),j m (fun h=>e h.symm),i m (fun h=>e h.symm),g m (fun h=>e h.symm)]
variable {L Y O F P D} {n:Nat} (h:n<L.length)
include h
theorem RR(v:Int):fc (lj L (upd Y n v) O F P D)=(fc (lj L Y O F P D)).set (n*11+6) (TY T6 v):=by
 rw[uG L Y O F P D h (upd Y n v) O F P D (fun m e=>oV _ _ _ _ e) (fun _ _=>rfl) (fun _ _=>rfl) (fun _ _=>rfl) (fun _ _=>rfl),qW];exact qV _ 11 St.Sn default _ n 6 _ _ (by rw[jl];exact h) (by omega) (by rw[oU L Y O F P D h];rfl)
theorem RS(v:Int):fc (lj L Y (upd O n v) F P D)=(fc (lj L Y O F P D)).set (n*11+7) (TY T6 v):=by
 rw[uG L Y O F P D h Y (upd O n v) F P D (fun _ _=>rfl) (fun m e=>oV _ _ _ _ e) (fun _ _=>rfl) (fun _ _=>rfl) (fun _ _=>rfl),qW];exact qV _ 11 St.Sn default _ n 7 _ _ (by rw[jl];exact h) (by omega) (by rw[oU L Y O F P D h];rfl)
theorem RT(v:Bool):fc (lj L Y O (upd F n v) P D)=(fc (lj L Y O F P D)).set (n*11+8) (T2 v):=by
 rw[uG L Y O F P D h Y O (upd F n v) P D (fun _ _=>rfl) (fun _ _=>rfl) (fun m e=>oV _ _ _ _ e) (fun _ _=>rfl) (fun _ _=>rfl),qW];exact qV _ 11 St.Sn default _ n 8 _ _ (by rw[jl];exact h) (by omega) (by rw[oU L Y O F P D h];rfl)
theorem RU(v:Nat):fc (lj L Y O F (upd P n v) D)=(fc (lj L Y O F P D)).set (n*11+9) (TY T6 v):=by
 rw[uG L Y O F P D h Y O F (upd P n v) D (fun _ _=>rfl) (fun _ _=>rfl) (fun _ _=>rfl) (fun m e=>oV _ _ _ _ e) (fun _ _=>rfl),qW];exact qV _ 11 St.Sn default _ n 9 _ _ (by rw[jl];exact h) (by omega) (by rw[oU L Y O F P D h];rfl)
theorem RV(v:Bool):fc (lj L Y O F P (upd D n v))=(fc (lj L Y O F P D)).set (n*11+10) (T2 v):=by
 rw[uG L Y O F P D h Y O F P (upd D n v) (fun _ _=>rfl) (fun _ _=>rfl) (fun _ _=>rfl) (fun _ _=>rfl) (fun m e=>oV _ _ _ _ e),qW];exact qV _ 11 St.Sn default _ n 10 _ _ (by rw[jl];exact h) (by omega) (by rw[oU L Y O F P D h];rfl)
theorem fk{W:Ub}{g cap:Nat}{t:TypeId}(b:dx W g t cap (fc (lj L Y O F P D)))(j:Nat)(a:j<11)(v:Uc)(hv:(St.vals ⟨L.getD n default,Y n,O n,F n,P n,D n⟩)[j]? =some v):W.cell? ⟨g,n*11+j,none⟩=some v:=
 b.cell ((I0 _ n j (by rw[jl];exact h) a).trans (by rw[oU L Y O F P D h];exact hv))
theorem rU{W:Ub}{g cap:Nat}{t:TypeId}(a:dx W g t cap (fc (lj L Y O F P D))):W.rangeAt g (n*11) (St.vals ⟨L.getD n default,Y n,O n,F n,P n,D n⟩):=fun j v hv=>
 fk h a j (by have:=(cF.1 hv).1;rw[St.Sn]at this;exact this) v hv
end
theorem jW{L:List It}{Y O i g:Nat->Int}{F f:Nat->Bool}{P k:Nat->Nat}{D j:Nat->Bool}(h:∀n,n<L.length->Y n=i n/\O n=g n/\F n=f n/\P n=k n/\D n=j n):lj L Y O F P D=lj L i g f k j:=by
 unfold lj;apply fN;intro n l;obtain⟨a,b,c,d,e⟩:=h n (bE.1 l);rw[a,b,c,d,e]
def NH(l:List Rw)(a k:Nat):Int:=if 0<=(l.getD k default).nums.getD a (-1)then(l.getD k default).nums.getD a (-1)else -1 - (k:Int)
def He(o:Option Nat):Int:=match o with|some k=>(k:Int)|none=> -1
theorem CL(l:List Rw)(m:∀r∈l,r.nums.length=5)(A:Option Addr)(c B:Nat)(a k:Nat)(q:a<5)(g:k<l.length)(t:l.length<=1000000)(w:Ub)(f:jv w B A l):
  TW 119 #[T0 A l.length c,TY T6 a,TY T6 k] w (TY T6 (NH l a k)):=by
 obtain⟨b,n,rfl,s,_,d,_,_⟩:=f.at_ m g;have o:=d a q;rw[<-eF]at o;unfold NH;generalize (l.getD k default).nums.getD a (-1)=x at*;clear d f;by_cases p:0<=x
 ·have j:(k:Int)<(l.length:Int):=by omega
  have i:(a:Int)<5:=by omega
  go_enter func119,ntmps119;go_wp2_with fail;go_ret;exact⟨qI (by first|rfl|rw[aj p]),rfl⟩
 have j:(k:Int)<(l.length:Int):=by omega
 have i:(a:Int)<5:=by omega
 go_enter func119,ntmps119;go_wp2_with fail;go_ret;exact⟨qI (by first|rfl|rw[af (by omega)]),rfl⟩
theorem JP{l:List Rw}{a k:Nat}{m:Int}(b:0<=m):NH l a k=m↔(l.getD k default).nums.getD a (-1)=m:=by
 unfold NH;split
 ·exact Iff.rfl
 constructor<;>intro h<;>omega
theorem pV{α:Type}[Inhabited α]{l:List α}{f:α->Bool}(h:∀k,k<l.length->f (l.getD k default)=false):l.findIdx? f=none:=by
 rw[lR];intro x b;obtain⟨i,a,e⟩:=fj b;have:=h i a;rw[aa,ah a]at this;rw[<-e];exact this
theorem pW{α:Type}[Inhabited α]{l:List α}{f:α->Bool}{k:Nat}(b:k<l.length)(c:f (l.getD k default)=true)(h:∀j,j<k->f (l.getD j default)=false):l.findIdx? f=some k:=by
 rw[jm];have e:∀j (a:j<l.length),l.getD j default=l[j]:=fun j a=>by rw[aa,ah a];rfl
 refine⟨b,by rw[<-e k b];exact c,fun j a=>?_⟩;rw[<-e j (by omega),h j a];simp
theorem NI(l:List Rw)(E:∀r∈l,r.nums.length=5)(A:Option Addr)(c B:Nat)(a:Nat)(m:Int)(H:a<5)(y:0<=m)(F:l.length<=1000000)(w:Ub)(G:jv w B A l):
  TW 66 #[T0 A l.length c,TY T6 a,TY T6 m] w (TY T6 (He (x6 l a m))):=by
 have C:=fun k u=>CL l E A c B a k H u F w G
 generalize x:l.length=n at*;have v:=Lib.hid x;clear x;have s:=Lib.hid C;clear C;go_enter func66,ntmps66;go_wp2_with fail;go_loop [7] (fun i=>∃k:Nat,k<=n/\i=TY T6 k/\∀j,j<k->¬(l.getD j default).nums.getD a (-1)=m) (fun i=>n - (intOf i).toNat)
 case atStart=>exact⟨0,by omega,rfl,fun j g=>absurd g (by omega)⟩
 case round=>
  obtain⟨k,u,rfl,o⟩:=hrel;have d:=Lib.hid o;clear o;by_cases q:k<n
  ·have p:=s.out k q;by_cases z:NH l a k=m
   ·have b:=(JP y).1 z;have f:=Lib.hid b;clear b;go_wp2_with (go_at_call 119;refine p.mono ?_;rintro e D ⟨rfl,rfl⟩);go_ret;have t:x6 l a m=some k:=pW (by rw[v.out];omega) (bM f.out) fun j g=>aK (d.out j g)
    exact⟨qI (by rw[t];rfl),rfl⟩
   have b:¬(l.getD k default).nums.getD a (-1)=m:=fun h=>z ((JP y).2 h)
   have f:=Lib.hid b;clear b;go_wp2_with (go_at_call 119;refine p.mono ?_;rintro e D ⟨rfl,rfl⟩);go_round;case rel=>exact⟨k+1,by omega,by go_num,fun j g=>if e:j=k then by rw[e];exact f.out else d.out j (by omega)⟩
   case measure=>simp[intOf];omega
  obtain rfl:n=k:=by omega
  go_wp2_with fail;go_ret
  have t:x6 l a m=none:=pV fun j g=>aK (d.out j (by rw[<-v.out];exact g))
  exact⟨qI (by rw[t];rfl),rfl⟩
theorem Bx(l:List Rw)(D:∀r∈l,r.nums.length=5)(A:Option Addr)(c B:Nat)(m s:Int)(L:m=1\/m=2)(T:l.length<=1000000)(w:Ub)(J:jv w B A l):
  TW 65 #[T0 A l.length c,TY T6 m,TY T6 s] w (TY T6 (He (qs l m s))):=by
 generalize E:l.length=n at*;obtain⟨x,G⟩:=aA E D;clear E D;have U:1<=m:=by omega
 have N:m<=2:=by omega
 clear L;go_enter func65,ntmps65;go_wp2_with fail;go_loop [7] (fun i=>∃k:Nat,k<=n/\i=TY T6 k/\∀j,j<k->¬((l.getD j default).mux=m/\(l.getD j default).sub=s)) (fun i=>n - (intOf i).toNat)
 case atStart=>exact⟨0,by omega,rfl,fun j d=>absurd d (by omega)⟩
 case round=>
  obtain⟨k,R,rfl,g⟩:=hrel;have a:=Lib.hid g;clear g;by_cases t:k<n
  ·obtain⟨b,H,rfl,O,_,_,V,S⟩:=J.at_ G.out (k:=k) (by rw[x.out];exact t);have z:((l.getD k default).mux=m/\(l.getD k default).sub=s)\/¬((l.getD k default).mux=m/\(l.getD k default).sub=s):=Classical.em _;generalize F:(l.getD k default).mux=f at*;generalize C:(l.getD k default).sub=o at*;obtain⟨q,u⟩:=aA F C;clear F C;by_cases e1:f=m
   ·subst e1;by_cases e2:o=s
    ·subst e2;clear z;go_wp2_with fail;go_ret;have y:qs l f o=some k:=pW (by rw[x.out];omega) (bM ⟨q.out,u.out⟩) fun j d=>aK (a.out j d)
     exact⟨qI (by rw[y];rfl),rfl⟩
    have p:¬(f=f/\o=s):=fun h=>e2 h.2
    have v:=Lib.hid p;clear p;clear z;have M:(o==s)=false:=by simpa using e2
    go_wp2_with fail;go_round
    case rel=>exact⟨k+1,by omega,by go_num,fun j d=>if e:j=k then by rw[e,q.out,u.out];exact v.out else a.out j (by omega)⟩
    case measure=>simp[intOf];omega
   have p:¬(f=m/\o=s):=fun h=>e1 h.1
   have v:=Lib.hid p;clear p;clear z;have M:(f==m)=false:=by simpa using e1
   go_wp2_with fail;go_round
   case rel=>exact⟨k+1,by omega,by go_num,fun j d=>if e:j=k then by rw[e,q.out,u.out];exact v.out else a.out j (by omega)⟩
   case measure=>simp[intOf];omega
  obtain rfl:n=k:=by omega
  go_wp2_with fail;go_ret
  have y:qs l m s=none:=pV fun j d=>aK (a.out j (by rw[<-x.out];exact d))
  exact⟨qI (by rw[y];rfl),rfl⟩
def uh(l:List Rw)(r:Rc):Int×Int×Bool:=match ma r.arch r.number with
 |none=>(-1,-1,false)
 |some a=>((a:Int),He (lB l r a).1,(lB l r a).2)
namespace StQ
variable {P:Program} {ops:Array Oper} {DK:List Tmp} {Q:Exit->Act->Ub->Prop}
structure Frame(R:Ub->Ub->Prop):Prop where
 refl:∀w,R w w
 trans:∀{a b c},R a b->R b c->R a c
def upd(f:Nat->Bool)(i:Nat):Nat->Bool:=fun j=>if j=i then true else f j
theorem upd_self(f:Nat->Bool)(i:Nat):upd f i i=true:=by simp[upd]
theorem upd_ne(f:Nat->Bool){i j:Nat}(h:j≠i):upd f i j=f j:=by simp[upd,h]
def Step(P:Program)(ops:Array Oper)(DK:List Tmp)(Q:Exit->Act->Ub->Prop)(R:Ub->Ub->Prop)(S:Tmp->Uc->Ub->Prop)(J:(Nat->Bool)->Act->Ub->Prop)(a0:Act)(w0:Ub)(i:Nat)(o:Oper):Prop:=
 ∀(f:Nat->Bool) (a:Act) (w:Ub),f i=false->(∀e∈o.after,Region.binds .any e=true->f e.on=true)->R w0 w->a.tmps.size=a0.tmps.size->
  (∀t,t∉DK->a.tmps.getD t undef=a0.tmps.getD t undef)->
  (∀d∈Any.deps ops o,S d (a.tmps.getD d undef) w)->J f a w->
  if Region.wanted o (yielded ops a.tmps)then o.wp P a w (fun b w'=>∃v,b=a.put o.dst v/\(∀d,o.dst=some d->S d v w')/\R w w'/\J (upd f i) (a.put o.dst v) w') Q
  else(∀d,o.dst=some d->S d undef w)/\J (upd f i) (a.put o.dst undef) w
def Steps(P:Program)(ops:Array Oper)(DK:List Tmp)(Q:Exit->Act->Ub->Prop)(R:Ub->Ub->Prop)(S:Tmp->Uc->Ub->Prop)(J:(Nat->Bool)->Act->Ub->Prop)(a0:Act)(w0:Ub):Nat->Nat->List Oper->Prop
 | _, 0, _ => True
 | _, _, [] => True
 |i,n+1,o::l=>Step P ops DK Q R S J a0 w0 i o/\Steps P ops DK Q R S J a0 w0 (i+1) n l
theorem steps_of{R:Ub->Ub->Prop}{S:Tmp->Uc->Ub->Prop}{J:(Nat->Bool)->Act->Ub->Prop}{a0:Act}{w0:Ub}:∀{i n:Nat} {l:List Oper},Steps P ops DK Q R S J a0 w0 i n l->∀j o,j<n->l[j]? =some o->Step P ops DK Q R S J a0 w0 (i+j) o
 | _, 0, _, _, j, _, c, _ => absurd c (by omega)
 | _, n + 1, [], _, j, o, _, a => by simp at a
 |i,n+1,x::l,h,j,o,c,a=>by
  have b:Step P ops DK Q R S J a0 w0 i x/\Steps P ops DK Q R S J a0 w0 (i+1) n l:=h;cases j with
  |zero=>
   simp at a;subst a;exact b.1
  |succ j=>
   have:=steps_of b.2 j o (by omega) (by simpa using a);rwa [eF,Nat.add_comm 1 j]at this
structure Holds(ops:Array Oper)(DK:List Tmp)(R:Ub->Ub->Prop)(S:Tmp->Uc->Ub->Prop)(a0:Act)(w0:Ub)(listed:Array Bool)(a:Act)(w:Ub):Prop where
 frame:R w0 w
 defers:a.defers=a0.defers
 size:a.tmps.size=a0.tmps.size
 old:∀t,t∉DK->a.tmps[t]? =a0.tmps[t]?
 new:∀(j:Nat) (oj:Oper) (d:Tmp),ops[j]? =some oj->listed.getD j false=true->oj.dst=some d->S d (a.tmps.getD d undef) w
theorem Holds.put{R:Ub->Ub->Prop}{S:Tmp->Uc->Ub->Prop}{a0:Act}{w0:Ub}{listed:Array Bool}{a:Act}{w w':Ub}(x:Frame R)
  (f:∀d v w w',R w0 w->R w w'->S d v w->S d v w')(p:∀d∈Any.dsts ops,d<a0.tmps.size)
  (h:Holds ops DK R S a0 w0 listed a w){i:Nat}{o:Oper}(q:ops[i]? =some o)(r:∀d,o.dst=some d->d∈DK){v:Uc}(l:R w w')
  (hv:∀d,o.dst=some d->S d v w'):Holds ops DK R S a0 w0 (listed.setIfInBounds i true) (a.put o.dst v) w':=by
 have c:∀j,(listed.setIfInBounds i true).getD j false=true->j=i\/listed.getD j false=true:=by
  intro j g;by_cases e:j=i
  ·exact .inl e
  right
  simp only[au]at g⊢;rwa [aW (fun h=>e h.symm)]at g
 cases k:o.dst with
 |none=>
  refine⟨x.trans h.frame l,h.defers,h.size,h.old,fun j oj d g hl b=>?_⟩;rcases c j hl with rfl|hl
  ·rw[q]at g;cases g;rw[k]at b;cases b
  exact f _ _ _ _ h.frame l (h.new j oj d g hl b)
 |some d0=>
  have s:d0<a.tmps.size:=by rw[h.size];exact p _ (Any.mem_dsts q k)
  refine⟨x.trans h.frame l,h.defers,by simp[Act.put,h.size],fun t u=>?_,fun j oj d g hl b=>?_⟩
  ·have m:d0≠t:=fun e=>u (e▸r _ k)
   simp only[Act.put];rw[aW m];exact h.old t u
  by_cases e:d=d0
  ·subst e;have:(a.put (some d) v).tmps.getD d undef=v:=by simp[Act.put,au,s]
   rw[this];exact hv d k
  have n:(a.put (some d0) v).tmps.getD d undef=a.tmps.getD d undef:=by
   simp only[Act.put,au];rw[aW (fun h=>e h.symm)]
  rw[n];rcases c j hl with rfl|hl
  ·rw[q]at g;cases g;rw[k]at b;cases b;exact absurd rfl e
  exact f _ _ _ _ h.frame l (h.new j oj d g hl b)
theorem Holds.shape{R:Ub->Ub->Prop}{S:Tmp->Uc->Ub->Prop}{a0:Act}{w0:Ub}{listed:Array Bool}{a:Act}{w:Ub}(b:∀t,t∈DK->t∈Any.dsts ops)(h:Holds ops DK R S a0 w0 listed a w):
  a={tmps:=Any.fill (fun d=>a.tmps.getD d undef) (Any.dsts ops) a0.tmps,defers:=a0.defers}:=by
 have c:Any.Holds ops (fun _ _ _=>True) a0 w listed a w:=⟨aS.refl w,h.defers,h.size,fun t f=>h.old t fun e=>f (b t e),fun _ _ _ _ _ _=>trivial⟩;exact c.shape
theorem wp_region_st{id:Nat}{l:List Oper}{a0:Act}{w:Ub}(k:Nat)(hm:P.follows .mixedOrders=true)(R:Ub->Ub->Prop)(Z:Frame R)(S:Tmp->Uc->Ub->Prop)(m:∀d v w1 w2,R w.drew w1->R w1 w2->S d v w1->S d v w2)(J:(Nat->Bool)->Act->Ub->Prop)(ai:J (fun _=>false) a0 w.drew)
  (D DK:List Tmp)(hD:Any.dsts l.toArray=D)(O:Any.dsts (l.take k).toArray=DK)
  (ad:D.all (fun d=>decide (d<a0.tmps.size))=true)(A:Any.backB l.toArray=true)(H:Any.coverB l.toArray k=true)(hk:k<=l.length)
  (steps:Steps P l.toArray DK Q R S J a0 w.drew 0 k l)
  (done:∀(f:Tmp->Uc) (g:Nat->Bool) (w':Ub),R w.drew w'->(∀(j:Nat) (oj:Oper) (d:Tmp),j<k->l[j]? =some oj->oj.dst=some d->S d (f d) w')->(∀j,j<k->g j=true)->(∃a:Act,(∀d,a.tmps.getD d undef=f d)/\J g a w')->wpList P l.toArray Q (l.drop k) {tmps:=Any.fill f D a0.tmps,defers:=a0.defers} w'):
  (Code.region id l.toArray true).wp P Q a0 w:=by
 refine Jd hm ?_;have x:∀d∈Any.dsts l.toArray,d<a0.tmps.size:=fun d s=>by
  rw[hD]at s;simpa using cL.1 ad d s
 have W:∀(i:Nat) (o:Oper) (d:Tmp),i<k->l[i]? =some o->o.dst=some d->d∈DK:=fun i o d hi N s=>by
  rw[<-O];exact Any.mem_dsts (j:=i) (oj:=o) (by rw[ao,eS,aj hi];exact N) s
 have U:∀t,t∈DK->t∈Any.dsts l.toArray:=fun t L=>by
  rw[<-O]at L;unfold Any.dsts at L⊢;obtain⟨o,N,s⟩:=eE.1 L;exact eE.2 ⟨o,by simpa using gj (by simpa using N),s⟩
 let I:Array Bool->Act->Ub->Prop:=fun listed a G=>listed.size=l.length/\Holds l.toArray DK R S a0 w.drew listed a G/\J (fun j=>listed.getD j false) a G
 refine Any.wpAny_inv (k:=k) I H (Any.back_of A) (by simpa using hk) (fun i o listed a G E r hc F h3 hI=>?_) (fun listed a G hI u=>?_) _ _ _ _ ⟨by simp,fun j oj y T=>?_⟩ ?_ (fun j h1 h2=>by simp only[au,cw,aj h2];rfl) ?_
 ·obtain⟨n,q,hJ⟩:=hI;have X:i<l.length:=by simpa using(aL.1 r).1
  have M:listed.getD i false=false:=by
   simp only[au]at F⊢;rw[bF (by rw[n];exact X)]at F⊢;simpa using F
  have B:l[i]? =some o:=by simpa using r
  have c:=steps_of steps i o E B;rw[cV]at c;have c:=c (fun j=>listed.getD j false) a G M h3 q.frame q.size (fun t L=>by simp only[au];rw[q.old t L]) (fun d s=>by
   unfold Any.deps at s;obtain⟨e,he,b⟩:=eE.1 s;unfold Any.depOf at b;by_cases hb:Region.binds .any e=true
   ·rw[aj hb]at b;cases z:l.toArray[e.on]? with
    |none=>rw[z]at b;cases b
    |some oj=>
     rw[z]at b;exact q.new e.on oj d z (h3 e (by simpa using he) hb) b
   rw[af hb]at b;cases b) hJ
  have V:(fun j=>(listed.setIfInBounds i true).getD j false)=upd (fun j=>listed.getD j false) i:=by
   funext j
   by_cases e:j=i
   ·subst e;rw[upd_self];simp only[au];rw[lk (by rw[n];exact X)];rfl
   rw[upd_ne _ e];simp only[au];rw[aW (fun h=>e h.symm)]
  by_cases hw:Region.wanted o (yielded l.toArray a.tmps)=true
  ·rw[aj hw]at c⊢;refine jE (fun a' w' hq=>?_) c;obtain⟨v,rfl,hv,hg,y⟩:=hq;exact⟨by simp[n],q.put Z m x r (fun d=>W i o d E B) hg hv,by rw[V];exact y⟩
  rw[af hw]at c⊢;exact⟨by simp[n],q.put Z m x r (fun d=>W i o d E B) (Z.refl _) c.1,by rw[V];exact c.2⟩
 ·obtain⟨n,q,hJ⟩:=hI;have Y:=q.shape U;rw[hD]at Y;have ak:=done (fun d=>a.tmps.getD d undef) _ G q.frame (fun j oj d y N an=>q.new j oj d (by simpa using N) (u j y) an) u ⟨a,fun _=>rfl,hJ⟩;rw[Y];simpa using ak
 ·have C:j<l.toArray.size:=(aL.1 y).1;simp only[au,cw,aj C]at T;cases T
 ·refine⟨by simp,⟨Z.refl _,rfl,rfl,fun _ _=>rfl,fun j oj d y T=>?_⟩,?_⟩
  ·have C:j<l.toArray.size:=(aL.1 y).1;simp only[au,cw,aj C]at T;cases T
  have:(fun j=>(Array.replicate l.toArray.size false).getD j false)=fun _=>false:=by
   funext j
   simp only[au,cw];split<;>rfl
  rw[this];exact ai
 have:=kO (p:=fun i=> !(Array.replicate l.toArray.size false).getD i true) (l:=List.range l.toArray.size);simpa using this
variable {R:Ub->Ub->Prop} {S:Tmp->Uc->Ub->Prop} {J:(Nat->Bool)->Act->Ub->Prop} {a0:Act} {w0:Ub}
structure Ctx(ops:Array Oper)(DK:List Tmp)(R:Ub->Ub->Prop)(S:Tmp->Uc->Ub->Prop)(J:(Nat->Bool)->Act->Ub->Prop)(a0:Act)(w0:Ub)(i:Nat)(o:Oper)(f:Nat->Bool)(a:Act)(w:Ub):Prop where
 notYet:f i=false
 done:∀e∈o.after,Region.binds .any e=true->f e.on=true
 frame:R w0 w
 size:a.tmps.size=a0.tmps.size
 old:∀t,t∉DK->a.tmps.getD t undef=a0.tmps.getD t undef
 new:∀d∈Any.deps ops o,S d (a.tmps.getD d undef) w
 state:J f a w
theorem Ctx.was{i:Nat}{o:Oper}{f:Nat->Bool}{a:Act}{w:Ub}(h:Ctx ops DK R S J a0 w0 i o f a w)(t:Tmp)(b:DK.contains t=false){v:Uc}(hv:a0.tmps.getD t undef=v):a.eval (.tmp t)=v:=by
 have:=h.old t (by simpa using b);rw[<-hv,<-this];rfl
theorem Ctx.at_{i:Nat}{o:Oper}{f:Nat->Bool}{a:Act}{w:Ub}(h:Ctx ops DK R S J a0 w0 i o f a w)(d:Tmp)(b:(Any.deps ops o).contains d=true):S d (a.eval (.tmp d)) w:=h.new d (by simpa using b)
theorem Ctx.isDone{i:Nat}{o:Oper}{f:Nat->Bool}{a:Act}{w:Ub}(h:Ctx ops DK R S J a0 w0 i o f a w)(j:Nat)(c:(o.after.any fun e=>Region.binds .any e&&decide (e.on=j))=true):f j=true:=by
 rw[Array.any_eq_true]at c;obtain⟨k,d,b⟩:=c;simp only[bG,aV]at b;have:=h.done o.after[k] (Array.getElem_mem d) b.1;rw[b.2]at this;exact this
theorem st_do{i:Nat}{o:Oper}(n:o.guard=none)(h:∀(f:Nat->Bool) (a:Act) (w:Ub),Ctx ops DK R S J a0 w0 i o f a w->o.wp P a w (fun e w'=>∃v,e=a.put o.dst v/\(∀d,o.dst=some d->S d v w')/\R w w'/\J (upd f i) (a.put o.dst v) w') Q):Step P ops DK Q R S J a0 w0 i o:=fun f a w j c m g l b k=>by
 rw[aj (by simp[Region.wanted,n])];exact h f a w ⟨j,c,m,g,l,b,k⟩
theorem st_val(j:Frame R){i:Nat}{o:Oper}(d:Tmp)(m:o.guard=none)(c:o.dst=some d)(l:∀f a v w,J f a w->J (upd f i) (a.put (some d) v) w)(h:∀(f:Nat->Bool) (a:Act) (w:Ub),Ctx ops DK R S J a0 w0 i o f a w->∃v,(execOp a.eval o).run P w=.ok (.value v) w/\S d v w):Step P ops DK Q R S J a0 w0 i o:=
 st_do m fun f a w e=>by
  obtain⟨v,k,g⟩:=h f a w e;unfold Oper.wp;rw[k];exact⟨v,by rw[c],fun n b=>by rw[c]at b;injection b with b;subst b;exact g,j.refl _,by rw[c];exact l _ _ _ _ e.state⟩
def eqS(l:List (Tmp×Uc)):Tmp->Uc->Ub->Prop:=fun d v _=>∀u,l.lookup d=some u->v=u
theorem frame_of{R:Ub->Ub->Prop}(e:∀w,R w w)(d:∀{a b c},R a b->R b c->R a c):Frame R:=⟨e,d⟩
theorem put_far{a:Act}{d x:Tmp}{v:Uc}(h:d≠x):(a.put (some d) v).tmps.getD x undef=a.tmps.getD x undef:=Any.put_other h
theorem st_eq{l:List (Tmp×Uc)}(g:Frame R){i:Nat}{o:Oper}(d:Tmp)(v:Uc)(e:l.lookup d=some v)(k:o.guard=none)(c:o.dst=some d)(j:∀f a v w,J f a w->J (upd f i) (a.put (some d) v) w)(h:∀(f:Nat->Bool) (a:Act) (w:Ub),Ctx ops DK R (eqS l) J a0 w0 i o f a w->(execOp a.eval o).run P w=.ok (.value v) w):Step P ops DK Q R (eqS l) J a0 w0 i o:=
 st_val g d k c j fun f a w m=>⟨v,h f a w m,fun u b=>by rw[e]at b;injection b⟩
theorem Ctx.Tq{l:List (Tmp×Uc)}{i:Nat}{o:Oper}{f:Nat->Bool}{a:Act}{w:Ub}(h:Ctx ops DK R (eqS l) J a0 w0 i o f a w)(d:Tmp)(b:(Any.deps ops o).contains d=true){v:Uc}(c:l.lookup d=some v):a.eval (.tmp d)=v:=h.at_ d b v c
theorem st_callv{i:Nat}{o:Oper}(d:Tmp)(vs:Array Uc){g:FuncId}{xs:Array Operand}{u:Array TypeId}(n:o.guard=none)(r:o.op=.call {callee:=.value (.func g),args:=xs,argTypes:=u})(k:o.dst=some d){c:Func}(q:P.funcs[g]? =some c)
  (t:(c.name== "runtime.NumGoroutine")=false)(m:c.body.isNone=false)(j:∀(f:Nat->Bool) (a:Act) (w:Ub),Ctx ops DK R S J a0 w0 i o f a w->xs.map a.eval=vs)
  (x:∀(f:Nat->Bool) (a:Act) (w:Ub),Ctx ops DK R S J a0 w0 i o f a w->Calls P g vs w fun e w'=>∃v,e=.returned v/\S d v w'/\R w w'/\J (upd f i) (a.put (some d) v) w'):Step P ops DK Q R S J a0 w0 i o:=
 st_do n fun f a w h=>by
  unfold Oper.wp;rw[Any.exec_call r q t m,j f a w h];refine(x f a w h).mono ?_;rintro e w' ⟨v,rfl,p,l,s⟩;exact⟨v,rfl,fun y b=>by rw[k]at b;cases b;exact p,l,by rw[k];exact s⟩
theorem put_same{a:Act}{d:Tmp}{v:Uc}(h:d<a.tmps.size):(a.put (some d) v).tmps.getD d undef=v:=by
 simp[Act.put,au,h]
structure KdR(R:Ub->Ub->Prop) where
 sat:Uc->Ub->Prop
 mono:∀v w w',R w w'->sat v w->sat v w'
def KdR.eq(u:Uc):KdR R:=⟨fun v _=>v=u,fun _ _ _ _ h=>h⟩
def kdS(l:List (Tmp×KdR R)):Tmp->Uc->Ub->Prop:=fun d v w=>∀q,l.lookup d=some q->q.sat v w
theorem kdS_mono{l:List (Tmp×KdR R)}{d:Tmp}{v:Uc}{a b:Ub}(h:R a b)(k:kdS l d v a):kdS l d v b:=fun q c=>q.mono _ _ _ h (k q c)
theorem Ctx.Sr{l:List (Tmp×KdR R)}{i:Nat}{o:Oper}{f:Nat->Bool}{a:Act}{w:Ub}(h:Ctx ops DK R (kdS l) J a0 w0 i o f a w)(d:Tmp)(b:(Any.deps ops o).contains d=true){v:Uc}(c:l.lookup d=some (.eq v)):a.eval (.tmp d)=v:=h.at_ d b _ c
theorem Ctx.kd{l:List (Tmp×KdR R)}{i:Nat}{o:Oper}{f:Nat->Bool}{a:Act}{w:Ub}(h:Ctx ops DK R (kdS l) J a0 w0 i o f a w)(d:Tmp)(b:(Any.deps ops o).contains d=true){q:KdR R}(c:l.lookup d=some q):q.sat (a.eval (.tmp d)) w:=h.at_ d b _ c
theorem st_eqk{l:List (Tmp×KdR R)}(g:Frame R){i:Nat}{o:Oper}(d:Tmp)(v:Uc)(e:l.lookup d=some (.eq v))(k:o.guard=none)(c:o.dst=some d)(j:∀f a v w,J f a w->J (upd f i) (a.put (some d) v) w)(h:∀(f:Nat->Bool) (a:Act) (w:Ub),Ctx ops DK R (kdS l) J a0 w0 i o f a w->(execOp a.eval o).run P w=.ok (.value v) w):Step P ops DK Q R (kdS l) J a0 w0 i o:=
 st_val g d k c j fun f a w m=>⟨v,h f a w m,fun q b=>by rw[e]at b;injection b with b;subst b;rfl⟩
theorem st_kd{l:List (Tmp×KdR R)}{i:Nat}{o:Oper}(d:Tmp){q:KdR R}(p:l.lookup d=some q)(k:o.guard=none)(e:o.dst=some d)(h:∀(f:Nat->Bool) (a:Act) (w:Ub),Ctx ops DK R (kdS l) J a0 w0 i o f a w->o.wp P a w (fun g w'=>∃v,g=a.put (some d) v/\q.sat v w'/\R w w'/\J (upd f i) (a.put (some d) v) w') Q):Step P ops DK Q R (kdS l) J a0 w0 i o:=
 st_do k fun f a w s=>jE (fun g w' ⟨v,n,j,r,m⟩=>⟨v,by rw[e];exact n,fun t c u b=>by rw[e]at c;injection c with c;subst c;rw[p]at b;injection b with b;subst b;exact j,r,by rw[e];exact m⟩) (h f a w s)
theorem st_lit{l:List (Tmp×KdR R)}{i:Nat}{o:Oper}(d t:Tmp)(ty e:TypeId)(u:Uc){q:KdR R}(r:l.lookup d=some q)(m:o.guard=none)(p:o.op=.buildSlice ty 1 #[(0,.tmp t)])(c:o.dst=some d)(j:(Any.deps ops o).contains t=true)(s:l.lookup t=some (.eq u))
  (k:∀W,(Instr.buildSlice ty 1 #[(0,u)]).run P W=.ok (T0 (some ⟨W.heap.size,0,none⟩) 1 1) (W.alloc (Ua u.cells e)))
  (h:∀(f:Nat->Bool) (a:Act) (w:Ub),R w0 w->J f a w->q.sat (T0 (some ⟨w.heap.size,0,none⟩) 1 1) (w.alloc (Ua u.cells e))/\R w (w.alloc (Ua u.cells e))/\J (upd f i) (a.put (some d) (T0 (some ⟨w.heap.size,0,none⟩) 1 1)) (w.alloc (Ua u.cells e))):Step P ops DK Q R (kdS l) J a0 w0 i o:=
 st_kd d r m c fun f a w b=>by
  have e1:=b.Sr t j s;unfold Oper.wp execOp;simp only[p,aQ,aJ,a8,e1,aY,k w,bd];obtain⟨n,g,v⟩:=h f a w b.frame b.state;exact⟨_,by rw[c],n,g,v⟩
theorem st_app{l:List (Tmp×KdR R)}{i:Nat}{o:Oper}(d s x:Tmp)(t:TypeId){q:KdR R}(W:l.lookup d=some q)(H:o.guard=none)(V:o.op=.call {callee:=.builtin .append,args:=#[.tmp s,.tmp x],argTypes:=#[t,t]})(D:o.dst=some d)
  (base:Nat)(e:TypeId)(j:TypeInfo)(z:Uc)(size bytes:Nat)(G:P.underlying t=some (.slice e))(hi:P.info? e=some j)(U:j.zero=some z)(g:j.size=size)(y:j.bytes=bytes)(C:z.cells.size=size)(r:0<size)
  (v:Uc)(n:Nat)(xs news:List Uc)(m:Nat)(T:∀u∈news,u.oneCell'=true)(p:n+m<=maxLen)(b:(n+m)*bytes<=140737488355328)
  (Z:(Any.deps ops o).contains s=true)(k:l.lookup s=some (.eq v))(hx:(Any.deps ops o).contains x=true)
  (hc:∀(f:Nat->Bool) (a:Act) (w:Ub),Ctx ops DK R (kdS l) J a0 w0 i o f a w->w.ownsRow base e size v n xs/\base<=w.heap.size/\(∃A c,a.eval (.tmp x)=T0 A m c/\bh w w.heap.size size A m news)/\
    ∀v' w',w'.ownsRow base e size v' (n+m) (xs++news)->w.grownBy w' v.ownBlock->(v'.ownBlock=v.ownBlock\/v'.ownBlock=some w.heap.size)->q.sat v' w'/\R w w'/\J (upd f i) (a.put (some d) v') w'):Step P ops DK Q R (kdS l) J a0 w0 i o:=
 st_kd d W H D fun f a w h=>by
  obtain⟨B,L,⟨A,c,F,Y⟩,M⟩:=hc f a w h;refine fO w (.tmp s) (.tmp x) t V base e j z size bytes G hi U g y C r v n xs (h.Sr s Z k) B w.heap.size A m c news F Y T p b L ?_;intro v' w' X N g3;obtain⟨E,k2,O⟩:=M v' w' X N g3;exact⟨v',by rw[D],E,k2,O⟩
end StQ
end
section
structure Nd where
 leaf:Bool
 num:Nat
 place:Int
 lo:Nat
 hi:Nat
 deriving Inhabited
def mw(x a:Nat):Nd:=⟨true,x,a,0,0⟩
def dD:Nat->List Nat->Nat->List Nd->List Nd
 |0,_,_,a=>a
 | _ + 1, [], _, a => a
 | _ + 1, [x], b, a => a ++ [mw x b]
 |f+1,l,b,a=>
  dD f (l.drop (l.length / 2)) (b+l.length / 2) (dD f (l.take (l.length / 2)) b a)++
   [⟨false,l.getD (l.length / 2) 0,0,(dD f (l.take (l.length / 2)) b a).length - 1,(dD f (l.drop (l.length / 2)) (b+l.length / 2) (dD f (l.take (l.length / 2)) b a)).length - 1⟩]
def lH(t:List Nd):Nat->List Nat->Nat->Nat->Prop
 |0,_,_,_=>False
 | _ + 1, [], _, _ => False
 | _ + 1, [x], a, p => p < t.length /\ t.getD p default = mw x a
 |f+1,l,a,p=>p<t.length/\∃b c,t.getD p default=⟨false,l.getD (l.length / 2) 0,0,b,c⟩/\lH t f (l.take (l.length / 2)) a b/\lH t f (l.drop (l.length / 2)) (a+l.length / 2) c
theorem Bv{α:Type}{t s:List α}{p:Nat}{d:α}(h:p<t.length):(t++s).getD p d=t.getD p d:=by
 rw[aa,bU h,aa]
theorem lH.more{s:List Nd}:∀{f:Nat} {t:List Nd} {l:List Nat} {a p:Nat},lH t f l a p->lH (t++s) f l a p
 |0,_,_,_,_,h=>h
 | _ + 1, _, [], _, _, h => h
 | _ + 1, t, [x], a, p, ⟨c, b⟩ => ⟨by rw [bw]; omega, (Bv c).trans b⟩
 |f+1,t,x::y::l,a,p,⟨c,g,i,b,e,d⟩=>⟨by rw[bw];omega,g,i,(Bv c).trans b,e.more,d.more⟩
theorem va:∀(f:Nat) (l:List Nat) (a:Nat) (b:List Nd),∃s,dD f l a b=b++s
 |0,_,_,b=>⟨[],by simp[dD]⟩
 | _ + 1, [], _, b => ⟨[], by simp [dD]⟩
 | _ + 1, [x], a, b => ⟨_, rfl⟩
 |f+1,x::y::l,a,b=>by
  generalize j:x::y::l=L;obtain⟨i,g⟩:=va f (L.take (L.length / 2)) a b;obtain⟨c,d⟩:=va f (L.drop (L.length / 2)) (a+L.length / 2) (dD f (L.take (L.length / 2)) a b);refine⟨i++c++[⟨false,L.getD (L.length / 2) 0,0,(dD f (L.take (L.length / 2)) a b).length - 1,(dD f (L.drop (L.length / 2)) (a+L.length / 2) (dD f (L.take (L.length / 2)) a b)).length - 1⟩],?_⟩;have e:dD (f+1) L a b=dD f (L.drop (L.length / 2)) (a+L.length / 2) (dD f (L.take (L.length / 2)) a b)++
   [⟨false,L.getD (L.length / 2) 0,0,(dD f (L.take (L.length / 2)) a b).length - 1,(dD f (L.drop (L.length / 2)) (a+L.length / 2) (dD f (L.take (L.length / 2)) a b)).length - 1⟩]:=by subst j;rfl
  rw[e];generalize dD f (L.drop (L.length / 2)) (a+L.length / 2) (dD f (L.take (L.length / 2)) a b)=k at*;rw[d,g];simp[dz]
theorem po:∀(f:Nat) (l:List Nat) (a:Nat) (b:List Nd),l≠[]->l.length<f+1->b.length<(dD f l a b).length/\lH (dD f l a b) f l a ((dD f l a b).length - 1)
 |0,l,_,b,c,n=>absurd (fh.2 c) (by omega)
 | _ + 1, [], _, b, c, _ => absurd rfl c
 |f+1,[x],a,b,_,_=>by
  show b.length<(b++[mw x a]).length/\(b++[mw x a]).length - 1<(b++[mw x a]).length/\(b++[mw x a]).getD ((b++[mw x a]).length - 1) default=mw x a
  simp
 |f+1,x::y::l,a,b,_,n=>by
  generalize d:x::y::l=L at*;have u:2<=L.length:=by rw[<-d];simp
  have e:dD (f+1) L a b=dD f (L.drop (L.length / 2)) (a+L.length / 2) (dD f (L.take (L.length / 2)) a b)++
   [⟨false,L.getD (L.length / 2) 0,0,(dD f (L.take (L.length / 2)) a b).length - 1,(dD f (L.drop (L.length / 2)) (a+L.length / 2) (dD f (L.take (L.length / 2)) a b)).length - 1⟩]:=by subst d;rfl
  have e2:∀t p,lH t (f+1) L a p=(p<t.length/\∃j g,t.getD p default=⟨false,L.getD (L.length / 2) 0,0,j,g⟩/\lH t f (L.take (L.length / 2)) a j/\lH t f (L.drop (L.length / 2)) (a+L.length / 2) g):=by subst d;intro t p;rfl
  have k:L.drop (L.length / 2)≠[]:=fun e=>by have:=eQ List.length e;rw[dt,bD]at this;omega
  have m:L.take (L.length / 2)≠[]:=fun e=>by have:=eQ List.length e;rw[bJ,bD]at this;omega
  obtain⟨a1,a2⟩:=po f (L.take (L.length / 2)) a b m (by rw[bJ];omega);obtain⟨b1,q⟩:=po f (L.drop (L.length / 2)) (a+L.length / 2) (dD f (L.take (L.length / 2)) a b) k (by rw[dt];omega);obtain⟨s,r⟩:=va f (L.drop (L.length / 2)) (a+L.length / 2) (dD f (L.take (L.length / 2)) a b);rw[e,e2];generalize dD f (L.take (L.length / 2)) a b=i at*;generalize dD f (L.drop (L.length / 2)) (a+L.length / 2) i=o at*;refine⟨by rw[bw];simp only[aM,bD];omega,by simp,i.length - 1,o.length - 1,by simp,?_,q.more⟩;rw[r];exact a2.more.more
theorem mR:∀(f:Nat) (l:List Nat) (d:Nat) (c:List Nd),l≠[]->(dD f l d c).length+1<=c.length+2*l.length
 |0,l,_,c,g=>by have:=fh.2 g;show c.length+1<=_;omega
 | _ + 1, [], _, c, g => absurd rfl g
 |f+1,[x],d,c,_=>by
  show(c++[mw x d]).length+1<=_
  simp
 |f+1,x::y::l,d,c,_=>by
  generalize i:x::y::l=L at*;have n:2<=L.length:=by rw[<-i];simp
  have e:dD (f+1) L d c=dD f (L.drop (L.length / 2)) (d+L.length / 2) (dD f (L.take (L.length / 2)) d c)++
   [⟨false,L.getD (L.length / 2) 0,0,(dD f (L.take (L.length / 2)) d c).length - 1,(dD f (L.drop (L.length / 2)) (d+L.length / 2) (dD f (L.take (L.length / 2)) d c)).length - 1⟩]:=by subst i;rfl
  have j:L.drop (L.length / 2)≠[]:=fun e=>by have:=eQ List.length e;rw[dt,bD]at this;omega
  have k:L.take (L.length / 2)≠[]:=fun e=>by have:=eQ List.length e;rw[bJ,bD]at this;omega
  have a:=mR f (L.take (L.length / 2)) d c k;have b:=mR f (L.drop (L.length / 2)) (d+L.length / 2) (dD f (L.take (L.length / 2)) d c) j;rw[e,bw];rw[bJ]at a;rw[dt]at b;generalize dD f (L.take (L.length / 2)) d c=m at*;generalize dD f (L.drop (L.length / 2)) (d+L.length / 2) m=o at*;simp only[aM,bD];omega
def Bd(Q:Nat->Prop)(s:Mk):Prop:=(∀p∈s.blocks,Q p.1)/\(s.blocks.map (·.1)).Nodup
theorem xA{c m:Nat}:∀{l:List (Nat×Nat)},(l.map (·.1)).Nodup->((kL l c m).map (·.1)).Nodup
 |[],_=>by simp[kL]
 |q::t,h=>by
  rw[aJ,iG]at h;unfold kL;split
  ·rename_i e;rw[aJ,iG];exact⟨by show c∉_;rw[<-e];exact h.1,h.2⟩
  rename_i e;rw[aJ,iG];refine⟨fun a=>?_,xA h.2⟩;obtain⟨p,hp,e2⟩:=bt.1 a;have:∀{l:List (Nat×Nat)},p∈kL l c m->p∈l\/p.1=c:=fun {l}=>by
   induction l with
   |nil=>intro h;rw[kL,bz]at h;exact .inr (by rw[h])
   |cons q t ih=>
    intro h;unfold kL at h;split at h
    ·rcases aP.1 h with rfl|h
     ·exact .inr rfl
     exact .inl (lu _ h)
    rcases aP.1 h with rfl|h
    ·exact .inl (by simp)
    rcases ih h with h|h
    ·exact .inl (lu _ h)
    exact .inr h
  rcases this hp with h3|h3
  ·exact h.1 (bt.2 ⟨p,h3,e2⟩)
  exact e (e2.symm.trans h3)
section
variable {Q:Nat->Prop}
theorem Bd.put{s:Mk}(h:Bd Q s)(xs:List It):Bd Q (s.put xs):=h
theorem Bd.mark{s:Mk}(h:Bd Q s):Bd Q s.mark:=h
theorem DB{p:Nat×Nat}{c m:Nat}:∀{l:List (Nat×Nat)},p∈kL l c m->p∈l\/p.1=c
 |[],h=>by
  rw[kL,bz]at h;exact .inr (by rw[h])
 |q::t,h=>by
  unfold kL at h;split at h
  ·rcases aP.1 h with rfl|h
   ·exact .inr rfl
   exact .inl (lu _ h)
  rcases aP.1 h with rfl|h
  ·exact .inl (by simp)
  rcases DB h with h|h
  ·exact .inl (lu _ h)
  exact .inr h
theorem Bd.goes{s:Mk}(h:Bd Q s){c:Nat}(a:Q c):Bd Q (s.goes c):=by
 unfold Mk.goes;split
 ·refine⟨fun p hp=>?_,xA h.2⟩;rcases DB hp with h1|h1
  ·exact h.1 p h1
  rw[h1];exact a
 exact h
theorem Bd.conds(wide:Bool)(next:Nat):∀(l:List Cd) {s:Mk},Bd Q s->Bd Q (gL wide next l s)
 |[],s,h=>h
 |c::t,s,h=>Bd.conds wide next t (s:=(s.mark.put (jY c wide (s.marks+1) next)).put [du (s.marks+1)]) h
theorem Bd.rule(wide:Bool){r:PR}(a:Q r.code){s:Mk}(h:Bd Q s):Bd Q (lz wide r s):=
 (((Bd.conds wide (s.marks+1) r.conds (s:=s.mark) h).goes a).put _).put _
theorem Bd.rules(wide:Bool)(o:Nat):∀(l:List PR),(∀r∈l,Q r.code)->∀{s:Mk},Bd Q s->Bd Q (jH wide o l s)
 |[],_,s,h=>h
 |r::t,a,s,h=>Bd.rules wide o t (fun x b=>a x (by simp[b])) (Bd.rule wide (a r (by simp)) h)
theorem Bd.search(o:Nat):∀(f:Nat) (l:List (Nat×Nat)) {s:Mk},Bd Q s->Bd Q (cW o f l s)
 |0,_,s,h=>h
 |f+1,[],s,h=>h
 |f+1,[x],s,h=>h
 |f+1,x::y::t,s,h=>by
  unfold cW;exact Bd.search o f _ ((Bd.search o f _ (s:=s.mark.put _) h).put _)
theorem Bd.subMarks:∀(l:List PS),(∀x∈l,Q x.code)->∀{s:Mk},Bd Q s->Bd Q (bV l s).1
 |[],_,s,h=>h
 |x::t,a,s,h=>Bd.subMarks t (fun y b=>a y (by simp[b])) (h.goes (a x (by simp)))
theorem Bd.subs(o:Nat)(l:List PS)(a:∀x∈l,Q x.code){s:Mk}(h:Bd Q s):Bd Q (kR o l s):=
 Bd.search o _ _ (Bd.subMarks l a (h.put _))
def dX.Codes(Q:Nat->Prop):dX->Prop
 | .rules _ l=>∀r∈l,Q r.code
 | .subs _ l=>∀x∈l,Q x.code
theorem Bd.Sw(wide:Bool)(o:Nat)(x:dX)(a:x.Codes Q){s:Mk}(h:Bd Q s):Bd Q (x.Sw wide o s):=by
 cases x with
 |rules n l=>exact Bd.rules wide o l a h
 |subs n l=>exact Bd.subs o l a h
theorem Bd.marks:∀(l:List dX) {s:Mk},Bd Q s->Bd Q (cM l s).1
 |[],s,h=>h
 |x::t,s,h=>Bd.marks t (s:=s.mark) h
theorem Bd.Ti(wide:Bool)(o:Nat):∀(l:List (dX×Nat)),(∀x∈l,x.1.Codes Q)->∀{s:Mk},Bd Q s->Bd Q (F6 wide o l s)
 |[],_,s,h=>h
 |x::t,a,s,h=>Bd.Ti wide o t (fun y b=>a y (by simp[b])) (Bd.Sw wide o x.1 (a x (by simp)) (h.put _))
structure Rx(Q:Nat->Prop)(pl:Pl):Prop where
 dflt:Q pl.dflt
 entries:∀a,∀e∈pl.entries.getD a [],∀r∈e.rules,Q r.code
 subs:∀m,∀x∈pl.subs.getD m [],Q x.code
 kill:Q 2147483648
variable {pl:Pl} (hp:Rx Q pl)
include hp
theorem MI(a:Nat):∀x∈cH pl a,x.Codes Q:=fun x b=>by
 unfold cH at b;rw[F1]at b;unfold dM at b;rcases bT.1 b with h|h
 ·obtain⟨e,c,rfl⟩:=bt.1 h;exact hp.entries a e c
 split at h
 ·simp only[aP,bQ,eW]at h;rcases h with rfl|rfl
  ·exact hp.subs 0
  exact hp.subs 1
 cases h
theorem Bd.calls(a:Nat){s:Mk}(h:Bd Q s):Bd Q (fA pl a s):=by
 unfold fA;refine Bd.Ti _ _ _ (fun x b=>MI hp a x.1 ?_) (Bd.search _ _ _ (Bd.marks _ (h.goes hp.dflt)));exact(mA (show(x.1,x.2)∈_ from b)).1
theorem Bd.Tt{s:Mk}(h:Bd Q s):Bd Q (nP pl s):=by
 unfold nP;simp only;have a:Bd Q ((s.goes pl.dflt).put [bc 21 4294967295 (s.to pl.dflt) 0]):=(h.goes hp.dflt).put _;split
 ·exact Bd.calls hp 0 ((a.goes hp.kill).put _)
 exact Bd.calls hp 1 ((Bd.calls hp 0 (a.mark.put _)).put _)
theorem Bd.SV(a m:Nat){s:Mk}(h:Bd Q s):Bd Q (gM pl a m s):=by
 unfold gM;simp only;split
 ·exact Bd.Tt hp ((h.put _).put _)
 exact Bd.calls hp a ((h.put _).put _)
theorem Bd.head:Bd Q (jI pl):=by
 unfold jI;simp only;refine Bd.SV hp _ _ (Bd.SV hp _ _ (Bd.SV hp _ _ (Bd.SV hp _ _ (Bd.put (Bd.goes ?_ hp.kill) _))));refine⟨fun p hp=>?_,?_⟩
 ·simp[rV,Mk.put,Mk.mark]at hp
 simp[rV,Mk.put,Mk.mark]
end
theorem xB{k n:Int}(h:eT k n=true):codeA k n<4294967296:=by
 unfold eT oO at h;have h:=aN h;unfold codeA baseA;split at h<;>(try split at h)<;>repeat' split
 all_goals omega
end
section
open Go.RowKit
theorem sA(g n cap a b p:Nat)(w:Ub)(Z:UB w g n)(hn:n<=1000000)(a9:a<=p)(a6:p<b)(hb:b<=n):
  Calls prog 254 #[T0 (some ⟨g,0,none⟩) n cap,TY T6 a,TY T6 b,TY T6 p] w fun e w'=>
   (∃(m:Nat) (q:Bool),e=.returned (T4 #[TY T6 m,T2 q])/\a<=m/\m<b)/\UB w' g n/\w.grownBy w' (some g):=by
 have hg:=cj w (some g);obtain⟨b1,a4⟩:∃b1:Nat,(b:Int) - 1=(b1:Nat):=⟨b - 1,by omega⟩;have a7:b1<b/\a<=b1:=by omega
 go_enter func254,ntmps254;go_wp2_with fail;go_cut [25] from 12 to 25 (fun bb B=>UB B g n/\w.grownBy B (some g))
 case first=>
  clear a4;have H:a<=p:=by omega
  rcases iY H with G|hlt
  ·obtain⟨y,t,u⟩:=Z.cell a (by omega);have T:=Z.frozen a;have h7:a<n:=by omega
   have f:=((Z.set_ a y t).set_ a y t).drew;have l:=eM (cQ (cQ hg a (TY T7 y)) a (TY T7 y));subst G;go_region;go_wp2_with fail;go_meet;exact⟨f,l⟩
  obtain⟨x,S,M⟩:=Z.cell p (by omega);have fx:=Z.frozen p;obtain⟨y,t,u⟩:=Z.cell a (by omega);have T:=Z.frozen a;have U:p<n:=by omega
  have h7:a<n:=by omega
  have W:¬a=p:=by omega
  have R:¬p=a:=by omega
  have f:=((Z.set_ a x S).set_ p y t).drew;have l:=eM (cQ (cQ hg a (TY T7 x)) p (TY T7 y));go_region;go_wp2_with fail;go_meet;exact⟨f,l⟩
 case rest=>
  obtain⟨am,ai⟩:=hcut;clear Z hg;go_at_K;go_step;iterate 22 go_step
  go_at_K
  go_step;go_step;go_cut [10] from 30 to 45 (fun ag B=>∃L:Nat,ag=TY T6 L/\a<L/\L<=b/\UB B g n/\w.grownBy B (some g))
  case first=>
   go_step;go_loopw [10] (fun i z=>∃L:Nat,i=TY T6 L/\a<L/\L<=b/\UB z g n/\w.grownBy z (some g))
    (fun i _=>b - (intOf i).toNat)
   case atStart=>exact⟨a+1,by go_num,by omega,by omega,am,ai⟩
   case round=>
    obtain⟨i1,rfl,J,D,d,o⟩:=hrel;clear am ai;obtain⟨y,t,u⟩:=d.cell a (by omega);have T:=d.frozen a;have h5:a<n:=by omega
    by_cases N:i1<=b1
    ·have U:i1<n:=by omega
     obtain⟨x,S,M⟩:=d.cell i1 U;have fx:=d.frozen i1;have V:(i1:Int)<=(b1:Nat):=by omega
     go_wp2_with fail;go_quiet (first|(go_at_call 252;refine Calls.quiet_of_same (eD _ _ _)))
     go_wp2_with fail
     ·go_roundw;case rel=>exact⟨i1+1,by go_num,by omega,by omega,d.drewN nq,cD o nq⟩
      case measure=>simp[intOf]<;>omega
     go_meet
     exact⟨i1,rfl,J,D,d.drewN nq,cD o nq⟩
    have hf:decide ((i1:Int)<=(b1:Nat))=false:=aK (by omega);have al:decide (i1<=b1)=false:=aK N;go_wp2_with fail;go_quiet (first|(go_at_call 252;refine Calls.quiet_of_same (eD _ _ _)));go_wp2_with fail;go_meet;exact⟨i1,rfl,J,D,d.drewN nq,cD o nq⟩
  case rest=>
   obtain⟨i2,rfl,J,D,d,o⟩:=hcut;clear am ai;go_at_K;go_step;go_step;go_cut [11] from 46 to 62 (fun ak B=>∃F:Nat,ak=TY T6 F/\a<=F/\F<=b1/\UB B g n/\w.grownBy B (some g))
   case first=>
    go_step;go_loopw [11] (fun i z=>∃F:Nat,i=TY T6 F/\a<=F/\F<=b1/\UB z g n/\w.grownBy z (some g))
     (fun i _=>(intOf i).toNat)
    case atStart=>exact⟨b1,by go_num,by omega,by omega,d,o⟩
    case round=>
     obtain⟨A,rfl,E,C,c,k⟩:=hrel;clear d o;obtain⟨y,t,u⟩:=c.cell a (by omega);have T:=c.frozen a;have h5:a<n:=by omega
     by_cases N:i2<=A
     ·have U:A<n:=by omega
      obtain⟨x,S,M⟩:=c.cell A U;have fx:=c.frozen A;have V:(i2:Int)<=(A:Nat):=by omega
      go_wp2_with fail;go_quiet (first|(go_at_call 252;refine Calls.quiet_of_same (eD _ _ _)))
      go_wp2_with fail
      ·go_roundw;case rel=>exact⟨A - 1,by congr 1;omega,by omega,by omega,c.drewN nq,cD k nq⟩
       case measure=>simp[intOf]<;>omega
      go_meet
      exact⟨A,rfl,E,C,c.drewN nq,cD k nq⟩
     have hf:decide ((i2:Int)<=(A:Nat))=false:=aK (by omega);have al:decide (i2<=A)=false:=aK N;go_wp2_with fail;go_quiet (first|(go_at_call 252;refine Calls.quiet_of_same (eD _ _ _)));go_wp2_with fail;go_meet;exact⟨A,rfl,E,C,c.drewN nq,cD k nq⟩
   case rest=>
    obtain⟨s,rfl,E,C,c,k⟩:=hcut;clear d o;by_cases a0:i2<=s
    ·have O:(i2:Int)<=(s:Nat):=by omega
     have aE:(0:Int)<=(s:Nat):=by omega
     go_wp2_with fail;go_cut [94] from 81 to 94 (fun ba B=>UB B g n/\w.grownBy B (some g))
     case first=>
      have H:i2<=s:=by omega
      rcases iY H with G|hlt
      ·obtain⟨y,t,u⟩:=c.cell i2 (by omega);have T:=c.frozen i2;have h7:i2<n:=by omega
       have f:=((c.set_ i2 y t).set_ i2 y t).drew;have l:=eM (cQ (cQ k i2 (TY T7 y)) i2 (TY T7 y));subst G;go_region;go_wp2_with fail;go_meet;exact⟨f,l⟩
      obtain⟨x,S,M⟩:=c.cell s (by omega);have fx:=c.frozen s;obtain⟨y,t,u⟩:=c.cell i2 (by omega);have T:=c.frozen i2;have U:s<n:=by omega
      have h7:i2<n:=by omega
      have W:¬i2=s:=by omega
      have R:¬s=i2:=by omega
      have f:=((c.set_ i2 x S).set_ s y t).drew;have l:=eM (cQ (cQ k i2 (TY T7 x)) s (TY T7 y));go_region;go_wp2_with fail;go_meet;exact⟨f,l⟩
     case rest=>
      obtain⟨X,Y⟩:=hcut;clear c k;go_wp2_with fail;go_loopw [10,11] (fun i j wr=>∃L F:Nat,i=TY T6 L/\j=TY T6 F/\a<L/\L<=b/\a<=F/\F<b/\UB wr g n/\w.grownBy wr (some g))
       (fun i j _=>(intOf j+1 - intOf i).toNat)
      case atStart=>exact⟨i2+1,s - 1,by go_num,by congr 1;omega,by omega,by omega,by omega,by omega,X,Y⟩
      case round=>
       clear X Y a0 O aE J D E C;obtain⟨i0,j0,rfl,rfl,J,D,E,C,an,ap⟩:=hrel;go_step;go_step;go_step;go_cut [10] from 99 to 114 (fun ag B=>∃L:Nat,ag=TY T6 L/\i0<=L/\L<=b/\UB B g n/\w.grownBy B (some g))
       case first=>
        go_step;go_loopw [10] (fun i z=>∃L:Nat,i=TY T6 L/\i0<=L/\L<=b/\UB z g n/\w.grownBy z (some g))
         (fun i _=>b - (intOf i).toNat)
        case atStart=>exact⟨i0,rfl,by omega,by omega,an,ap⟩
        case round=>
         obtain⟨i1,rfl,J,D,d,o⟩:=hrel;clear an ap;obtain⟨y,t,u⟩:=d.cell a (by omega);have T:=d.frozen a;have h5:a<n:=by omega
         by_cases N:i1<=j0
         ·have U:i1<n:=by omega
          obtain⟨x,S,M⟩:=d.cell i1 U;have fx:=d.frozen i1;have V:(i1:Int)<=(j0:Nat):=by omega
          go_wp2_with fail;go_quiet (first|(go_at_call 252;refine Calls.quiet_of_same (eD _ _ _)))
          go_wp2_with fail
          ·go_roundw;case rel=>exact⟨i1+1,rfl,by omega,by omega,d.drewN nq,cD o nq⟩
           case measure=>simp[intOf]<;>omega
          go_meet
          exact⟨i1,rfl,J,D,d.drewN nq,cD o nq⟩
         have hf:decide ((i1:Int)<=(j0:Nat))=false:=aK (by omega);have al:decide (i1<=j0)=false:=aK N;go_wp2_with fail;go_quiet (first|(go_at_call 252;refine Calls.quiet_of_same (eD _ _ _)));go_wp2_with fail;go_meet;exact⟨i1,rfl,J,D,d.drewN nq,cD o nq⟩
       case rest=>
        obtain⟨v,rfl,J,D,d,o⟩:=hcut;clear an ap;go_at_K;go_step;go_step;go_cut [11] from 115 to 131 (fun ak B=>∃F:Nat,ak=TY T6 F/\a<=F/\F<=j0/\UB B g n/\w.grownBy B (some g))
        case first=>
         go_step;go_loopw [11] (fun i z=>∃F:Nat,i=TY T6 F/\a<=F/\F<=j0/\UB z g n/\w.grownBy z (some g))
          (fun i _=>(intOf i).toNat)
         case atStart=>exact⟨j0,rfl,by omega,by omega,d,o⟩
         case round=>
          obtain⟨A,rfl,E,C,c,k⟩:=hrel;clear d o;obtain⟨y,t,u⟩:=c.cell a (by omega);have T:=c.frozen a;have h5:a<n:=by omega
          by_cases N:v<=A
          ·have U:A<n:=by omega
           obtain⟨x,S,M⟩:=c.cell A U;have fx:=c.frozen A;have V:(v:Int)<=(A:Nat):=by omega
           go_wp2_with fail;go_quiet (first|(go_at_call 252;refine Calls.quiet_of_same (eD _ _ _)))
           go_wp2_with fail
           ·go_roundw;case rel=>exact⟨A - 1,by congr 1;omega,by omega,by omega,c.drewN nq,cD k nq⟩
            case measure=>simp[intOf]<;>omega
           go_meet
           exact⟨A,rfl,E,C,c.drewN nq,cD k nq⟩
          have hf:decide ((v:Int)<=(A:Nat))=false:=aK (by omega);have al:decide (v<=A)=false:=aK N;go_wp2_with fail;go_quiet (first|(go_at_call 252;refine Calls.quiet_of_same (eD _ _ _)));go_wp2_with fail;go_meet;exact⟨A,rfl,E,C,c.drewN nq,cD k nq⟩
        case rest=>
         obtain⟨r,rfl,E,C,c,k⟩:=hcut;clear d o;by_cases a0:v<=r
         ·have O:(v:Int)<=(r:Nat):=by omega
          have aE:(0:Int)<=(r:Nat):=by omega
          go_wp2_with fail;go_cut [148] from 135 to 148 (fun a5 B=>UB B g n/\w.grownBy B (some g))
          case first=>
           have H:v<=r:=by omega
           rcases iY H with G|hlt
           ·obtain⟨y,t,u⟩:=c.cell v (by omega);have T:=c.frozen v;have h7:v<n:=by omega
            have f:=((c.set_ v y t).set_ v y t).drew;have l:=eM (cQ (cQ k v (TY T7 y)) v (TY T7 y));subst G;go_region;go_wp2_with fail;go_meet;exact⟨f,l⟩
           obtain⟨x,S,M⟩:=c.cell r (by omega);have fx:=c.frozen r;obtain⟨y,t,u⟩:=c.cell v (by omega);have T:=c.frozen v;have U:r<n:=by omega
           have h7:v<n:=by omega
           have W:¬v=r:=by omega
           have R:¬r=v:=by omega
           have f:=((c.set_ v x S).set_ r y t).drew;have l:=eM (cQ (cQ k v (TY T7 x)) r (TY T7 y));go_region;go_wp2_with fail;go_meet;exact⟨f,l⟩
          case rest=>
           obtain⟨X,Y⟩:=hcut;clear c k;go_wp2_with fail;go_roundw;case rel=>exact⟨v+1,r - 1,by go_num,by congr 1;omega,by omega,by omega,by omega,by omega,X,Y⟩
           case measure=>simp[intOf]<;>omega
         have O:decide ((r:Int)<(v:Nat))=true:=bM (by omega);have av:(r:Int)<(v:Nat):=by omega
         go_wp2_with fail;have H:a<=r:=by omega
         rcases iY H with G|hlt
         ·obtain⟨y,t,u⟩:=c.cell r (by omega);have T:=c.frozen r;have h7:r<n:=by omega
          have f:=((c.set_ r y t).set_ r y t).drew;have l:=eM (cQ (cQ k r (TY T7 y)) r (TY T7 y));subst G;go_region;go_wp2_with fail;go_ret2;exact⟨⟨_,false,rfl,by omega,by omega⟩,f,l⟩
         obtain⟨x,S,M⟩:=c.cell a (by omega);have fx:=c.frozen a;obtain⟨y,t,u⟩:=c.cell r (by omega);have T:=c.frozen r;have U:a<n:=by omega
         have h7:r<n:=by omega
         have W:¬r=a:=by omega
         have R:¬a=r:=by omega
         have f:=((c.set_ r x S).set_ a y t).drew;have l:=eM (cQ (cQ k r (TY T7 x)) a (TY T7 y));go_region;go_wp2_with fail;go_ret2;exact⟨⟨_,false,rfl,by omega,by omega⟩,f,l⟩
    have O:decide ((s:Int)<(i2:Nat))=true:=bM (by omega);have av:(s:Int)<(i2:Nat):=by omega
    go_wp2_with fail;have H:a<=s:=by omega
    rcases iY H with G|hlt
    ·obtain⟨y,t,u⟩:=c.cell s (by omega);have T:=c.frozen s;have h7:s<n:=by omega
     have f:=((c.set_ s y t).set_ s y t).drew;have l:=eM (cQ (cQ k s (TY T7 y)) s (TY T7 y));subst G;go_region;go_wp2_with fail;go_ret2;exact⟨⟨_,true,rfl,by omega,by omega⟩,f,l⟩
    obtain⟨x,S,M⟩:=c.cell a (by omega);have fx:=c.frozen a;obtain⟨y,t,u⟩:=c.cell s (by omega);have T:=c.frozen s;have U:a<n:=by omega
    have h7:s<n:=by omega
    have W:¬s=a:=by omega
    have R:¬a=s:=by omega
    have f:=((c.set_ s x S).set_ a y t).drew;have l:=eM (cQ (cQ k s (TY T7 x)) a (TY T7 y));go_region;go_wp2_with fail;go_ret2;exact⟨⟨_,true,rfl,by omega,by omega⟩,f,l⟩
def CU(W:Ub)(c:Nat):Prop:=∃v:Int,W.cell? ⟨c,0,none⟩=some (TY T6 v)/\W.frozen? ⟨c,0,none⟩=false
theorem CU.drewN{W:Ub}{c:Nat}(h:CU W c)(m:Nat):CU (W.drewN m) c:=h
theorem CU.set_{W:Ub}{c:Nat}(h:CU W c)(v:Int):CU (W.setCell ⟨c,0,none⟩ (TY T6 v)) c:=by
 obtain⟨u,b,a⟩:=h;exact⟨v,jA _ _ _ (by rw[b];rfl),(lr _ _ _ _).trans a⟩
def KC(g n c:Nat)(w W:Ub):Prop:=UB W g n/\CU W c/\w.grownBy W (some c)
theorem KC.drewN{g n c:Nat}{w W:Ub}(h:KC g n c w W)(m:Nat):KC g n c w (W.drewN m):=⟨h.1.drewN m,h.2.1.drewN m,cD h.2.2 m⟩
theorem KC.set_{g n c:Nat}{w W:Ub}(h:KC g n c w W)(a:g≠c)(v:Int):KC g n c w (W.setCell ⟨c,0,none⟩ (TY T6 v)):=⟨h.1.far a _,h.2.1.set_ v,cQ h.2.2 _ _⟩
theorem KC.trans{g n c:Nat}{w X Y:Ub}(h:KC g n c w X)(k:KC g n c X Y):KC g n c w Y:=⟨k.1,k.2.1,fp h.2.2 k.2.2⟩
theorem IB(g n cap c a b:Nat)(w:Ub)(d:UB w g n)(i:CU w c)(f:g≠c)(v:n<=1000000)(q:a<n)(m:b<n):
  Calls prog 355 #[T0 (some ⟨g,0,none⟩) n cap,TY T6 a,TY T6 b,TZ (some ⟨c,0,none⟩)] w fun e w'=>
   (∃x y:Nat,e=.returned (T4 #[TY T6 x,TY T6 y])/\((x=a/\y=b)\/(x=b/\y=a)))/\KC g n c w w':=by
 have j:KC g n c w w:=⟨d,i,cj _ _⟩;obtain⟨u,k,o⟩:=i;obtain⟨x,t,l⟩:=d.cell a q;obtain⟨y,r,p⟩:=d.cell b m;have s:=d.frozen a;have z:=d.frozen b;go_enter func355,ntmps355;go_wp2_with fail;go_quiet (first|(go_at_call 252;refine Calls.quiet_of_same (eD _ _ _)));go_wp2_with fail
 ·go_ret2;exact⟨⟨b,a,rfl,.inr ⟨rfl,rfl⟩⟩,(j.drewN nq).set_ f _⟩
 go_ret2;exact⟨⟨a,b,rfl,.inl ⟨rfl,rfl⟩⟩,j.drewN nq⟩
theorem zq(g n cap c i j k:Nat)(w:Ub)(z:UB w g n)(y:CU w c)(x:g≠c)(J:n<=1000000)(H:i<n)(M:j<n)(F:k<n):
  Calls prog 331 #[T0 (some ⟨g,0,none⟩) n cap,TY T6 i,TY T6 j,TY T6 k,TZ (some ⟨c,0,none⟩)] w fun e w'=>
   (∃m:Nat,e=.returned (TY T6 m)/\(m=i\/m=j\/m=k))/\KC g n c w w':=by
 have t:=fun(a b:Nat) (N:a<n) (C:b<n) (W:Ub) (h:KC g n c w W)=>IB g n cap c a b W h.1 h.2.1 x J N C
 have r:KC g n c w w:=⟨z,y,cj _ _⟩;clear z y;go_enter func331,ntmps331;go_wp2_with fail;refine(t i j H M _ r).mono ?_;rintro e O ⟨⟨B,y1,rfl,s⟩,f⟩;replace f:=r.trans f;have u:B<n:=by omega
 have q:y1<n:=by omega
 have G:=Lib.hid s;clear s r;go_wp2_with fail;refine(t y1 k q F _ f).mono ?_;rintro e T ⟨⟨A,y2,rfl,p⟩,d⟩;replace d:=f.trans d;have o:A<n:=by omega
 have D:y2<n:=by omega
 have L:=Lib.hid p;clear p f;go_wp2_with fail;refine(t B A u o _ d).mono ?_;rintro e R ⟨⟨S,y3,rfl,v⟩,l⟩;replace l:=d.trans l;have E:=Lib.hid v;clear v d;go_wp2_with fail;go_ret;have s:=G.out;have p:=L.out;have v:=E.out;exact⟨⟨y3,rfl,by omega⟩,l⟩
theorem tj(g n cap c i:Nat)(w:Ub)(l:UB w g n)(k:CU w c)(d:g≠c)(p:n<=1000000)(t:1<=i)(a:i+1<n):
  Calls prog 330 #[T0 (some ⟨g,0,none⟩) n cap,TY T6 i,TZ (some ⟨c,0,none⟩)] w fun e w'=>
   (∃m:Nat,e=.returned (TY T6 m)/\m<=i+1/\i<=m+1)/\KC g n c w w':=by
 obtain⟨h,s⟩:∃h:Nat,(i:Int) - 1=(h:Nat):=⟨i - 1,by omega⟩;have j:=zq g n cap c h i (i+1) w l k d p (by omega) (by omega) a;have H:=Lib.hid (show h+1=i by omega);go_enter func330,ntmps330;go_wp2_with fail;refine j.mono ?_;rintro e q ⟨⟨m,rfl,b⟩,f⟩;have o:=Lib.hid b;clear b j;go_wp2_with fail;go_ret;have b:=o.out;have r:=H.out;exact⟨⟨m,rfl,by omega,by omega⟩,f⟩
end
end Go.Proofs.YtfammloeljmplaaGreatDoor
