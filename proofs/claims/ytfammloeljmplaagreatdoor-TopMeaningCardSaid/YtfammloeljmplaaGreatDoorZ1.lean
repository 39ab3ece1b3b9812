/- Laws of drawn regions and of rows in memory; conditions: each lemma's own. -/
import Derived.Test.YtfammloeljmplaaGreatDoorZB
open Go.Value renaming slice->T0
open Go.Obj renaming cells->Ua
open Go renaming World->Ub,Value->Uc
namespace Go.Proofs.YtfammloeljmplaaGreatDoor
set_option maxRecDepth 100000
set_option maxHeartbeats 8000000
set_option linter.unusedVariables false
set_option linter.unusedSimpArgs false
section
open Go.RowKit
def aS(w w':Ub):Prop:=Below w.heap.size w w'
theorem aS.refl(w:Ub):aS w w:=aw _ _
theorem aS.trans{a b c:Ub}(h:aS a b)(k:aS b c):aS a c:=Below.trans h (Below.mono k h.size)
theorem aS.drew{a b:Ub}(h:aS a b):aS a b.drew:=Below.drew h
theorem aS.alloc{a b:Ub}(h:aS a b)(o:Obj):aS a (b.alloc o):=Below.alloc h h.size o
namespace Any
variable {P:Program} {ops:Array Oper} {Q:Exit->Act->Ub->Prop}
def depOf(ops:Array Oper)(e:Edge):Option Tmp:=if Region.binds .any e then(ops[e.on]?).bind (·.dst)else none
def deps(ops:Array Oper)(o:Oper):List Tmp:=o.after.toList.filterMap (depOf ops)
def dsts(ops:Array Oper):List Tmp:=ops.toList.filterMap (·.dst)
def Step(P:Program)(ops:Array Oper)(Q:Exit->Act->Ub->Prop)(F:Tmp->Uc->Ub->Prop)(a0:Act)(w0:Ub)(o:Oper):Prop:=
 ∀(a:Act) (w:Ub),aS w0 w->
  (∀t,t∉dsts ops->a.tmps.getD t undef=a0.tmps.getD t undef)->
  (∀d∈deps ops o,F d (a.tmps.getD d undef) w)->
  if Region.wanted o (yielded ops a.tmps)then o.wp P a w (fun b w'=>∃v,b=a.put o.dst v/\(∀d,o.dst=some d->F d v w')/\aS w w') Q
  else∀d,o.dst=some d->F d undef w
structure Holds(ops:Array Oper)(F:Tmp->Uc->Ub->Prop)(a0:Act)(w0:Ub)(listed:Array Bool)(a:Act)(w:Ub):Prop where
 grows:aS w0 w
 defers:a.defers=a0.defers
 size:a.tmps.size=a0.tmps.size
 old:∀t,t∉dsts ops->a.tmps[t]? =a0.tmps[t]?
 new:∀(j:Nat) (oj:Oper) (d:Tmp),ops[j]? =some oj->listed.getD j false=true->oj.dst=some d->F d (a.tmps.getD d undef) w
theorem mem_dsts{j:Nat}{oj:Oper}{d:Tmp}(h:ops[j]? =some oj)(a:oj.dst=some d):d∈dsts ops:=by
 unfold dsts;refine eE.2 ⟨oj,?_,a⟩;have:=zI h;simpa using this
theorem Holds.put{F:Tmp->Uc->Ub->Prop}{a0:Act}{w0:Ub}{listed:Array Bool}{a:Act}{w w':Ub}
  (f:∀d v w w',aS w w'->F d v w->F d v w')(q:∀d∈dsts ops,d<a0.tmps.size)
  (h:Holds ops F a0 w0 listed a w){i:Nat}{o:Oper}(m:ops[i]? =some o){v:Uc}(l:aS w w')
  (hv:∀d,o.dst=some d->F d v w'):Holds ops F a0 w0 (listed.setIfInBounds i true) (a.put o.dst v) w':=by
 have c:∀j,(listed.setIfInBounds i true).getD j false=true->j=i\/listed.getD j false=true:=by
  intro j g;by_cases e:j=i
  ·exact .inl e
  right
  simp only[au]at g⊢;rwa [aW (fun h=>e h.symm)]at g
 cases k:o.dst with
 |none=>
  refine⟨h.grows.trans l,h.defers,h.size,h.old,fun j oj d g hl b=>?_⟩;rcases c j hl with rfl|hl
  ·rw[m]at g;cases g;rw[k]at b;cases b
  exact f _ _ _ _ l (h.new j oj d g hl b)
 |some d0=>
  have r:d0<a.tmps.size:=by rw[h.size];exact q _ (mem_dsts m k)
  refine⟨h.grows.trans l,h.defers,by simp[Act.put,h.size],fun t s=>?_,fun j oj d g hl b=>?_⟩
  ·have n:d0≠t:=fun e=>s (e▸mem_dsts m k)
   simp only[Act.put];rw[aW n];exact h.old t s
  by_cases e:d=d0
  ·subst e;have:(a.put (some d) v).tmps.getD d undef=v:=by simp[Act.put,au,r]
   rw[this];exact hv d k
  have p:(a.put (some d0) v).tmps.getD d undef=a.tmps.getD d undef:=by
   simp only[Act.put,au];rw[aW (fun h=>e h.symm)]
  rw[p];rcases c j hl with rfl|hl
  ·rw[m]at g;cases g;rw[k]at b;cases b;exact absurd rfl e
  exact f _ _ _ _ l (h.new j oj d g hl b)
theorem countP_less{p:Nat->Bool}{i:Nat}:∀{l:List Nat},i∈l->p i=true->l.countP (fun x=>p x&&x != i)+1<=l.countP p
 |x::l,c,b=>by
  have a:∀l:List Nat,l.countP (fun x=>p x&&x != i)<=l.countP p:=fun l=>
   oH (fun x _ h=>by simp at h;exact h.1)
  rcases aP.1 c with rfl|hm'
  ·rw[lM,lM];have:=a l;simp[b];exact this
  have ih:=countP_less hm' b;rw[lM,lM];cases d:p x<;>simp<;>try omega
  split<;>omega
theorem ready_mem{listed:Array Bool}{i:Nat}(h:i∈Region.ready .any ops listed):
  i<ops.size/\listed.getD i true=false/\∀o,ops[i]? =some o->∀e∈o.after,Region.binds .any e=true->listed.getD e.on false=true:=by
 unfold Region.ready at h;simp only[gO,bE,bG,fm]at h;refine⟨h.1,h.2.1,fun o b e c d=>?_⟩;have a:=h.2.2;rw[b]at a;simp only[fX,jX]at a;rw[jw]at a;have:=a e c;simpa[d]using this
theorem all_listed{listed:Array Bool}(l:listed.size=ops.size)
  (b:∀(i:Nat) (o:Oper),ops[i]? =some o->∀e∈o.after,Region.binds .any e=true->e.on<i)
  (h:Region.ready .any ops listed=[]):∀n i,i<n->i<ops.size->listed.getD i false=true:=by
 intro n;induction n with
 |zero=>intro i j;omega
 |succ n ih=>
  intro i j a;cases c:listed.getD i false with
  |true=>rfl
  |false=>
   exfalso;have:i∈Region.ready .any ops listed:=by
    unfold Region.ready;simp only[gO,bE,bG,fm];refine⟨a,?_,?_⟩
    ·simp only[au]at c⊢;rw[bF (by omega)]at c⊢;simpa using c
    have f:ops[i]? =some (ops[i]'a):=bF a;rw[f];simp only[fX,jX];rw[jw];intro e k;cases g:Region.binds .any e with
    |false=>simp
    |true=>
     have d:=b i _ f e k g;simp[ih e.on (by omega) (by omega)]
   rw[h]at this;cases this
theorem wpAny_of{F:Tmp->Uc->Ub->Prop}{a0:Act}{w0:Ub}
  (f:∀d v w w',aS w w'->F d v w->F d v w')(y:∀d∈dsts ops,d<a0.tmps.size)
  (A:∀(i:Nat) (o:Oper),ops[i]? =some o->∀e∈o.after,Region.binds .any e=true->e.on<i)
  (steps:∀(i:Nat) (o:Oper),ops[i]? =some o->Step P ops Q F a0 w0 o)
  (done:∀a w,Holds ops F a0 w0 (Array.replicate ops.size true) a w->Q .normal a w):
  ∀(fuel:Nat) (listed:Array Bool) (a:Act) (w:Ub),listed.size=ops.size->Holds ops F a0 w0 listed a w->
   (List.range ops.size).countP (fun i=> !listed.getD i true)<=fuel->wpAny P .any ops Q fuel listed a w:=by
 have u:∀(listed:Array Bool) (a:Act) (w:Ub),listed.size=ops.size->Holds ops F a0 w0 listed a w->Region.ready .any ops listed=[]->Q .normal a w:=by
  intro listed a w m c s;refine done a w ⟨c.grows,c.defers,c.size,c.old,fun j oj d J _ z=>?_⟩;have D:j<ops.size:=(aL.1 J).1;exact c.new j oj d J (all_listed m A s (j+1) j (by omega) D) z
 intro fuel;induction fuel with
 |zero=>
  intro listed a w m c W;have s:Region.ready .any ops listed=[]:=by
   cases s:Region.ready .any ops listed with
   |nil=>rfl
   |cons i l=>
    exfalso;have E:i∈Region.ready .any ops listed:=by rw[s];exact Se
    obtain⟨q,B,_⟩:=ready_mem E;have G:0<(List.range ops.size).countP (fun i=> !listed.getD i true):=Dp.2 ⟨i,bE.2 q,by rw[B];rfl⟩;omega
  exact⟨s,u listed a w m c s⟩
 |succ fuel ih=>
  intro listed a w m c W;refine⟨u listed a w m c,fun i E=>?_⟩;obtain⟨q,B,S⟩:=ready_mem E;have r:ops[i]? =some (ops[i]'q):=bF q;generalize ops[i]'q=o at r;have g:=steps i o r a w c.grows
   (fun t L=>by simp only[au];rw[c.old t L])
   (fun d z=>by
     unfold deps at z;obtain⟨e,U,b⟩:=eE.1 z;unfold depOf at b;by_cases C:Region.binds .any e=true
     ·rw[aj C]at b;cases n:ops[e.on]? with
      |none=>rw[n]at b;cases b
      |some oj=>
       rw[n]at b;exact c.new e.on oj d n (S o r e (by simpa using U) C) b
     rw[af C]at b;cases b)
  have k:(List.range ops.size).countP (fun j=> !(listed.setIfInBounds i true).getD j true)<=fuel:=by
   have V:=countP_less (p:=fun j=> !listed.getD j true) (i:=i) (l:=List.range ops.size) (bE.2 q) (by rw[B];rfl);have M:(List.range ops.size).countP (fun j=> !(listed.setIfInBounds i true).getD j true)=(List.range ops.size).countP (fun x=>(!listed.getD x true)&&x != i):=by
    apply tE
    intro x T;have O:x<ops.size:=bE.1 T;by_cases e:x=i
    ·subst e;simp[au,m,q]
    simp only[au];rw[aW (fun h=>e h.symm)];simp[e]
   omega
  unfold wpOp;simp only[r];by_cases H:Region.wanted o (yielded ops a.tmps)=true
  ·rw[aj H]at g⊢;refine .inl (jE (fun X w' R=>?_) g);obtain⟨v,rfl,hv,N⟩:=R;exact ih _ _ _ (by simp[m]) (c.put f y r N hv) k
  rw[af H]at g⊢;exact ih _ _ _ (by simp[m]) (c.put f y r (aS.refl _) g) k
def fill(f:Tmp->Uc)(l:List Tmp)(t:Array Uc):Array Uc:=l.foldl (fun t d=>t.setIfInBounds d (f d)) t
theorem fill_size(f:Tmp->Uc):∀(l:List Tmp) (t:Array Uc),(fill f l t).size=t.size
 |[],t=>rfl
 |d::l,t=>by
  show(fill f l (t.setIfInBounds d (f d))).size=_
  rw[fill_size f l];simp
theorem fill_get(f:Tmp->Uc):∀(l:List Tmp) (t:Array Uc) (x:Nat),x<t.size->(fill f l t)[x]? =if x∈l then some (f x)else t[x]?
 |[],t,x,_=>by simp[fill]
 |d::l,t,x,b=>by
  show(fill f l (t.setIfInBounds d (f d)))[x]? =_
  rw[fill_get f l _ x (by simpa using b)];by_cases a:x∈l
  ·simp[a]
  by_cases e:x=d
  ·subst e;simp[a,b]
  rw[af a,af (by simp[e,a]),aW (fun h=>e h.symm)]
theorem Holds.shape{F:Tmp->Uc->Ub->Prop}{a0:Act}{w0:Ub}{listed:Array Bool}{a:Act}{w:Ub}(h:Holds ops F a0 w0 listed a w):
  a={tmps:=fill (fun d=>a.tmps.getD d undef) (dsts ops) a0.tmps,defers:=a0.defers}:=by
 obtain⟨tmps,defers⟩:=a;have e1:defers=a0.defers:=h.defers;have e:tmps.size=a0.tmps.size:=h.size;have e2:tmps=fill (fun d=>tmps.getD d undef) (dsts ops) a0.tmps:=by
  apply F3
  intro x;by_cases c:x<a0.tmps.size
  ·rw[fill_get _ _ _ _ c];by_cases b:x∈dsts ops
   ·rw[aj b,bF (by omega)];simp[au,bF (show x<tmps.size by omega)]
   rw[af b];exact h.old x b
  rw[gD (by omega),gD (by rw[fill_size];omega)]
 show({tmps:=tmps,defers:=defers}:Act)={tmps:=fill (fun d=>tmps.getD d undef) (dsts ops) a0.tmps,defers:=a0.defers}
 rw[<-e2,e1]
def backB(ops:Array Oper):Bool:=(List.range ops.size).all fun i=>((ops[i]?).map fun o=>o.after.all fun e=> !Region.binds .any e||decide (e.on<i)).getD true
theorem back_of(h:backB ops=true):∀(i:Nat) (o:Oper),ops[i]? =some o->∀e∈o.after,Region.binds .any e=true->e.on<i:=by
 intro i o b e c d;have f:i<ops.size:=(aL.1 b).1;have a:=cL.1 h i (bE.2 f);rw[b]at a;simp only[fX,jX,jw]at a;have:=a e c;simpa[d]using this
def Steps(P:Program)(ops:Array Oper)(Q:Exit->Act->Ub->Prop)(F:Tmp->Uc->Ub->Prop)(a0:Act)(w0:Ub):List Oper->Prop
 |[]=>True
 |o::l=>Step P ops Q F a0 w0 o/\Steps P ops Q F a0 w0 l
theorem steps_of{F:Tmp->Uc->Ub->Prop}{a0:Act}{w0:Ub}{l:List Oper}(h:Steps P ops Q F a0 w0 l)(o:Oper)(ho:o∈l):Step P ops Q F a0 w0 o:=by
 induction l with
 |nil=>cases ho
 |cons x l ih=>
  have a:Step P ops Q F a0 w0 x/\Steps P ops Q F a0 w0 l:=h;rcases aP.1 ho with e|ho
  ·rw[e];exact a.1
  exact ih a.2 ho
theorem wp_region{x:Nat}{l:List Oper}{a0:Act}{w:Ub}(y:P.follows .mixedOrders=true)(F:Tmp->Uc->Ub->Prop)
  (e:∀d v w w',aS w w'->F d v w->F d v w')(n:(dsts l.toArray).all (fun d=>decide (d<a0.tmps.size))=true)(c:backB l.toArray=true)
  (steps:Steps P l.toArray Q F a0 w.drew l)
  (done:∀(f:Tmp->Uc) (w':Ub),aS w.drew w'->(∀d∈dsts l.toArray,F d (f d) w')->Q .normal {tmps:=fill f (dsts l.toArray) a0.tmps,defers:=a0.defers} w'):
  (Code.region x l.toArray true).wp P Q a0 w:=by
 refine Jd y ?_;have m:∀i o,l.toArray[i]? =some o->Step P l.toArray Q F a0 w.drew o:=fun i o q=>steps_of steps o (by
  have:=zI q;simpa using this)
 refine wpAny_of e (fun d k=>by simpa using cL.1 n d k) (back_of c) m (fun a w' r=>?_) _ _ _ _ (by simp) ?_ ?_
 ·rw[r.shape];refine done _ _ r.grows (fun d k=>?_);unfold dsts at k;obtain⟨o,q,t⟩:=eE.1 k;obtain⟨j,s⟩:=pP q;have g:l.toArray[j]? =some o:=by simpa using s
  have b:j<l.toArray.size:=(aL.1 g).1;exact r.new j o d g (by simp only[au,cw,aj b];rfl) t
 ·refine⟨aS.refl _,rfl,rfl,fun _ _=>rfl,fun j oj d s u=>?_⟩;have b:j<l.toArray.size:=(aL.1 s).1;simp only[au,cw,aj b]at u;cases u
 have:=kO (p:=fun i=> !(Array.replicate l.toArray.size false).getD i true) (l:=List.range l.toArray.size);simpa using this
end Any
theorem Cr(a:Addr)(n:Nat):(a.add n).block=a.block:=by unfold Addr.add;split<;>rfl
def bh(w:Ub)(B size:Nat)(A:Option Addr)(n:Nat)(xs:List Uc):Prop:=
 xs.length=n*size/\(0<n->∃a,A=some a/\a.block<B/\∀j u,xs[j]? =some u->w.cell? (a.add j)=some u)
section
variable {w w':Ub} {B B' size n:Nat} {A:Option Addr} {xs:List Uc}
theorem bh.none_:bh w B size A 0 []:=⟨by simp,fun h=>absurd h (by omega)⟩
theorem bh.keep(h:bh w B size A n xs)(b:∀p:Addr,p.block<B->w'.cell? p=w.cell? p):bh w' B size A n xs:=
 ⟨h.1,fun f=>by
   obtain⟨i,e,a,d⟩:=h.2 f;exact⟨i,e,a,fun j u c=>(b _ (by rw[Cr];exact a)).trans (d j u c)⟩⟩
theorem bh.more(h:bh w B size A n xs)(d:B<=B'):bh w B' size A n xs:=
 ⟨h.1,fun b=>by
   obtain⟨c,e,f,a⟩:=h.2 b;exact⟨c,e,by omega,a⟩⟩
theorem bh.below(h:bh w B size A n xs)(b:Below B w w'):bh w' B size A n xs:=h.keep fun _ a=>b.cell a
theorem bh.drew(h:bh w B size A n xs):bh w.drew B size A n xs:=h
theorem bh.alloc(h:bh w B size A n xs)(b:B<=w.heap.size)(o:Obj):bh (w.alloc o) B size A n xs:=h.keep fun p a=>cz w o p (by omega)
theorem bh.Sp{base:Nat}{e:TypeId}{c:Nat}(h:w.ownsRow base e size (T0 A n c) n xs):bh w w.heap.size size A n xs:=by
 refine⟨h.1,fun d=>?_⟩;obtain⟨g,cap,hv,_,a⟩:=h.form d;have b:A=some ⟨g,0,none⟩:=by injection hv
 subst b;exact⟨_,rfl,a,h.cells (g:=g) rfl⟩
end
def bK(w:Ub)(g:Nat)(t:TypeId)(cs:Array Uc):Prop:=w.heap[g]? =some (Ua cs t (0,0))
section
variable {w w':Ub} {g:Nat} {t:TypeId} {cs:Array Uc}
theorem bK.lt(h:bK w g t cs):g<w.heap.size:=by
 rcases dB g w.heap.size with a|hge
 ·exact a
 unfold bK at h;rw[gD hge]at h;cases h
theorem bK.cell(h:bK w g t cs)(i:Nat):w.cell? ⟨g,i,none⟩=cs[i]? :=Dt w g i cs t (0,0) h
theorem bK.frozen(h:bK w g t cs)(i:Nat):w.frozen? ⟨g,i,none⟩=false:=by
 unfold bK at h;simp[World.frozen?,h]
theorem bK.new(w:Ub)(t:TypeId)(cs:Array Uc):bK (w.alloc (Ua cs t)) w.heap.size t cs:=cq w _
theorem bK.drew(h:bK w g t cs):bK w.drew g t cs:=h
theorem bK.alloc(h:bK w g t cs)(o:Obj):bK (w.alloc o) g t cs:=(iN w o g h.lt).trans h
theorem bK.set_(h:bK w g t cs)(i:Nat)(u:Uc):bK (w.setCell ⟨g,i,none⟩ u) g t (cs.setIfInBounds i u):=by
 unfold bK at h⊢;simp[World.setCell,oI,h]
theorem bK.far(h:bK w g t cs){p:Addr}(a:g≠p.block)(u:Uc):bK (w.setCell p u) g t cs:=(cK w p u g a).trans h
theorem bK.below{B:Nat}(h:bK w g t cs)(b:Below B w w')(a:g<B):bK w' g t cs:=(b.block g a).trans h
theorem bK.grown{row:Option Nat}(h:bK w g t cs)(b:w.grownBy w' row)(a:some g≠row):bK w' g t cs:=(b.block g h.lt a).trans h
theorem bK.TR{e:Nat}{d:TypeId}{c:Array Uc}(h:bK w g t cs)(a:bK w e d c)(b:t≠d):g≠e:=by
 rintro rfl;unfold bK at h a;rw[h]at a;injection a with a
 injection a with _ f;exact b f
theorem cY{base:Nat}{e:TypeId}{size n:Nat}{v:Uc}{xs:List Uc}(h:w.ownsRow base e size v n xs)(f:bK w g t cs)(a:e≠t):v.ownBlock≠some g:=by
 rcases h.2 with⟨rfl,_⟩|⟨i,cap,b,rfl,_,d,_⟩
 ·simp[Value.ownBlock]
 intro c;have:i=g:=by simpa[Value.ownBlock]using c
 subst this;exact bK.TR (t:=e) d f a rfl
end
section
variable {P:Program} (w:Ub)
theorem tO(base:Nat)(t ty e:TypeId)(i:TypeInfo)(size:Nat)(d:P.underlying t=some (.slice e))(f:P.info? e=some i)
  (v:Uc)(n:Nat)(xs:List Uc)(a:w.ownsRow base e size v n xs)(c:Nat):(Builtin.append_ #[t,t] ty #[v,T0 none 0 c]).run P w=.ok v w:=by
 rcases a.2 with⟨rfl,rfl⟩|⟨g,cap,j,rfl,_,_,b,_⟩
 ·simp[Builtin.append_,cJ d,sizeOf,typeInfo,f,Builtin.lenOf,Builtin.firstCells]
 simp[Builtin.append_,cJ d,sizeOf,typeInfo,f,Builtin.lenOf,Builtin.firstCells,b,storeCells]
theorem xO(base:Nat)(t ty e:TypeId)(i:TypeInfo)(z:Uc)(size bytes:Nat)(y:P.underlying t=some (.slice e))(D:P.info? e=some i)(H:i.zero=some z)
  (f:i.size=size)(r:i.bytes=bytes)(x:z.cells.size=size)(q:0<size)
  (v:Uc)(n:Nat)(xs:List Uc)(a:w.ownsRow base e size v n xs)
  (B:Nat)(A:Option Addr)(m c:Nat)(news:List Uc)(o:bh w B size A m news)(F:∀u∈news,u.oneCell'=true)
  (p:n+m<=maxLen)(d:(n+m)*bytes<=140737488355328)(k:base<=w.heap.size):
  ∃v' w',(Builtin.append_ #[t,t] ty #[v,T0 A m c]).run P w=.ok v' w'/\w'.ownsRow base e size v' (n+m) (xs++news)/\w.grownBy w' v.ownBlock/\
   (v'.ownBlock=v.ownBlock\/v'.ownBlock=some w.heap.size):=by
 rcases A with _|ad
 ·have M:m=0:=by
    rcases fG m with h0|h0
    ·exact h0
    obtain⟨ad,h,_⟩:=o.2 h0;cases h
  subst M;have s:news=[]:=cI (by simpa using o.1);subst s;exact⟨v,w,tO w base t ty e i size y D v n xs a c,by simpa using a,cj w _,.inl rfl⟩
 have b:∀j u,news[j]? =some u->w.cell? (ad.add j)=some u:=by
  intro j u C;rcases fG m with h0|h0
  ·subst h0;have s:news=[]:=cI (by simpa using o.1);subst s;simp at C
  obtain⟨J,h,_,N⟩:=o.2 h0;injection h with h
  subst h;exact N j u C
 obtain⟨v',w',l,E,L,_,G⟩:=run_append_own_at (P:=P) w base t ty e i z size bytes y D H f r x q v n xs a ad m c news o.1 b F p d k;exact⟨v',w',l,E,L,G⟩
theorem fO{o:Oper}{a:Act}{K:Act->Ub->Prop}{Q:Exit->Act->Ub->Prop}(s x:Operand)(t:TypeId)
  (G:o.op=.call {callee:=.builtin .append,args:=#[s,x],argTypes:=#[t,t]})
  (base:Nat)(e:TypeId)(i:TypeInfo)(z:Uc)(size bytes:Nat)(C:P.underlying t=some (.slice e))(M:P.info? e=some i)(F:i.zero=some z)
  (d:i.size=size)(q:i.bytes=bytes)(r:z.cells.size=size)(p:0<size)
  (v:Uc)(n:Nat)(xs:List Uc)(L:a.eval s=v)(j:w.ownsRow base e size v n xs)
  (B:Nat)(A:Option Addr)(m c:Nat)(news:List Uc)(N:a.eval x=T0 A m c)(H:bh w B size A m news)(E:∀u∈news,u.oneCell'=true)
  (l:n+m<=maxLen)(b:(n+m)*bytes<=140737488355328)(f:base<=w.heap.size)
  (h:∀v' w',w'.ownsRow base e size v' (n+m) (xs++news)->w.grownBy w' v.ownBlock->(v'.ownBlock=v.ownBlock\/v'.ownBlock=some w.heap.size)->K (a.put o.dst v') w'):o.wp P a w K Q:=by
 obtain⟨v',w',k,y,J,D⟩:=xO (P:=P) w base t o.type e i z size bytes C M F d q r p v n xs j B A m c news H E l b f;unfold Oper.wp execOp;simp only[G,resolve,invoke,builtin,aY,jF,bd,aQ,aJ,a8,L,N,k];exact h v' w' y J D
theorem cU{k:Array Oper}{rest:List Oper}{o:Oper}{a:Act}{Q:Exit->Act->Ub->Prop}(l:o.guard=none)(s x:Operand)(t:TypeId)
  (J:o.op=.call {callee:=.builtin .append,args:=#[s,x],argTypes:=#[t,t]})
  (base:Nat)(e:TypeId)(i:TypeInfo)(z:Uc)(size bytes:Nat)(D:P.underlying t=some (.slice e))(O:P.info? e=some i)(H:i.zero=some z)
  (d:i.size=size)(r:i.bytes=bytes)(y:z.cells.size=size)(q:0<size)
  (v:Uc)(n:Nat)(xs:List Uc)(N:a.eval s=v)(j:w.ownsRow base e size v n xs)
  (B:Nat)(A:Option Addr)(m c:Nat)(news:List Uc)(R:a.eval x=T0 A m c)(L:bh w B size A m news)(F:∀u∈news,u.oneCell'=true)
  (p:n+m<=maxLen)(b:(n+m)*bytes<=140737488355328)(f:base<=w.heap.size)
  (h:∀v' w',w'.ownsRow base e size v' (n+m) (xs++news)->w.grownBy w' v.ownBlock->(v'.ownBlock=v.ownBlock\/v'.ownBlock=some w.heap.size)->wpList P k Q rest (a.put o.dst v') w'):wpList P k Q (o::rest) a w:=
 jG l fun _ G=>fO w s x t J base e i z size bytes D O H d r y q v n xs N j B A m c news R L F p b f fun v' w' C M E=>G _ _ (h v' w' C M E)
theorem wL{k:Array Oper}{o:Oper}{a:Act}{K:Act->Ub->Prop}{Q:Exit->Act->Ub->Prop}{E:Prop}(l:o.guard=none)(s x:Operand)(t:TypeId)
  (H:o.op=.call {callee:=.builtin .append,args:=#[s,x],argTypes:=#[t,t]})
  (base:Nat)(e:TypeId)(i:TypeInfo)(z:Uc)(size bytes:Nat)(C:P.underlying t=some (.slice e))(M:P.info? e=some i)(F:i.zero=some z)
  (d:i.size=size)(r:i.bytes=bytes)(y:z.cells.size=size)(q:0<size)
  (v:Uc)(n:Nat)(xs:List Uc)(L:a.eval s=v)(j:w.ownsRow base e size v n xs)
  (B:Nat)(A:Option Addr)(m c:Nat)(news:List Uc)(N:a.eval x=T0 A m c)(J:bh w B size A m news)(D:∀u∈news,u.oneCell'=true)
  (p:n+m<=maxLen)(b:(n+m)*bytes<=140737488355328)(f:base<=w.heap.size)
  (h:∀v' w',w'.ownsRow base e size v' (n+m) (xs++news)->w.grownBy w' v.ownBlock->(v'.ownBlock=v.ownBlock\/v'.ownBlock=some w.heap.size)->K (a.put o.dst v') w'):
  if Region.wanted o (yielded k a.tmps)=true then Oper.wp P o a w K Q else E:=by
 have G:Region.wanted o (yielded k a.tmps)=true:=by simp[Region.wanted,l]
 rw[aj G];exact fO w s x t H base e i z size bytes C M F d r y q v n xs L j B A m c news N J D p b f h
end
end
end Go.Proofs.YtfammloeljmplaaGreatDoor
