/- Plain laws of policies, rules and plans; conditions: each lemma's own. -/
import Derived.Test.YtfammloeljmplaaGreatDoorZA
import Init
namespace Go.Proofs.YtfammloeljmplaaGreatDoor
set_option maxRecDepth 100000
set_option maxHeartbeats 8000000
set_option linter.unusedVariables false
set_option linter.unusedSimpArgs false
section
structure Cd where
 arg:Int
 op:Int
 mask:Nat
 val:Nat
 deriving DecidableEq,Inhabited
structure Rl where
 name:ByteArray
 kind:Int
 num:Int
 conds:List Cd
 deriving Inhabited
structure Po where
 kind:Int
 num:Int
 x32:Bool
 rules:List Rl
 deriving Inhabited
structure Rw where
 name:ByteArray
 nums:List Int
 mux:Int
 sub:Int
 deriving Inhabited
structure Rc where
 number:Nat
 arch:Nat
 ptr:Nat
 args:List Nat
 deriving Inhabited
def eC:Nat:=18446744073709551615
structure Cd.Ok(c:Cd):Prop where
 mask:c.mask<=eC
 val:c.val<=eC
def ee(c:Cd)(x:Nat):Bool:=
 if c.op=1 then decide (x=c.val)else if c.op=2 then !decide (x=c.val)else if c.op=3 then decide (x<c.val)
 else if c.op=4 then !decide (c.val<x)else if c.op=5 then decide (c.val<x)else if c.op=6 then !decide (x<c.val)else decide (x&&&c.mask=c.val)
def fS(c:Cd):Bool:=decide (0<=c.arg/\c.arg<=5/\1<=c.op/\c.op<=7/\(c.op=7\/c.mask=0))
def oO(k:Int):Int:=if k=4 then 4095 else if k=6 then 65535 else 0
def eT(k n:Int):Bool:=decide (1<=k/\k<=8/\0<=n/\n<=oO k)
def baseA(k:Int):Nat:=
 if k=1 then 2147483648 else if k=3 then 196608 else if k=4 then 327680 else if k=5 then 2143289344 else if k=6 then 2146435072 else if k=7 then 2147221504 else if k=8 then 2147418112 else 0
def codeA(k n:Int):Nat:=baseA k+n.toNat
def ma(arch number:Nat):Option Nat:=
 if arch=1073741827 then some 2 else if arch=3221225655 then some 3 else if arch=3221225715 then some 4
 else if arch=3221225534 then(if number≠4294967295/\number / 1073741824 % 2=1 then some 1 else some 0)else none
def ownN(a number:Nat):Nat:=if a=1/\number / 1073741824 % 2=1 then number - 1073741824 else number
def argN(a n:Nat):Nat:=if a=2 then n % 4294967296 else n
def x6(l:List Rw)(a:Nat)(n:Int):Option Nat:=l.findIdx? fun r=>decide (r.nums.getD a (-1)=n)
def qs(l:List Rw)(m s:Int):Option Nat:=l.findIdx? fun r=>decide (r.mux=m/\r.sub=s)
def lB(l:List Rw)(r:Rc)(a:Nat):Option Nat×Bool:=
 if a=2/\r.number=102 then(qs l 1 (r.args.getD 0 0 % 4294967296:Nat),true)
 else if a=2/\r.number=117 then(qs l 2 (r.args.getD 0 0 % 4294967296:Nat),true)
 else(x6 l a (ownN a r.number:Nat),false)
def uQ(a:Nat)(args:List Nat)(l:List Cd):Bool:=l.all fun c=>ee c (argN a (args.getD c.arg.toNat 0))
def fC(p:Po)(name:ByteArray)(a:Nat)(args:List Nat):Int×Int:=
 match p.rules.find? fun r=>decide (r.name=name)&&uQ a args r.conds with
 |some r=>(r.kind,r.num)
 |none=>(p.kind,p.num)
def ig(p:Po)(name:ByteArray):Int×Int:=
 match p.rules.find? fun r=>decide (r.name=name)with
 |some r=>if r.conds=[]then(r.kind,r.num)else(p.kind,p.num)
 |none=>(p.kind,p.num)
def judgeP(p:Po)(l:List Rw)(r:Rc):Nat:=
 match ma r.arch r.number with
 |none=>2147483648
 |some a=>
  if a=1/\p.x32=false then 2147483648
  else match lB l r a with
   |(none,_)=>codeA p.kind p.num
   |(some i,true)=>codeA (ig p (l.getD i default).name).1 (ig p (l.getD i default).name).2
   |(some i,false)=>codeA (fC p (l.getD i default).name a r.args).1 (fC p (l.getD i default).name a r.args).2
inductive Nf where
 |asks (c:Cd)
 |always
 |never
 deriving DecidableEq
def iJ(c:Cd)(v:Nat):Nf:=if v=0 then .never else if v=1 then .asks ⟨c.arg,1,0,0⟩else .asks ⟨c.arg,3,0,v⟩
def j8(c:Cd)(v:Nat):Nf:=if v=0 then .always else if v=eC then .asks ⟨c.arg,1,0,v⟩else .asks ⟨c.arg,6,0,v⟩
def AX(c:Cd):Nf:=if c.val|||c.mask≠c.mask then .never else if c.mask=0 then .always else if c.mask=eC then .asks ⟨c.arg,1,0,c.val⟩else .asks c
def gd(c:Cd):Nf:=
 if fS c=false then .never
 else if c.op=1\/c.op=2 then .asks c
 else if c.op=3 then iJ c c.val
 else if c.op=4 then(if c.val=eC then .always else iJ c (c.val+1))
 else if c.op=5 then(if c.val=eC then .never else j8 c (c.val+1))
 else if c.op=6 then j8 c c.val
 else AX c
def dT(f:Cd->Nf):List Cd->Option (List Cd)
 |[]=>some []
 |c::t=>match f c with
  | .never=>none
  | .always=>dT f t
  | .asks n=>(dT f t).map (n::·)
def fT(a b:Int):Int:=if a<b then -1 else if b<a then 1 else 0
def tS(a b:Cd):Int:=
 if fT a.arg b.arg≠0 then fT a.arg b.arg else if fT a.op b.op≠0 then fT a.op b.op
 else if fT a.mask b.mask≠0 then fT a.mask b.mask else fT a.val b.val
def dE:List Cd->List Cd
 |[]=>[]
 |[a]=>[a]
 |a::b::t=>if a=b then dE (b::t)else a::dE (b::t)
def j9(l:List Cd):List Cd:=l.mergeSort fun x y=> !decide (tS y x<0)
def iT(r:Rl):Option Rl:=(dT gd r.conds).map fun l=>{r with conds:=dE (j9 l)}
def mE(g:List Rl)(n:Rl):Bool:=g.any fun x=>x.conds.isEmpty||decide (x.conds=n.conds)
def mr(g:List Rl)(r:Rl):List Rl:=match iT r with
 |none=>g
 |some n=>if mE g n then g else g++[n]
def cN(rs:List Rl)(k:ByteArray):List Rl:=(rs.filter fun r=>decide (r.name=k)).foldl mr []
def lD{α:Type}(f:α->Bool)(l:List α):List α:=(l.reverse.dropWhile f).reverse
def fU(p:Po)(g:List Rl):List Rl:=lD (fun r=>decide (r.kind=p.kind/\r.num=p.num)) g
structure PR where
 conds:List Cd
 code:Nat
 deriving Inhabited
structure PE where
 number:Nat
 rules:List PR
 deriving Inhabited
structure PS where
 number:Nat
 code:Nat
 deriving Inhabited
structure Pl where
 dflt:Nat
 x32:Bool
 entries:List (List PE)
 subs:List (List PS)
 deriving Inhabited
def gq(c:Cd):Nf:=
 if 4294967295<c.val/\(c.op=2\/c.op=3)then .always
 else if 4294967295<c.val then .never
 else if c.op≠7 then .asks c
 else if c.mask % 4294967296=0 then .always
 else .asks {c with mask:=c.mask % 4294967296}
def gG(r:PR):Option PR:=(dT gq r.conds).map fun l=>⟨l,r.code⟩
def gR(a:Nat):List PR->List PR
 |[]=>[]
 |r::t=>match(if a=2 then gG r else some r)with
  |none=>gR a t
  |some n=>if n.conds=[]then[n]else n::gR a t
def jZ(a:Nat)(l:List PR)(code:Nat):List PR:=lD (fun r=>decide (r.code=code)) (gR a l)
def mF(r:Rl):PR:=⟨r.conds,codeA r.kind r.num⟩
def wholeN(a b:Nat):Nat:=if a=1 then b+1073741824 else b
def gS(l:List Rw)(k:ByteArray):Rw:=(l.find? fun r=>decide (r.name=k)).getD default
def gH(p:Po)(l:List Rw)(a:Nat)(k:ByteArray):List PE:=
 if(gS l k).nums.getD a (-1)<0\/(a=1/\p.x32=false)then[]
 else if jZ a ((fU p (cN p.rules k)).map mF) (codeA p.kind p.num)=[]then[]
 else[⟨wholeN a ((gS l k).nums.getD a (-1)).toNat,jZ a ((fU p (cN p.rules k)).map mF) (codeA p.kind p.num)⟩]
def lV(p:Po)(l:List Rw)(m:Nat)(k:ByteArray):List PS:=
 if(gS l k).mux=(m:Int)+1 then[⟨(gS l k).sub.toNat,(((fU p (cN p.rules k)).map mF).getD 0 default).code⟩]else[]
structure sK(p:Po)(l:List Rw)(pl:Pl):Prop where
 dflt:pl.dflt=codeA p.kind p.num
 x32:pl.x32=p.x32
 elen:pl.entries.length=5
 slen:pl.subs.length=2
 names:∃ks:List ByteArray,ks.Nodup/\(∀k,k∈ks↔fU p (cN p.rules k)≠[])/\
  (∀a,a<5->(pl.entries.getD a []).Perm (ks.flatMap (gH p l a)))/\(∀m,m<2->(pl.subs.getD m []).Perm (ks.flatMap (lV p l m)))
 erise:∀a,a<5->(pl.entries.getD a []).Pairwise fun x y=>x.number<y.number
 srise:∀m,m<2->(pl.subs.getD m []).Pairwise fun x y=>x.number<y.number
def kK(h:Cd->Bool)(l:List PR)(d:Nat):Nat:=match l.find? fun r=>r.conds.all h with
 |some r=>r.code
 |none=>d
def eO(a:Nat)(args:List Nat)(c:Cd):Bool:=ee c (argN a (args.getD c.arg.toNat 0))
def qt(b:Pl)(r:Rc)(a:Nat):Nat:=
 match(b.entries.getD a []).find? fun e=>decide (e.number=r.number)with
 |some e=>kK (eO a r.args) e.rules b.dflt
 |none=>b.dflt
def vQ(a:Pl)(m s:Nat):Nat:=match(a.subs.getD m []).find? fun e=>decide (e.number=s)with
 |some e=>e.code
 |none=>a.dflt
def qu(b:Pl)(r:Rc):Nat:=
 match ma r.arch r.number with
 |none=>2147483648
 |some a=>
  if a=1/\b.x32=false then 2147483648
  else if a=2/\r.number=102 then vQ b 0 (r.args.getD 0 0 % 4294967296)
  else if a=2/\r.number=117 then vQ b 1 (r.args.getD 0 0 % 4294967296)
  else qt b r a
structure tT(l:List Rw):Prop where
 five:∀r∈l,r.nums.length=5
 lo:∀r∈l,∀a,a<5-> -1<=r.nums.getD a (-1)
 hi:∀r∈l,∀a,a<5->r.nums.getD a (-1)<=1073741823
 mux:∀r∈l,(r.mux=0/\r.sub=0)\/((r.mux=1\/r.mux=2)/\1<=r.sub/\r.sub<=255)
 own:∀r∈l,r.nums.getD 2 (-1)≠102/\r.nums.getD 2 (-1)≠117
 names:∀i j,i<l.length->j<l.length->(l.getD i default).name=(l.getD j default).name->i=j
 nums:∀i j a,i<l.length->j<l.length->a<5->0<=(l.getD i default).nums.getD a (-1)->(l.getD i default).nums.getD a (-1)=(l.getD j default).nums.getD a (-1)->i=j
 subs:∀i j,i<l.length->j<l.length->(l.getD i default).mux≠0->(l.getD i default).mux=(l.getD j default).mux->(l.getD i default).sub=(l.getD j default).sub->i=j
structure AY(p:Po)(l:List Rw):Prop where
 act:eT p.kind p.num=true
 acts:∀r∈p.rules,eT r.kind r.num=true
 conds:∀r∈p.rules,∀c∈r.conds,fS c=true/\c.Ok
 named:∀r∈p.rules,∃x∈l,x.name=r.name
 blind:∀r∈p.rules,0<(gS l r.name).mux->r.conds=[]
structure uO(c:Cd):Prop where
 arg:0<=c.arg/\c.arg<=5
 op:((c.op=1\/c.op=2\/c.op=3\/c.op=6)/\c.mask=0)\/(c.op=7/\c.val|||c.mask=c.mask)
 ok:c.Ok
def MS(h:Cd->Bool)(c:Cd):Nf->Prop
 | .asks n=>h n=h c
 | .always=>h c=true
 | .never=>h c=false
theorem Km{x v m:Nat}(h:v|||m≠m):¬x&&&m=v:=by
 intro e;apply h;rw[<-e];apply iy;intro i;simp[r9,mB]
theorem MT{x:Nat}(h:x<=eC):x&&&eC=x:=by
 have e:eC=2 ^ 64 - 1:=rfl;rw[e,Ml];exact Mm (by unfold eC at h;omega)
theorem Cs{c:Cd}(z:fS c=true)(B:c.Ok)(h:Cd->Bool)(x:Nat)(A:x<=eC)(y:∀n:Cd,n.arg=c.arg->h n=ee n x):MS h c (gd c):=by
 have d:=z;unfold fS at d;simp only[aV]at d;obtain⟨D,F,C,G,E⟩:=d;have hv:=B.val;have e0:=y c rfl;have a:∀o m v,h ⟨c.arg,o,m,v⟩=ee ⟨c.arg,o,m,v⟩ x:=fun _ _ _=>y _ rfl
 have H:eC=18446744073709551615:=rfl;unfold gd;rw[af (by rw[z];simp)];by_cases u:c.op=1\/c.op=2
 ·rw[aj u];rfl
 rw[af u];by_cases i:c.op=3
 ·rw[aj i];unfold iJ;by_cases v0:c.val=0
  ·rw[aj v0];show h c=false;rw[e0];unfold ee;simp[i,v0]
  rw[af v0];by_cases v1:c.val=1
  ·rw[aj v1];show h _=h c;rw[e0,a];unfold ee;simp[i,v1]
  rw[af v1];show h _=h c;rw[e0,a];unfold ee;simp[i]
 rw[af i];by_cases j:c.op=4
 ·rw[aj j];by_cases e:c.val=eC
  ·rw[aj e];show h c=true;rw[e0];unfold ee;simp[j,e];omega
  rw[af e];unfold iJ;rw[af (by omega)];by_cases v1:c.val+1=1
  ·rw[aj v1];show h _=h c;rw[e0,a];unfold ee;simp[j,show c.val=0 by omega];rw[aZ];simp
  rw[af v1];show h _=h c;rw[e0,a];unfold ee;simp[j];rw[aZ];simp;omega
 rw[af j];by_cases g:c.op=5
 ·rw[aj g];by_cases e:c.val=eC
  ·rw[aj e];show h c=false;rw[e0];unfold ee;simp[g,e];omega
  rw[af e];unfold j8;rw[af (by omega)];by_cases v1:c.val+1=eC
  ·rw[aj v1];show h _=h c;rw[e0,a];unfold ee;simp[g];omega
  rw[af v1];show h _=h c;rw[e0,a];unfold ee;simp[g];rw[aZ];simp;omega
 rw[af g];by_cases f:c.op=6
 ·rw[aj f];unfold j8;by_cases v0:c.val=0
  ·rw[aj v0];show h c=true;rw[e0];unfold ee;simp[f,v0]
  rw[af v0];by_cases v1:c.val=eC
  ·rw[aj v1];show h _=h c;rw[e0,a];unfold ee;simp[f,v1];rw[aZ];simp;omega
  rw[af v1];show h _=h c;rw[e0,a];unfold ee;simp[f]
 rw[af f];have s:c.op=7:=by omega
 unfold AX;by_cases b:c.val|||c.mask≠c.mask
 ·rw[aj b];show h c=false;rw[e0];unfold ee;simp[s];exact Km b
 rw[af b];have q:c.val|||c.mask=c.mask:=by omega
 by_cases k:c.mask=0
 ·rw[aj k];show h c=true;rw[e0];unfold ee;rw[k]at q;simp at q;simp[s,k,q]
 rw[af k];by_cases t:c.mask=eC
 ·rw[aj t];show h _=h c;rw[e0,a];unfold ee;simp[s,t,MT A]
 rw[af t];rfl
theorem GB{c n:Cd}(i:c.Ok)(e:gd c=.asks n):uO n/\n.arg=c.arg:=by
 by_cases g:fS c=false
 ·unfold gd at e;rw[aj g]at e;cases e
 have a:fS c=true:=by simpa using g
 unfold fS at a;simp only[aV]at a;obtain⟨d,f,q,t,s⟩:=a;have hv:=i.val;have u:eC=18446744073709551615:=rfl;unfold gd at e;rw[af g]at e;by_cases j:c.op=1\/c.op=2
 ·rw[aj j]at e;injection e with e;subst e
  exact⟨⟨⟨d,f⟩,.inl ⟨by omega,by omega⟩,i⟩,rfl⟩
 rw[af j]at e;have mk:∀(o:Int) (v:Nat),(o=1\/o=2\/o=3\/o=6)->v<=eC->uO ⟨c.arg,o,0,v⟩:=fun o v m hv=>⟨⟨d,f⟩,.inl ⟨m,rfl⟩,⟨iS _,hv⟩⟩
 have under:∀v,v<=eC->iJ c v=.asks n->uO n/\n.arg=c.arg:=fun v hv e=>by
  unfold iJ at e;split at e
  ·cases e
  split at e<;>(injection e with e;subst e)
  ·exact⟨mk 1 0 (by omega) (by omega),rfl⟩
  exact⟨mk 3 v (by omega) hv,rfl⟩
 have over:∀v,v<=eC->j8 c v=.asks n->uO n/\n.arg=c.arg:=fun v hv e=>by
  unfold j8 at e;split at e
  ·cases e
  split at e<;>(injection e with e;subst e)
  ·exact⟨mk 1 v (by omega) hv,rfl⟩
  exact⟨mk 6 v (by omega) hv,rfl⟩
 split at e
 ·exact under _ hv e
 split at e
 ·split at e
  ·cases e
  exact under _ (by omega) e
 split at e
 ·split at e
  ·cases e
  exact over _ (by omega) e
 split at e
 ·exact over _ hv e
 have k:c.op=7:=by omega
 unfold AX at e;split at e
 ·cases e
 rename_i b;split at e
 ·cases e
 split at e<;>(injection e with e;subst e)
 ·exact⟨mk 1 c.val (by omega) hv,rfl⟩
 exact⟨⟨⟨d,f⟩,.inr ⟨k,by omega⟩,i⟩,rfl⟩
theorem zS{c:Cd}(t:uO c)(h:Cd->Bool)(x:Nat)(z:x<4294967296)(s:∀n:Cd,n.arg=c.arg->h n=ee n x):MS h c (gq c):=by
 have e0:=s c rfl;have y:∀o m v,h ⟨c.arg,o,m,v⟩=ee ⟨c.arg,o,m,v⟩ x:=fun _ _ _=>s _ rfl
 unfold gq;by_cases f:4294967295<c.val/\(c.op=2\/c.op=3)
 ·rw[aj f];show h c=true;rw[e0];unfold ee
  rcases f with⟨g,o|o⟩<;>simp[o]<;>omega
 rw[af f];by_cases k:4294967295<c.val
 ·rw[aj k];show h c=false;rw[e0];unfold ee
  rcases t.op with⟨o|o|o|o,_⟩|⟨o,_⟩
  ·simp[o];omega
  ·omega
  ·omega
  ·simp[o];omega
  simp[o];have:=xu (n:=x) (m:=c.mask);omega
 rw[af k];by_cases o:c.op≠7
 ·rw[aj o];rfl
 rw[af o];have q:c.op=7:=by omega
 have u:c.val|||c.mask=c.mask:=by
  rcases t.op with ⟨_ | _ | _ | _, _⟩ | ⟨_, b⟩ <;> first | omega | exact b
 have key:x&&&(c.mask % 4294967296)=x&&&c.mask:=by
  apply iy
  intro i;rw[mB,mB,show(4294967296:Nat)=2 ^ 32 from rfl,mV];by_cases a:i<32
  ·simp[a]
  have:x.testBit i=false:=nT (bn (show x<2 ^ 32 from z) (gk (by omega) (Mn a)));simp[this]
 by_cases d:c.mask % 4294967296=0
 ·rw[aj d];show h c=true;rw[e0];unfold ee
  simp[q];rw[<-key,d,Nat.and_zero];have hv:c.val % 4294967296=0:=by
   apply iy
   intro i;have e:(c.mask % 2 ^ 32).testBit i=false:=by rw[show(2 ^ 32:Nat)=4294967296 from rfl,d];simp
   rw[mV]at e;rw[show(4294967296:Nat)=2 ^ 32 from rfl,mV];by_cases a:i<32
   ·simp[a]at e⊢;have j:=eQ (fun n=>Nat.testBit n i) u;simp[e]at j;exact j
   simp[a]
  omega
 rw[af d];show h _=h c;rw[e0,y];unfold ee;simp[q,key]
theorem DW{c n:Cd}(a:uO c)(e:gq c=.asks n):uO n/\n.arg=c.arg/\n.val<4294967296/\n.mask<4294967296:=by
 unfold gq at e;split at e
 ·cases e
 split at e
 ·cases e
 rename_i k;split at e
 ·rename_i o;injection e with e;subst e
  refine⟨a,rfl,by omega,?_⟩;rcases a.op with⟨_,m⟩|⟨g,_⟩
  ·omega
  exact absurd g o
 rename_i o;have j:c.val|||c.mask=c.mask:=by
  rcases a.op with ⟨_ | _ | _ | _, _⟩ | ⟨_, b⟩ <;> first | omega | exact b
 split at e
 ·cases e
 injection e with e;subst e;refine⟨⟨a.arg,.inr ⟨by show c.op=7;omega,?_⟩,⟨?_,a.ok.val⟩⟩,rfl,by show c.val<_;omega,by show c.mask % _<_;omega⟩
 ·show c.val|||c.mask % 4294967296=c.mask % 4294967296
  apply iy
  intro i;rw[r9,show(4294967296:Nat)=2 ^ 32 from rfl,mV];have f:=eQ (fun n=>Nat.testBit n i) j;simp only[r9]at f;by_cases d:i<32
  ·simp[d];simpa using f
  have:c.val.testBit i=false:=nT (bn (show c.val<2 ^ 32 by have:(2:Nat) ^ 32=4294967296:=rfl;omega) (gk (by omega) (Mn d)));simp[this,d]
 show c.mask % 4294967296<=eC
 have:=a.ok.mask;omega
theorem qo{f:Cd->Nf}{h:Cd->Bool}:∀{l:List Cd},(∀c∈l,MS h c (f c))->match dT f l with|some k=>k.all h=l.all h|none=>l.all h=false
 |[],_=>rfl
 |c::t,g=>by
  have a:=g c (by simp);have b:=qo (l:=t) fun x j=>g x (by simp[j])
  unfold dT;cases e:f c with
  |never=>rw[e]at a;simp only;rw[fg,show h c=false from a];rfl
  |always=>rw[e]at a;simp only;rw[fg,show h c=true from a,il];exact b
  |asks n=>
   rw[e]at a;simp only;have d:h n=h c:=a;cases e2:dT f t with
   |none=>rw[e2]at b;simp only[OR];rw[fg,show t.all h=false from b,P7]
   |some i=>rw[e2]at b;simp only[fX];rw[fg,fg,d,show i.all h=t.all h from b]
theorem rr{f:Cd->Nf}:∀{l b:List Cd},dT f l=some b->∀n∈b,∃c∈l,f c=.asks n
 |[],b,e,n,hn=>by unfold dT at e;injection e with e;subst e;simp at hn
 |c::t,b,e,n,hn=>by
  unfold dT at e;cases a:f c with
  |never=>rw[a]at e;cases e
  |always=>
   rw[a]at e;obtain⟨x,g,d⟩:=rr e n hn;exact⟨x,by simp[g],d⟩
  |asks m=>
   rw[a]at e;simp only at e;cases e2:dT f t with
   |none=>rw[e2]at e;cases e
   |some i=>
    rw[e2]at e;simp only[fX]at e;injection e with e
    subst e;rcases aP.1 hn with rfl|hn
    ·exact⟨c,by simp,a⟩
    obtain⟨x,g,d⟩:=rr e2 n hn;exact⟨x,by simp[g],d⟩
theorem mD{x:Cd}:∀{l:List Cd},x∈dE l↔x∈l
 |[]=>by unfold dE;exact Iff.rfl
 |[a]=>by unfold dE;exact Iff.rfl
 |a::b::t=>by
  unfold dE;by_cases e:a=b
  ·rw[aj e,mD];subst e;simp
  rw[af e,aP,mD,<-aP]
theorem AT{x:Cd}{l:List Cd}:x∈j9 l↔x∈l:=(gK l _).mem_iff
theorem zT{α:Type}{l c:List α}(h:∀x,x∈l↔x∈c)(f:α->Bool):l.all f=c.all f:=by
 rw[aZ,cL,cL];exact⟨fun a x b=>a x ((h x).2 b),fun a x b=>a x ((h x).1 b)⟩
theorem MU(l:List Cd)(h:Cd->Bool):(dE (j9 l)).all h=l.all h:=zT (fun x=>by rw[mD,AT]) h
def Kn(r:Rl):Prop:=∀c∈r.conds,fS c=true/\c.Ok
def uP(args:List Nat):Prop:=∀n,args.getD n 0<=eC
theorem OX{args:List Nat}(h:uP args)(a n:Nat):argN a (args.getD n 0)<=eC:=by
 have:=h n;unfold argN;split
 ·exact ax (Nat.mod_le _ _) this
 exact this
theorem DX{r:Rl}(b:Kn r){args:List Nat}(ha:uP args)(a:Nat):
  match iT r with|some n=>n.conds.all (eO a args)=r.conds.all (eO a args)/\n.kind=r.kind/\n.num=r.num|none=>r.conds.all (eO a args)=false:=by
 have key:=qo (f:=gd) (h:=eO a args) (l:=r.conds) fun c d=>
  Cs (b c d).1 (b c d).2 (eO a args) (argN a (args.getD c.arg.toNat 0)) (OX ha _ _) fun n g=>by unfold eO;rw[g]
 unfold iT;cases e:dT gd r.conds with
 |none=>rw[e]at key;exact key
 |some l=>rw[e]at key;exact⟨(MU _ _).trans key,rfl,rfl⟩
theorem Ko{r n:Rl}(d:Kn r)(e:iT r=some n):(∀c∈n.conds,uO c)/\n.name=r.name:=by
 unfold iT at e;cases e2:dT gd r.conds with
 |none=>rw[e2]at e;cases e
 |some l=>
  rw[e2]at e;simp only[fX]at e;injection e with e
  subst e;refine⟨fun c f=>?_,rfl⟩;have a:c∈dE (j9 l):=f;rw[mD,AT]at a;obtain⟨x,g,b⟩:=rr e2 c a;exact(GB (d x g).2 b).1
def kJ(h:Cd->Bool)(l:List Rl)(d:Int×Int):Int×Int:=match l.find? fun r=>r.conds.all h with
 |some r=>(r.kind,r.num)
 |none=>d
theorem kW{h:Cd->Bool}{g l:List Rl}{d:Int×Int}:kJ h (g++l) d=match g.find? (fun r=>r.conds.all h)with|some r=>(r.kind,r.num)|none=>kJ h l d:=by
 unfold kJ;rw[Ja];cases g.find? (fun r=>r.conds.all h)<;>rfl
theorem xS{h:Cd->Bool}{r:Rl}{g t:List Rl}{d:Int×Int}(c:r.conds.all h=true->∃x∈g,x.conds.all h=true):kJ h (g++r::t) d=kJ h (g++t) d:=by
 rw[kW,kW];cases e:g.find? (fun r=>r.conds.all h)with
 |some x=>rfl
 |none=>
  simp only;have f:¬r.conds.all h=true:=fun b=>by
   obtain⟨x,i,a⟩:=c b;exact dQ.1 e x i a
  unfold kJ;rw[kh (p:=fun r:Rl=>r.conds.all h) f]
theorem xT{args:List Nat}(ha:uP args)(a:Nat)(d:Int×Int):∀(rs g:List Rl),(∀r∈rs,Kn r)->kJ (eO a args) (rs.foldl mr g) d=kJ (eO a args) (g++rs) d
 |[],g,_=>by simp
 |r::t,g,j=>by
  have b:=DX (j r (by simp)) ha a;rw[bC,xT ha a d t (mr g r) fun x i=>j x (by simp[i])];unfold mr;cases e:iT r with
  |none=>
   rw[e]at b;have f:r.conds.all (eO a args)=false:=b;exact(xS fun c=>by rw[f]at c;cases c).symm
  |some n=>
   rw[e]at b;obtain⟨b,k,m⟩:=b;simp only;by_cases hb:mE g n=true
   ·rw[aj hb];refine(xS fun c=>?_).symm;unfold mE at hb;obtain⟨x,i,hb⟩:=vE.1 hb;refine⟨x,i,?_⟩;rcases Bool.or_eq_true_iff.1 hb with hb|hb
    ·rw[List.isEmpty_iff.1 hb];rfl
    rw[aN hb,b];exact c
   rw[af hb,dz,kW (g:=g) (l:=[n]++t),kW (g:=g) (l:=r::t)];cases g.find? (fun r=>r.conds.all (eO a args))with
   |some x=>rfl
   |none=>
    simp only[dA,dc];unfold kJ;rw[cG,cG,b];cases r.conds.all (eO a args)with
    |true=>simp only;rw[k,m]
    |false=>rfl
theorem iA{α:Type}{f:α->Bool}{l:List α}{x:α}(h:x∈lD f l):x∈l:=by
 unfold lD at h;rw[Mo]at h;exact Mo.1 ((List.dropWhile_sublist f).subset h)
theorem qp{α:Type}(f:α->Bool)(l:List α):∃t,l=lD f l++t/\∀x∈t,f x=true:=by
 refine⟨(l.reverse.takeWhile f).reverse,?_,fun x a=>?_⟩
 ·unfold lD;rw[<-Sa,List.takeWhile_append_dropWhile,List.reverse_reverse]
 rw[Mo]at a;exact cL.1 (List.all_takeWhile (p:=f) (l:=l.reverse)) x a
theorem GC{h:Cd->Bool}(f:Rl->Bool)(d:Int×Int)(a:∀r,f r=true->(r.kind,r.num)=d)(l:List Rl):kJ h (lD f l) d=kJ h l d:=by
 obtain⟨t,e,ht⟩:=qp f l;conv=>rhs;rw[e]
 rw[kW];have e2:kJ h t d=d:=by
  unfold kJ;cases b:t.find? fun r=>r.conds.all h with
  |none=>rfl
  |some x=>exact a x (ht x (dj b))
 rw[e2];unfold kJ;rfl
theorem GD{h:Cd->Bool}(f:PR->Bool)(d:Nat)(a:∀r,f r=true->r.code=d)(l:List PR):kK h (lD f l) d=kK h l d:=by
 obtain⟨t,e,ht⟩:=qp f l;conv=>rhs;rw[e]
 unfold kK;rw[Ja];cases (lD f l).find? (fun r=>r.conds.all h)with
 |some x=>rfl
 |none=>
  simp only[Option.none_or];cases b:t.find? fun r=>r.conds.all h with
  |none=>rfl
  |some x=>exact(a x (ht x (dj b))).symm
theorem AU{h:Cd->Bool}(d:Int×Int)(l:List Rl):kK h (l.map mF) (codeA d.1 d.2)=codeA (kJ h l d).1 (kJ h l d).2:=by
 unfold kK kJ;rw[List.find?_map];have:((fun r:PR=>r.conds.all h)∘mF)=fun r:Rl=>r.conds.all h:=rfl
 rw[this];cases l.find? (fun r=>r.conds.all h)<;>rfl
theorem vO(p:Po)(k:ByteArray)(a:Nat)(args:List Nat)(ha:uP args)(hp:∀r∈p.rules,Kn r):fC p k a args=kJ (eO a args) (fU p (cN p.rules k)) (p.kind,p.num):=by
 unfold fU;rw[GC _ _ (fun r b=>by have:=aN b;rw[this.1,this.2])];unfold cN;rw[xT ha a _ _ [] fun r b=>hp r (gO.1 b).1,dc];unfold fC kJ;rw[List.find?_filter];have e:(fun r:Rl=>decide (r.name=k)&&uQ a args r.conds)=fun r=>decide (decide (r.name=k)=true/\r.conds.all (eO a args)=true):=by
  funext x
  rw[aZ];simp[uQ,eO]
 rw[e]
theorem vP(a:Nat){args:List Nat}(d:Nat):∀(l:List PR),(∀r∈l,∀c∈r.conds,uO c)->kK (eO a args) (gR a l) d=kK (eO a args) l d
 |[],_=>rfl
 |r::t,k=>by
  have ih:=vP a (args:=args) d t fun x o=>k x (by simp[o])
  have key:match(if a=2 then gG r else some r)with|some n=>n.conds.all (eO a args)=r.conds.all (eO a args)/\n.code=r.code|none=>r.conds.all (eO a args)=false:=by
   by_cases j:a=2
   ·rw[aj j];have b:=qo (f:=gq) (h:=eO a args) (l:=r.conds) fun c g=>
     zS (k r (by simp) c g) (eO a args) (argN a (args.getD c.arg.toNat 0)) (by unfold argN;rw[aj j];exact ly _ (by omega)) fun n q=>by unfold eO;rw[q]
    unfold gG;cases e:dT gq r.conds with
    |none=>rw[e]at b;exact b
    |some l=>rw[e]at b;exact⟨b,rfl⟩
   rw[af j];exact⟨rfl,rfl⟩
  unfold gR;cases e:(if a=2 then gG r else some r)with
  |none=>
   rw[e]at key;have i:r.conds.all (eO a args)=false:=key;simp only;rw[ih];unfold kK;rw[kh (p:=fun r:PR=>r.conds.all (eO a args)) (by rw[i];simp)]
  |some n=>
   rw[e]at key;obtain⟨b,m⟩:=key;simp only;by_cases g:n.conds=[]
   ·rw[aj g];have:r.conds.all (eO a args)=true:=by rw[<-b,g];rfl
    unfold kK;rw[ki (p:=fun r:PR=>r.conds.all (eO a args)) (by rw[g];rfl),ki (p:=fun r:PR=>r.conds.all (eO a args)) this];exact m
   rw[af g];unfold kK at ih⊢;rw[cG,cG,b];cases r.conds.all (eO a args)with
   |true=>exact m
   |false=>exact ih
theorem xU(a:Nat){args:List Nat}(d:Nat)(l:List PR)(b:∀r∈l,∀c∈r.conds,uO c):kK (eO a args) (jZ a l d) d=kK (eO a args) l d:=by
 unfold jZ;rw[GD _ _ fun r e=>aN e];exact vP a d l b
theorem xV(a:Nat):∀{l:List PR},(∀r∈l,∀c∈r.conds,uO c)->∀r∈gR a l,∀c∈r.conds,uO c/\(a=2->c.val<4294967296/\c.mask<4294967296)
 |[],_,r,hr=>by unfold gR at hr;simp at hr
 |x::t,d,r,hr=>by
  have ih:=xV a (l:=t) fun y f=>d y (by simp[f])
  have key:∀n,(if a=2 then gG x else some x)=some n->∀c∈n.conds,uO c/\(a=2->c.val<4294967296/\c.mask<4294967296):=fun n e c g=>by
   by_cases b:a=2
   ·rw[aj b]at e;unfold gG at e;cases e2:dT gq x.conds with
    |none=>rw[e2]at e;cases e
    |some l=>
     rw[e2]at e;simp only[fX]at e;injection e with e
     subst e;obtain⟨y,f,i⟩:=rr e2 c g;have:=DW (d x (by simp) y f) i;exact⟨this.1,fun _=>this.2.2⟩
   rw[af b]at e;injection e with e
   subst e;exact⟨d x (by simp) c g,fun h=>absurd h b⟩
  unfold gR at hr;cases e:(if a=2 then gG x else some x)with
  |none=>rw[e]at hr;exact ih r hr
  |some n=>
   rw[e]at hr;simp only at hr;split at hr
   ·rw[bz]at hr;subst hr;exact key _ e
   rcases aP.1 hr with rfl|hr
   ·exact key _ e
   exact ih r hr
theorem Kp(a:Nat){l:List PR}(d:Nat)(b:∀r∈l,∀c∈r.conds,uO c):∀r∈jZ a l d,∀c∈r.conds,uO c/\(a=2->c.val<4294967296/\c.mask<4294967296):=
 fun r e=>xV a b r (iA e)
theorem Kq{g:List Rl}{r x:Rl}(h:x∈mr g r):x∈g\/iT r=some x:=by
 unfold mr at h;cases e:iT r with
 |none=>rw[e]at h;exact .inl h
 |some n=>
  rw[e]at h;simp only at h;split at h
  ·exact .inl h
  rcases bT.1 h with h|h
  ·exact .inl h
  rw[bz]at h;subst h;exact .inr rfl
theorem xW:∀(rs g:List Rl) {x:Rl},x∈rs.foldl mr g->x∈g\/∃r∈rs,iT r=some x
 |[],g,x,h=>.inl h
 |r::t,g,x,h=>by
  rcases xW t (mr g r) h with h|⟨y,a,e⟩
  ·rcases Kq h with h|e
   ·exact .inl h
   exact .inr ⟨r,by simp,e⟩
  exact .inr ⟨y,by simp[a],e⟩
theorem iI{rs:List Rl}{k:ByteArray}{x:Rl}(h:x∈cN rs k):∃r∈rs,r.name=k/\iT r=some x:=by
 rcases xW _ _ h with h|⟨r,a,e⟩
 ·simp at h
 have:=gO.1 a;exact⟨r,this.1,aN this.2,e⟩
theorem tQ{p:Po}(hp:∀r∈p.rules,Kn r)(k:ByteArray):∀r∈(fU p (cN p.rules k)).map mF,∀c∈r.conds,uO c:=fun r b c d=>by
 obtain⟨x,f,rfl⟩:=bt.1 b;obtain⟨y,a,_,e⟩:=iI (iA f);exact(Ko (hp y a) e).1 c d
theorem GF{l:List Rw}{x:Rw}(h:x∈l):∃i,i<l.length/\l.getD i default=x:=by
 obtain⟨i,a,e⟩:=fj h;exact⟨i,a,by rw[aa,ah a];exact e⟩
theorem qq{l:List Rw}{i:Nat}(h:i<l.length):l.getD i default∈l:=by
 rw[aa,ah h];exact bj h
theorem pe{l:List Rw}(ht:tT l){i:Nat}(b:i<l.length):gS l (l.getD i default).name=l.getD i default:=by
 unfold gS;cases e:l.find? fun r=>decide (r.name=(l.getD i default).name)with
 |none=>exact absurd (bM rfl) (dQ.1 e _ (qq b))
 |some x=>
  obtain⟨j,c,a⟩:=GF (dj e);have:=kE e;rw[<-a]at this;rw[jX,<-a,ht.names j i c b (aN this)]
theorem js{l:List Rw}(ht:tT l){k:ByteArray}(h:∃x∈l,x.name=k):∃i,i<l.length/\gS l k=l.getD i default/\(l.getD i default).name=k:=by
 obtain⟨x,b,rfl⟩:=h;obtain⟨i,a,rfl⟩:=GF b;exact⟨i,a,pe ht a,rfl⟩
theorem kX{l:List Rw}{f:Rw->Bool}{i:Nat}(h:l.findIdx? f=some i):i<l.length/\f (l.getD i default)=true:=by
 obtain⟨a,b,_⟩:=jm.1 h;refine⟨a,?_⟩;rw[aa,ah a];exact b
theorem tR{l:List Rw}{f:Rw->Bool}(h:l.findIdx? f=none){i:Nat}(a:i<l.length):f (l.getD i default)=false:=lR.1 h _ (qq a)
theorem AV{α:Type}(a:α->Nat){l:List α}(h:l.Pairwise fun x y=>a x<a y){e:α}(he:e∈l):(l.find? fun x=>decide (a x=a e))=some e:=by
 induction h with
 |nil=>simp at he
 |@cons x t b ht ih=>
  rw[cG];rcases aP.1 he with rfl|he
  ·simp
  have:¬a x=a e:=by have:=b e he;omega
  simp only[aK this];exact ih he
theorem xX(k:ByteArray)(args:List Nat):∀rs:List Rl,(∀r∈rs,r.name=k->r.conds=[])->(rs.find? fun r=>decide (r.name=k))=rs.find? fun r=>decide (r.name=k)&&uQ 0 args r.conds
 |[],_=>rfl
 |x::t,h=>by
  rw[cG,cG,xX k args t fun y b=>h y (by simp[b])];by_cases a:x.name=k
  ·have:=h x (by simp) a;simp[a,this,uQ]
  simp[a]
section
variable {p:Po} {l:List Rw} {pl:Pl} (ht:tT l) (hp:AY p l) (hpl:sK p l pl) (r:Rc) (ha:uP r.args)
include ht hp hpl ha
theorem AW:∀r∈p.rules,Kn r:=by
 have _:=ht;have _:=hpl;have _:=ha;exact fun r a c b=>hp.conds r a c b
theorem xY{k:ByteArray}(h:fU p (cN p.rules k)≠[]):∃x∈l,x.name=k:=by
 have _:=ht;have _:=hpl;have _:=ha;obtain⟨x,t,e⟩:=fD h;obtain⟨y,b,c,_⟩:=iI (iA (show x∈fU p (cN p.rules k)by rw[e];simp));obtain⟨z,d,a⟩:=hp.named y b;exact⟨z,d,a.trans c⟩
theorem DY{a:Nat}(d:a<5)(u:¬(a=1/\p.x32=false))(H:a=1->r.number / 1073741824 % 2=1):
  qt pl r a=match x6 l a (ownN a r.number:Nat)with|none=>codeA p.kind p.num|some i=>codeA (fC p (l.getD i default).name a r.args).1 (fC p (l.getD i default).name a r.args).2:=by
 obtain⟨C,N,s,m,_⟩:=hpl.names;have c:=m a d;have E:=hpl.erise a d;have o:=AW ht hp hpl r ha;have key:∀e∈pl.entries.getD a [],e.number=r.number->∃j,j<l.length/\(l.getD j default).nums.getD a (-1)=((ownN a r.number:Nat):Int)/\(l.getD j default).name∈C/\
   e.rules=jZ a ((fU p (cN p.rules (l.getD j default).name)).map mF) (codeA p.kind p.num):=fun e T v=>by
  obtain⟨k,z,b⟩:=db.1 (c.mem_iff.1 T);obtain⟨j,q,M,rfl⟩:=js ht (xY ht hp hpl r ha ((s k).1 z));unfold gH at b;rw[M]at b;split at b
  ·simp at b
  rename_i L;split at b
  ·simp at b
  rw[bz]at b;subst b;have F:=ht.hi _ (qq q) a d;refine⟨j,q,?_,z,rfl⟩;have n:wholeN a ((l.getD j default).nums.getD a (-1)).toNat=r.number:=v;have U:0<=(l.getD j default).nums.getD a (-1):=by
   rcases Je ((l.getD j default).nums.getD a (-1)) 0 with h|h
   ·exact absurd (.inl h) L
   exact h
  unfold wholeN at n;unfold ownN;by_cases a1:a=1
  ·rw[aj a1]at n;rw[aj ⟨a1,H a1⟩];omega
  rw[af a1]at n;rw[af (fun h=>a1 h.1)];omega
 unfold qt;cases e:x6 l a (ownN a r.number:Nat)with
 |none=>
  simp only;have g:(pl.entries.getD a []).find? (fun e=>decide (e.number=r.number))=none:=by
   apply dQ.2
   intro x u v;obtain⟨j,q,f,_⟩:=key x u (aN v);have:=tR e q;rw[dh]at this;exact this f
  rw[g];exact hpl.dflt
 |some i=>
  obtain⟨F,f⟩:=kX e;have f:=aN f;simp only;have z:∀e∈pl.entries.getD a [],e.number=r.number->(l.getD i default).name∈C/\e.rules=jZ a ((fU p (cN p.rules (l.getD i default).name)).map mF) (codeA p.kind p.num):=fun x u v=>by
   obtain⟨j,q,J,O,D⟩:=key x u v;have:i=j:=ht.nums i j a F q d (by rw[f];omega) (by rw[f,J]);subst this;exact⟨O,D⟩
  rw[vO p _ a r.args ha o];cases A:(pl.entries.getD a []).find? (fun e=>decide (e.number=r.number))with
  |some x=>
   have S:=kE A;obtain⟨_,D⟩:=z x (dj A) (aN S);simp only;rw[D,hpl.dflt,xU a _ _ (tQ o _)];exact AU (p.kind,p.num) _
  |none=>
   simp only;have g:=dQ.1 A;have R:jZ a ((fU p (cN p.rules (l.getD i default).name)).map mF) (codeA p.kind p.num)=[]:=by
    by_cases t:(l.getD i default).name∈C
    ·apply lQ
     intro B;have y:(⟨wholeN a ((l.getD i default).nums.getD a (-1)).toNat,jZ a ((fU p (cN p.rules (l.getD i default).name)).map mF) (codeA p.kind p.num)⟩:PE)∈pl.entries.getD a []:=by
      refine c.mem_iff.2 (db.2 ⟨_,t,?_⟩);unfold gH;rw[pe ht F,af (by rw[f];exact fun h=>h.elim (fun h=>by omega) u),af B];simp
     refine g _ y (bM ?_);show wholeN a ((l.getD i default).nums.getD a (-1)).toNat=r.number
     rw[f];unfold wholeN ownN;by_cases a1:a=1
     ·have:=H a1;rw[aj a1,aj ⟨a1,this⟩];omega
     rw[af a1,af (fun h=>a1 h.1)];omega
    have:fU p (cN p.rules (l.getD i default).name)=[]:=by
     apply lQ
     intro h;exact t ((s _).2 h)
    rw[this];rfl
   have G:=xU a (args:=r.args) (codeA p.kind p.num) _ (tQ o (l.getD i default).name);rw[R,AU (p.kind,p.num)]at G;rw[hpl.dflt,<-G];rfl
theorem GG{i:Nat}(m:i<l.length)(o:0<(l.getD i default).mux):
  ig p (l.getD i default).name=match fU p (cN p.rules (l.getD i default).name)with|[]=>(p.kind,p.num)|x::_=>(x.kind,x.num):=by
 have b:=AW ht hp hpl r ha;have d:∀r∈p.rules,r.name=(l.getD i default).name->r.conds=[]:=fun r k c=>hp.blind r k (by rw[c,pe ht m];exact o)
 have g:=vO p (l.getD i default).name 0 r.args ha b;have f:ig p (l.getD i default).name=fC p (l.getD i default).name 0 r.args:=by
  unfold ig fC;have this:=xX (l.getD i default).name r.args;rw[<-this p.rules d];cases e:p.rules.find? fun r=>decide (r.name=(l.getD i default).name)with
  |none=>rfl
  |some x=>
   simp only;have q:=kE e;rw[aj (d x (dj e) (aN q))]
 rw[f,g];cases e:fU p (cN p.rules (l.getD i default).name)with
 |nil=>rfl
 |cons x t=>
  obtain⟨y,j,c,a⟩:=iI (iA (show x∈fU p (cN p.rules (l.getD i default).name)by rw[e];simp));have n:x.conds=[]:=by
   unfold iT at a;rw[d y j c]at a;simp only[dT,fX]at a;injection a with a
   rw[<-a];simp[j9,dE]
  unfold kJ;rw[ki (by rw[n];rfl)]
theorem xZ{m s:Nat}(L:m<2):
  vQ pl m s=match qs l ((m:Int)+1) (s:Nat)with|none=>codeA p.kind p.num|some i=>codeA (ig p (l.getD i default).name).1 (ig p (l.getD i default).name).2:=by
 obtain⟨z,S,d,_,f⟩:=hpl.names;have b:=f m L;have B:=hpl.srise m L;have key:∀e∈pl.subs.getD m [],e.number=s->∃j,j<l.length/\(l.getD j default).mux=(m:Int)+1/\(l.getD j default).sub=(s:Int)/\(l.getD j default).name∈z/\
   e.code=(((fU p (cN p.rules (l.getD j default).name)).map mF).getD 0 default).code:=fun e U o=>by
  obtain⟨k,q,a⟩:=db.1 (b.mem_iff.1 U);obtain⟨j,g,N,rfl⟩:=js ht (xY ht hp hpl r ha ((d k).1 q));unfold lV at a;rw[N]at a;split at a
  ·rename_i M;rw[bz]at a;subst a;have O:(l.getD j default).sub.toNat=s:=o;have:=ht.mux _ (qq g);exact⟨j,g,M,by omega,q,rfl⟩
  simp at a
 unfold vQ;cases e:qs l ((m:Int)+1) (s:Nat)with
 |none=>
  simp only;have c:(pl.subs.getD m []).find? (fun e=>decide (e.number=s))=none:=by
   apply dQ.2
   intro x H o;obtain⟨j,g,n,J,_⟩:=key x H (aN o);have:=tR e g;rw[dh]at this;exact this ⟨n,J⟩
  rw[c];exact hpl.dflt
 |some i=>
  obtain⟨G,n⟩:=kX e;obtain⟨n,E⟩:=aN n;simp only;rw[GG ht hp hpl r ha G (by omega)];have q:∀e∈pl.subs.getD m [],e.number=s->(l.getD i default).name∈z/\e.code=(((fU p (cN p.rules (l.getD i default).name)).map mF).getD 0 default).code:=fun x H o=>by
   obtain⟨j,g,J,R,F,A⟩:=key x H o;have:i=j:=ht.subs i j G g (by omega) (by omega) (by omega);subst this;exact⟨F,A⟩
  cases u:(pl.subs.getD m []).find? (fun e=>decide (e.number=s))with
  |some x=>
   have T:=kE u;obtain⟨F,A⟩:=q x (dj u) (aN T);simp only;rw[A];have v:=(d _).1 F;cases C:fU p (cN p.rules (l.getD i default).name)with
   |nil=>exact absurd C v
   |cons y t=>rfl
  |none=>
   simp only;have c:=dQ.1 u;cases C:fU p (cN p.rules (l.getD i default).name)with
   |nil=>exact hpl.dflt
   |cons y t=>
    exfalso;have D:(l.getD i default).name∈z:=(d _).2 (by rw[C];simp);refine c ⟨(l.getD i default).sub.toNat,(((fU p (cN p.rules (l.getD i default).name)).map mF).getD 0 default).code⟩ (b.mem_iff.2 (db.2 ⟨_,D,?_⟩)) (bM ?_)
    ·unfold lV;rw[pe ht G,aj n];simp
    show(l.getD i default).sub.toNat=s
    rw[E];omega
theorem GH:qu pl r=judgeP p l r:=by
 unfold qu judgeP;cases e:ma r.arch r.number with
 |none=>rfl
 |some a=>
  simp only;have b:a<5/\(a=1->r.number / 1073741824 % 2=1):=by
   unfold ma at e;repeat' (split at e)
   all_goals first|(cases e;done)|(injection e with e;omega)
  rw[hpl.x32];by_cases c:a=1/\p.x32=false
  ·rw[aj c,aj c]
  rw[af c,af c];unfold lB;by_cases f:a=2/\r.number=102
  ·rw[aj f,aj f];have:=xZ ht hp hpl r ha (m:=0) (s:=r.args.getD 0 0 % 4294967296) (by omega);rw[this];show(match qs l 1 _ with|none=>_|some i=>_)=_
   cases qs l 1 ((r.args.getD 0 0 % 4294967296:Nat):Int)<;>rfl
  rw[af f,af f];by_cases d:a=2/\r.number=117
  ·rw[aj d,aj d];have:=xZ ht hp hpl r ha (m:=1) (s:=r.args.getD 0 0 % 4294967296) (by omega);rw[this];show(match qs l 2 _ with|none=>_|some i=>_)=_
   cases qs l 2 ((r.args.getD 0 0 % 4294967296:Nat):Int)<;>rfl
  rw[af d,af d,DY ht hp hpl r ha b.1 c b.2];cases x6 l a (ownN a r.number:Nat)<;>rfl
end
def eR(p:Po)(k:ByteArray):List Rl:=fU p (cN p.rules k)
structure yE(p:Po)(ks:List ByteArray):Prop where
 nodup:ks.Nodup
 all:∀k,k∈ks↔eR p k≠[]
theorem Ha{p:Po}{k:ByteArray}{x:Rl}(h:x∈eR p k):x.name=k:=by
 obtain⟨r,b,a,e⟩:=iI (iA h);unfold iT at e;cases e2:dT gd r.conds with
 |none=>rw[e2]at e;cases e
 |some q=>rw[e2]at e;injection e with e;subst e;exact a
theorem qF{α β:Type}(f:α->List β)(q:α->Bool)(h:∀a,q a=false->f a=[]):∀l:List α,(l.filter q).flatMap f=l.flatMap f
 |[]=>rfl
 |a::t=>by
  rw[fe];cases e:q a with
  |true=>simp only[lN,cB,qF f q h t]
  |false=>simp only[cB,h a e,dc];exact qF f q h t
theorem Nz{p:Po}{a:List ByteArray}(c:a.Nodup)(h:∀k,cN p.rules k≠[]->k∈a):∃ks,yE p ks/\ks.flatMap (eR p)=a.flatMap (eR p):=by
 refine⟨a.filter fun k=> !(eR p k).isEmpty,⟨c.filter _,fun k=>?_⟩,qF _ _ (fun k e=>by simpa using e) _⟩;rw[gO];constructor
 ·intro b;simpa using b.2
 intro b;refine⟨h k fun e=>b ?_,by simpa using b⟩;unfold eR fU lD;rw[e];rfl
theorem me{α:Type}(c:α->Nat){l:List α}(h:l.Pairwise fun x y=>c x<=c y)(d:(l.map c).Nodup):l.Pairwise fun x y=>c x<c y:=by
 rw[List.Nodup,fQ]at d;exact(h.and d).imp fun⟨a,b⟩=>by omega
theorem qG{α β:Type}(c:β->Nat)(f:α->List β)(r:∀a,(f a).length<=1):∀{ks:List α},ks.Nodup->(∀a∈ks,∀b∈ks,∀x∈f a,∀y∈f b,c x=c y->a=b)->((ks.flatMap f).map c).Nodup
 |[],_,_=>by simp
 |a::t,o,h=>by
  rw[iG]at o;rw[cB,ew,jx];refine⟨?_,qG c f r o.2 fun x k y j=>h x (by simp[k]) y (by simp[j]),fun n d m i e=>?_⟩
  ·have:=r a;match e:f a with
   |[]=>simp
   |[x]=>simp
   |x::y::z=>rw[e]at this;simp at this
  subst e;obtain⟨x,k,rfl⟩:=bt.1 d;obtain⟨y,j,e⟩:=bt.1 i;obtain⟨b,q,g⟩:=db.1 j;have:=h a (by simp) b (by simp[q]) x k y g e.symm;subst this;exact o.1 q
theorem qH(p:Po)(l:List Rw)(a:Nat)(k:ByteArray):(gH p l a k).length<=1:=by
 unfold gH;split
 ·simp
 split<;>simp
theorem vd(p:Po)(l:List Rw)(m:Nat)(k:ByteArray):(lV p l m k).length<=1:=by
 unfold lV;split<;>simp
section
variable {p:Po} {l:List Rw} (ht:tT l) (hp:AY p l) {ks:List ByteArray} (hk:yE p ks)
include ht hp hk
theorem rH{k:ByteArray}(h:k∈ks):∃i,i<l.length/\gS l k=l.getD i default/\(l.getD i default).name=k:=by
 refine js ht ?_;obtain⟨x,t,e⟩:=fD ((hk.all k).1 h);have c:x∈eR p k:=by rw[e];simp
 obtain⟨r,b,d,_⟩:=iI (iA c);obtain⟨y,a,e2⟩:=hp.named r b;exact⟨y,a,e2.trans d⟩
theorem z7{a:Nat}(u:a<5):((ks.flatMap (gH p l a)).map PE.number).Nodup:=by
 refine qG PE.number _ (qH p l a) hk.nodup fun k f A d x c y b e=>?_
 obtain⟨i,s,n,o⟩:=rH ht hp hk f;obtain⟨j,t,q,v⟩:=rH ht hp hk d;unfold gH at c b;rw[n]at c;rw[q]at b;split at c
 ·simp at c
 rename_i m;split at c
 ·simp at c
 split at b
 ·simp at b
 rename_i g;split at b
 ·simp at b
 rw[bz]at c b;subst c b;have r:0<=(l.getD i default).nums.getD a (-1):=Int.not_lt.1 fun h=>m (.inl h)
 have z:0<=(l.getD j default).nums.getD a (-1):=Int.not_lt.1 fun h=>g (.inl h)
 have e2:(l.getD i default).nums.getD a (-1)=(l.getD j default).nums.getD a (-1):=by
  simp only[wholeN]at e;split at e<;>omega
 have:=ht.nums i j a s t u r e2;subst this;exact o.symm.trans v
theorem Hb{m:Nat}(z:m<2):((ks.flatMap (lV p l m)).map PS.number).Nodup:=by
 refine qG PS.number _ (vd p l m) hk.nodup fun k d v c x b y a e=>?_
 obtain⟨i,f,n,o⟩:=rH ht hp hk d;obtain⟨j,g,q,r⟩:=rH ht hp hk c;unfold lV at b a;rw[n]at b;rw[q]at a;split at b;case isFalse=>simp at b
 rename_i u;split at a;case isFalse=>simp at a
 rename_i s;rw[bz]at b a;subst b a;have e2:(l.getD i default).sub.toNat=(l.getD j default).sub.toNat:=e;have t:=ht.mux _ (qq f);have A:=ht.mux _ (qq g);have:=ht.subs i j f g (by omega) (by omega) (by omega);subst this;exact o.symm.trans r
theorem Pu(E:List (List PE))(S:List (List PS))(f:E.length=5)(g:S.length=2)
  (d:∀a,a<5->(E.getD a []).Perm (ks.flatMap (gH p l a))/\(E.getD a []).Pairwise fun x y=>x.number<=y.number)
  (e:∀m,m<2->(S.getD m []).Perm (ks.flatMap (lV p l m))/\(S.getD m []).Pairwise fun x y=>x.number<=y.number):sK p l ⟨codeA p.kind p.num,p.x32,E,S⟩ where
 dflt:=rfl
 x32:=rfl
 elen:=f
 slen:=g
 names:=⟨ks,hk.nodup,hk.all,fun a c=>(d a c).1,fun m b=>(e m b).1⟩
 erise:=fun a c=>me PE.number (d a c).2 (((d a c).1.map _).nodup_iff.2 (z7 ht hp hk c))
 srise:=fun m b=>me PS.number (e m b).2 (((e m b).1.map _).nodup_iff.2 (Hb ht hp hk b))
end
theorem ou(rs:List Rl)(r:Rl)(k:ByteArray):cN (rs++[r]) k=if r.name=k then mr (cN rs k) r else cN rs k:=by
 unfold cN;rw[r7,tC];by_cases h:r.name=k
 ·rw[aj h,fe,aj (bM h)];rfl
 rw[af h,fe,af (by simpa using h)];rfl
theorem Iu{α:Type}(f:α->Bool)(l:List α)(x:α):lD f (l++[x])=if f x=true then lD f l else l++[x]:=by
 unfold lD;rw[Sa];show((x::l.reverse).dropWhile f).reverse=_
 rw[List.dropWhile_cons];by_cases h:f x=true
 ·rw[aj h,aj h]
 rw[af h,af h];simp
theorem lK{α:Type}[Inhabited α](l:List α)(m:Nat)(h:m<l.length):l.take (m+1)=l.take m++[l.getD m default]:=by
 rw[dy h,aa,ah h];rfl
theorem zm{α:Type}[Inhabited α](f:α->Bool)(l:List α)(m:Nat)(h:m<l.length):lD f (l.take (m+1))=if f (l.getD m default)=true then lD f (l.take m)else l.take (m+1):=by
 rw[lK l m h,Iu]
def rZ(g:ByteArray->List Rl)(a:List ByteArray)(j:Nat):Nat:=((a.take j).flatMap g).length
theorem LO(g:ByteArray->List Rl)(a:List ByteArray)(j:Nat)(h:j<a.length):rZ g a (j+1)=rZ g a j+(g (a.getD j default)).length:=by
 unfold rZ;rw[lK a j h,bX,bw];simp
theorem Fo(g:ByteArray->List Rl)(a:List ByteArray):rZ g a a.length=(a.flatMap g).length:=by
 unfold rZ;rw[iW]
theorem C3(g:ByteArray->List Rl)(a:List ByteArray)(j:Nat)(h:j<a.length)(t:Nat)(d:t<(g (a.getD j default)).length):
  rZ g a j+t<(a.flatMap g).length/\(a.flatMap g).getD (rZ g a j+t) default=(g (a.getD j default)).getD t default:=by
 have e:a.flatMap g=(a.take j).flatMap g++(g (a.getD j default)++(a.drop (j+1)).flatMap g):=by
  have c:a=a.take j++(a.getD j default::a.drop (j+1)):=by
   rw[aa,ah h];show a=a.take j++(a[j]::a.drop (j+1))
   rw[<-dm h,fl]
  have b:=eQ (fun l=>l.flatMap g) c;rw[bX,cB]at b;exact b
 rw[e];unfold rZ;refine⟨by simp only[bw];omega,?_⟩;rw[aa,bY (by omega),Nat.add_sub_cancel_left,bU d];simp only[aa]
theorem BY{p:Po}{a:List ByteArray}(c:yE p a){j t:Nat}(h:j<a.length)(b:t<(eR p (a.getD j default)).length):
  ((a.flatMap (eR p)).getD (rZ (eR p) a j+t) default).name=a.getD j default:=by
 rw[(C3 (eR p) a j h t b).2];refine Ha (p:=p) ?_;generalize eR p (a.getD j default)=q at*;rw[aa,ah b];exact bj _
theorem C4{p:Po}{a:List ByteArray}(b:yE p a){j:Nat}(h:j<a.length):0<(eR p (a.getD j default)).length:=by
 have:a.getD j default∈a:=by rw[aa,ah h];exact bj _
 exact fh.2 ((b.all _).1 this)
theorem LR{p:Po}{a:List ByteArray}(b:yE p a){j:Nat}(h:j+1<a.length):((a.flatMap (eR p)).getD (rZ (eR p) a (j+1)) default).name≠a.getD j default:=by
 have e:=BY b h (C4 b h);rw[cP]at e;rw[e];intro e2;have:=b.nodup;rw[List.Nodup,gP]at this;refine this j (j+1) (by omega) h (by omega) ?_;rw[aa,ah h,aa,ah (show j<a.length by omega)]at e2;exact e2.symm
theorem zi(f:Cd->Nf)(c:Cd):∀l:List Cd,dT f (l++[c])=match dT f l with
  |none=>none
  |some acc=>match f c with
   | .never=>none
   | .always=>some acc
   | .asks n=>some (acc++[n])
 |[]=>by
  show(match f c with| .never=>none| .always=>dT f []| .asks n=>(dT f []).map (n::·))=_
  cases f c<;>rfl
 |x::t=>by
  have ih:=zi f c t;show(match f x with| .never=>none| .always=>dT f (t++[c])| .asks n=>(dT f (t++[c])).map (n::·))=match(match f x with| .never=>none| .always=>dT f t| .asks n=>(dT f t).map (n::·))with
   |none=>none
   |some acc=>_
  rw[ih];cases f x with
  |never=>rfl
  |always=>rfl
  |asks m=>
   cases dT f t with
   |none=>rfl
   |some acc=>cases f c<;>rfl
theorem zj(f:Cd->Nf)(b:List Cd):∀a:List Cd,dT f a=none->dT f (a++b)=none
 |[],h=>by cases h
 |x::t,h=>by
  have ih:=zj f b t;show(match f x with| .never=>none| .always=>dT f (t++b)| .asks n=>(dT f (t++b)).map (n::·))=none
  have h:(match f x with| .never=>none| .always=>dT f t| .asks n=>(dT f t).map (n::·))=none:=h;cases d:f x with
  |never=>rfl
  |always=>rw[d]at h;exact ih h
  |asks m=>
   rw[d]at h;have h:(dT f t).map (m::·)=none:=h;cases c:dT f t with
   |none=>simp only[ih c];rfl
   |some q=>rw[c]at h;cases h
theorem zk(f:Cd->Nf)(l:List Cd)(k:Nat)(h:k<l.length):dT f (l.take (k+1))=match dT f (l.take k)with
  |none=>none
  |some acc=>match f (l.getD k default)with
   | .never=>none
   | .always=>some acc
   | .asks n=>some (acc++[n]):=by
 rw[lK l k h,zi]
theorem zl(f:Cd->Nf)(l:List Cd)(k:Nat)(h:dT f (l.take k)=none):dT f l=none:=by
 have:=zj f (l.drop k) _ h;rwa [fl]at this
theorem nK(f:Cd->Nf)(l:List Cd)(k:Nat){acc:List Cd}(h:dT f (l.take k)=some acc):acc.length<=k:=by
 have a:∀(l m:List Cd),dT f l=some m->m.length<=l.length:=fun l=>by
  induction l with
  |nil=>intro m h;injection h with h;subst h;exact ae _
  |cons c t ih=>
   intro m h;have h:(match f c with| .never=>none| .always=>dT f t| .asks n=>(dT f t).map (n::·))=some m:=h;cases e:f c with
   |never=>rw[e]at h;cases h
   |always=>rw[e]at h;have:=ih m h;simp;omega
   |asks n=>
    rw[e]at h;have h:(dT f t).map (n::·)=some m:=h;cases e2:dT f t with
    |none=>rw[e2]at h;cases h
    |some q=>
     rw[e2]at h;injection h with h
     subst h;have:=ih q e2;simp;omega
 have:=a _ _ h;rw[bJ]at this;omega
end
end Go.Proofs.YtfammloeljmplaaGreatDoor
