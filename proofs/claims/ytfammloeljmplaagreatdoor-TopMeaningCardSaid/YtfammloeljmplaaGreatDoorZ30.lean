/- Contracts of judge and of the layout; conditions: each lemma's own. -/
import Derived.Test.YtfammloeljmplaaGreatDoorZ14
import Derived.Test.YtfammloeljmplaaGreatDoorZ26
import Derived.Test.YtfammloeljmplaaGreatDoorZ8
open Go.Value renaming int->TY,pointer->TZ,slice->T0,agg->T1,bool->T2,tuple->T4
open Go.IntKind renaming i64->T6,u32->T7,u64->T8,u16->T9
open Go.Obj renaming cells->Ua
open Go renaming World->Ub,Value->Uc
namespace Go.Proofs.YtfammloeljmplaaGreatDoor
open Go.Proofs.Tryz
set_option maxRecDepth 100000
set_option maxHeartbeats 8000000
set_option linter.unusedVariables false
set_option linter.unusedSimpArgs false
section
open Go.RowKit
def Cb(p:Rl×Uc):List Uc:=[.string p.1.name,TY T6 p.1.kind,TY T6 p.1.num,p.2]
def zw(w:Ub)(p:Rl×Uc):Prop:=∃A c,p.2=T0 A p.1.conds.length c/\fB w 162 4 A p.1.conds.length (cR p.1.conds)
def jk(w:Ub)(B:Nat)(v:Uc)(L:List (Rl×Uc)):Prop:=(∀p∈L,zw w p)/\w.ownsRow B 80 4 v L.length (L.flatMap Cb)
def eN(L:List (Rl×Uc)):List Rl:=L.map (·.1)
section
variable {w w':Ub} {B:Nat} {v:Uc} {L:List (Rl×Uc)}
theorem zw.keep{p:Rl×Uc}(h:zw w p)(a:aU 162 w w'):zw w' p:=by
 obtain⟨A,c,d,b⟩:=h;exact⟨A,c,d,b.keep a⟩
theorem wE{α:Type}(f:α->List Uc)(k:Nat)(a:∀x,(f x).length=k)(l:List α):(l.flatMap f).length=l.length*k:=by
 induction l with
 |nil=>simp
 |cons x t ih=>rw[cB,bw,a,ih,aM,gE];omega
theorem uF{α:Type}[Inhabited α]{size n:Nat}(e:0<size){A:Option Addr}{E:α->List Uc->Prop}(f:α×Uc->List Uc)(c:∀x,(f x).length=size){L:List (α×Uc)}(d:bh w B size A n (L.flatMap f))(g:n=L.length)(b:∀p∈L,E p.1 (f p)):eX w B size E A (L.map (·.1)):=by
 refine eX.Sy e (vss:=L.map f) (n:=n) (by rw[<-vG];exact d) (by simp) (fun k a=>?_) (by simp[g]);rw[bu]at a;have e1:(L.map f).getD k []=f L[k]:=by simp[aa,cO,ah a]
 have e2:(L.map (·.1)).getD k default=L[k].1:=by simp[aa,cO,ah a]
 rw[e1,e2];exact⟨c _,b _ (bj _)⟩
theorem jk.reads(h:jk w B v L):∃A c,v=T0 A L.length c/\eI w w.heap.size A (eN L):=by
 obtain⟨A,c,rfl,d⟩:=fB.Sp h.2;refine⟨A,c,rfl,uF (by omega) Cb (fun _=>rfl) d.reads rfl fun p b=>?_⟩;obtain⟨g,f,e,a⟩:=h.1 p b;exact⟨g,f,by unfold Cb;rw[e],a.reads⟩
end
def IJ(p:PR×Uc):List Uc:=[p.2,TY T7 p.1.code]
def FE(w:Ub)(p:PR×Uc):Prop:=∃A c,p.2=T0 A p.1.conds.length c/\fB w 162 4 A p.1.conds.length (cR p.1.conds)
def PL(w:Ub)(B:Nat)(v:Uc)(L:List (PR×Uc)):Prop:=(∀p∈L,FE w p)/\w.ownsRow B 111 2 v L.length (L.flatMap IJ)
def qc(w:Ub)(A:Option Addr)(l:List PR):Prop:=∃L:List (PR×Uc),L.map (·.1)=l/\(∀p∈L,FE w p)/\fB w 111 2 A L.length (L.flatMap IJ)
section
variable {w w':Ub} {B:Nat} {v:Uc} {A:Option Addr}
theorem FE.keep{p:PR×Uc}(h:FE w p)(a:aU 162 w w'):FE w' p:=by
 obtain⟨A,c,d,b⟩:=h;exact⟨A,c,d,b.keep a⟩
theorem qc.keep{l:List PR}(h:qc w A l)(d:aU 162 w w')(b:aU 111 w w'):qc w' A l:=by
 obtain⟨L,e,f,c⟩:=h;exact⟨L,e,fun p a=>(f p a).keep d,c.keep b⟩
theorem PL.slice{L:List (PR×Uc)}(h:PL w B v L):∃A c,v=T0 A L.length c/\qc w A (L.map (·.1)):=by
 obtain⟨A,c,rfl,a⟩:=fB.Sp h.2;exact⟨A,c,rfl,L,rfl,h.1,a⟩
theorem qc.TG{l:List PR}(h:qc w A l):Nu w w.heap.size A l:=by
 obtain⟨L,rfl,f,c⟩:=h;refine uF (by omega) IJ (fun _=>rfl) c.reads rfl fun p b=>?_
 obtain⟨g,d,e,a⟩:=f p b;exact⟨g,d,by unfold IJ;rw[e],a.reads⟩
end
def J1(p:PE×Uc):List Uc:=[TY T7 p.1.number,p.2]
def FF(w:Ub)(p:PE×Uc):Prop:=∃A c,p.2=T0 A p.1.rules.length c/\qc w A p.1.rules
def wF(w:Ub)(B:Nat)(v:Uc)(L:List (PE×Uc)):Prop:=(∀p∈L,FF w p)/\w.ownsRow B 109 2 v L.length (L.flatMap J1)
def Cc(w:Ub)(B:Nat)(v:Uc)(L:List PS):Prop:=w.ownsRow B 113 2 v L.length (L.flatMap PS.vals)
section
variable {w w':Ub} {B:Nat} {v:Uc}
theorem FF.keep{p:PE×Uc}(h:FF w p)(d:aU 162 w w')(a:aU 111 w w'):FF w' p:=by
 obtain⟨A,c,e,b⟩:=h;exact⟨A,c,e,b.keep d a⟩
theorem wF.slice{L:List (PE×Uc)}(h:wF w B v L):∃A c,v=T0 A L.length c/\PEs w w.heap.size A (L.map (·.1)):=by
 obtain⟨A,c,rfl,d⟩:=fB.Sp h.2;refine⟨A,c,rfl,uF (by omega) J1 (fun _=>rfl) d.reads rfl fun p b=>?_⟩;obtain⟨g,f,e,a⟩:=h.1 p b;exact⟨g,f,by unfold J1;rw[e],a.TG⟩
theorem Cc.slice{L:List PS}(h:Cc w B v L):∃A c,v=T0 A L.length c/\Nv w w.heap.size A L:=by
 obtain⟨A,c,rfl,b⟩:=fB.Sp h;refine⟨A,c,rfl,eX.Sy (by omega) (vss:=L.map PS.vals) (n:=L.length) (by rw[<-vG];exact b.reads) (by simp) (fun k a=>?_) rfl⟩;have e1:(L.map PS.vals).getD k []=L[k].vals:=by simp[aa,cO,ah a]
 have e2:L.getD k default=L[k]:=by simp[aa,ah a]
 rw[e1,e2];exact⟨rfl,rfl⟩
end
end
section
abbrev Jk(c:Nat):Prop:=c=0\/c=5\/c=6\/c=21\/c=32\/c=37\/c=53\/c=69\/c=84
structure o8(M:Nat)(x:It):Prop where
 m0:0<=x.mark
 m1:x.mark<=M
 code:Jk x.code
 k:x.k<4294967296
 t0:0<=x.tr
 t1:x.tr<=M
 f0:0<=x.fa
 f1:x.fa<=M
theorem o8.mono{M a:Nat}{x:It}(h:o8 M x)(b:M<=a):o8 a x:=⟨h.m0,by have:=h.m1;omega,h.code,h.k,h.t0,by have:=h.t1;omega,h.f0,by have:=h.f1;omega⟩
theorem o8.ins{M c k t f:Nat}(b:Jk c)(a:k<4294967296)(e:t<=M)(d:f<=M):o8 M (bc c k t f):=
 ⟨by show(0:Int)<=0;omega,by show(0:Int)<=M;omega,b,a,by show(0:Int)<=(t:Nat);omega,by show((t:Nat):Int)<=M;omega,by show(0:Int)<=(f:Nat);omega,by show((f:Nat):Int)<=M;omega⟩
theorem o8.Tb{M m:Nat}(h:m<=M):o8 M (du m):=
 ⟨by show(0:Int)<=(m:Nat);omega,by show((m:Nat):Int)<=M;omega,Or.inl rfl,by show 0<4294967296;omega,by show(0:Int)<=0;omega,by show(0:Int)<=M;omega,by show(0:Int)<=0;omega,by show(0:Int)<=M;omega⟩
structure iv(s:Mk):Prop where
 items:∀x∈s.l,o8 s.marks x
 le:∀c,lookM s.blocks c<=s.marks
section
variable {s:Mk}
theorem iv.put(h:iv s){xs:List It}(b:∀x∈xs,o8 s.marks x):iv (s.put xs):=
 ⟨fun x a=>by
   rcases bT.1 a with h1|h1
   ·exact h.items x h1
   exact b x h1,h.le⟩
theorem iv.one(h:iv s){c k t f:Nat}(g:Jk c)(b:k<4294967296)(e:t<=s.marks)(d:f<=s.marks):iv (s.put [bc c k t f]):=
 h.put fun x a=>by rw[bz]at a;subst a;exact o8.ins g b e d
theorem iv.here(h:iv s){m:Nat}(b:m<=s.marks):iv (s.put [du m]):=
 h.put fun x a=>by rw[bz]at a;subst a;exact o8.Tb b
theorem iv.mark(h:iv s):iv s.mark:=⟨fun x a=>(h.items x a).mono (tH _),fun c=>nU (h.le c)⟩
theorem iv.goes(h:iv s)(c:Nat):iv (s.goes c):=by
 unfold Mk.goes;by_cases a:lookM s.blocks c=0
 ·rw[aj a];refine⟨fun x b=>(h.items x b).mono (tH _),fun d=>?_⟩;show lookM (kL s.blocks c (s.marks+1)) d<=s.marks+1
  rw[lE];split
  ·exact ae _
  exact nU (h.le d)
 rw[af a];exact h
theorem iv.to(h:iv s)(c:Nat):s.to c<=(s.goes c).marks:=(h.goes c).le c
end
theorem MF(v:Nat):nV v<4294967296:=ly _ (by omega)
theorem MG{v:Nat}(h:v<=eC):q9 v<4294967296:=by
 unfold q9;unfold eC at h;omega
theorem Gf{c:Cd}(b:uO c)(wide:Bool){a d M:Nat}(j:a<=M)(l:d<=M):∀x∈jY c wide a d,o8 M x:=fun x hx=>by
 have g:=MG b.ok.val;have e:=MG b.ok.mask;have k:=MF c.val;have f:=MF c.mask;have i:hiAt c<4294967296:=by have:=b.arg;unfold hiAt;omega
 have m:loAt c<4294967296:=by have:=b.arg;unfold loAt;omega
 unfold jY mX j3 jc at hx;cases wide<;>(simp only[fE,mj,lN,dc]at hx)<;>(repeat' (split at hx))<;>
  (simp only[bT,aP,bQ,eW]at hx)<;>(rcases hx with hx|hx)<;>
  (first
    |(subst hx;exact o8.ins (by omega) (by omega) (by omega) (by omega))
    |(rcases hx with hx|hx<;>first
     |(subst hx;exact o8.ins (by omega) (by omega) (by omega) (by omega))
     |(rcases hx with hx|hx<;>(subst hx;exact o8.ins (by omega) (by omega) (by omega) (by omega)))))
theorem iv.conds(wide:Bool)(next:Nat):∀(l:List Cd) {s:Mk},iv s->next<=s.marks->(∀c∈l,uO c)->iv (gL wide next l s)
 |[],s,h,_,_=>h
 |c::t,s,h,d,a=>by
  unfold gL;refine iv.conds wide next t ((h.mark.put (Gf (a c (by simp)) wide (by show s.marks+1<=s.marks+1;omega) (by show next<=s.marks+1;omega))).here ?_) ?_ (fun x b=>a x (by simp[b]))
  ·show s.marks+1<=s.marks+1;omega
  show next<=s.marks+1;omega
theorem iv.rule(wide:Bool){r:PR}(d:r.code<4294967296)(b:∀c∈r.conds,uO c){s:Mk}(h:iv s):iv (lz wide r s):=by
 have a:=iv.conds wide (s.marks+1) r.conds h.mark (by show s.marks+1<=s.marks+1;omega) b;have e1:s.marks+1<=(gL wide (s.marks+1) r.conds s.mark).marks:=(kF wide (s.marks+1) r.conds s.mark).ext.marks;have e2:=(Step.goes (gL wide (s.marks+1) r.conds s.mark) r.code).ext.marks;unfold lz;exact((a.goes _).one (by omega) (by omega) (a.to _) (by omega)).here (by show s.marks+1<=((gL wide (s.marks+1) r.conds s.mark).goes r.code).marks;omega)
theorem iv.rules(wide:Bool)(o:Nat):∀(l:List PR),(∀r∈l,r.code<4294967296/\∀c∈r.conds,uO c)->∀{s:Mk},iv s->o<=s.marks->iv (jH wide o l s)
 |[],_,s,h,a=>h.one (by omega) (by omega) a (by omega)
 |r::t,b,s,h,a=>iv.rules wide o t (fun x d=>b x (by simp[d])) (iv.rule wide (b r (by simp)).1 (b r (by simp)).2 h) (ax a (xC wide r s).ext.marks)
theorem iv.search(o:Nat):∀(f:Nat) (l:List (Nat×Nat)) {s:Mk},iv s->o<=s.marks->(∀x∈l,x.1<4294967296/\x.2<=s.marks)->iv (cW o f l s)
 |0,_,s,h,_,_=>h
 |f+1,[],s,h,c,_=>h.one (by omega) (by omega) c (by omega)
 |f+1,[x],s,h,c,a=>h.one (by omega) (a x (by simp)).1 (a x (by simp)).2 c
 |f+1,x::y::t,s,h,c,a=>by
  unfold cW;have b:((x::y::t).getD ((x::y::t).length / 2) default).1<4294967296:=by
   have d:(x::y::t).length / 2<(x::y::t).length:=Nat.div_lt_self (by simp) (by omega);rw[aa,ah d];exact(a _ (bj _)).1
  have j:iv (s.mark.put [bc 53 ((x::y::t).getD ((x::y::t).length / 2) default).1 (s.marks+1) 0]):=h.mark.one (by omega) b (by show s.marks+1<=s.marks+1;omega) (by omega);have e1:(s.mark.put [bc 53 ((x::y::t).getD ((x::y::t).length / 2) default).1 (s.marks+1) 0]).marks=s.marks+1:=rfl;generalize s.mark.put [bc 53 ((x::y::t).getD ((x::y::t).length / 2) default).1 (s.marks+1) 0]=g at*;have i:=iv.search o f ((x::y::t).take ((x::y::t).length / 2)) j (by omega) (fun z e=>by
   have:=a z (gj e);exact⟨this.1,by omega⟩)
  have e2:=(eK o f ((x::y::t).take ((x::y::t).length / 2)) g).ext.marks;refine iv.search o f _ (i.here (by omega)) (by show o<=(cW o f _ g).marks;omega) (fun z e=>?_);have:=a z (RW e);exact⟨this.1,by show z.2<=(cW o f _ g).marks;omega⟩
theorem iv.subMarks:∀(l:List PS) {s:Mk},iv s->iv (bV l s).1
 |[],s,h=>h
 |x::t,s,h=>iv.subMarks t (h.goes x.code)
theorem vH:∀(l:List PS) {s:Mk},iv s->(∀x∈l,x.number<4294967296)->∀z∈(bV l s).2,z.1<4294967296/\z.2<=(bV l s).1.marks
 |[],s,h,_,z,hz=>by(cases hz)
 |x::t,s,h,a,z,hz=>by
  unfold bV at hz;rcases aP.1 hz with rfl|hz
  ·exact⟨a x (by simp),ax (h.to x.code) (gV t (s.goes x.code)).ext.marks⟩
  exact vH t (h.goes x.code) (fun y b=>a y (by simp[b])) z hz
theorem iv.subs(o:Nat)(l:List PS)(c:∀x∈l,x.number<4294967296){s:Mk}(h:iv s)(b:o<=s.marks):iv (kR o l s):=by
 unfold kR;have a:iv (s.put [bc 32 16 0 0]):=h.one (by omega) (by omega) (by omega) (by omega);exact iv.search o _ _ (iv.subMarks l a) (ax b (gV l (s.put [bc 32 16 0 0])).ext.marks) (vH l a c)
def dX.Is:dX->Prop
 | .rules n l=>n<4294967296/\∀r∈l,r.code<4294967296/\∀c∈r.conds,uO c
 | .subs n l=>n<4294967296/\∀x∈l,x.number<4294967296
theorem dX.Is.num{x:dX}(h:x.Is):x.number<4294967296:=by
 cases x with
 |rules n l=>exact h.1
 |subs n l=>exact h.1
theorem iv.Sw(wide:Bool)(o:Nat)(x:dX)(b:x.Is){s:Mk}(h:iv s)(a:o<=s.marks):iv (x.Sw wide o s):=by
 cases x with
 |rules n l=>exact iv.rules wide o l b.2 h a
 |subs n l=>exact iv.subs o l b.2 h a
theorem iv.marksG:∀(l:List dX) {s:Mk},iv s->iv (cM l s).1
 |[],s,h=>h
 |x::t,s,h=>iv.marksG t h.mark
theorem AI:∀(l:List dX) {s:Mk},(∀x∈l,x.Is)->∀z∈(cM l s).2,z.1<4294967296/\z.2<=(cM l s).1.marks
 |[],s,_,z,hz=>by(cases hz)
 |x::t,s,a,z,hz=>by
  unfold cM at hz;rcases aP.1 hz with rfl|hz
  ·exact⟨(a x (by simp)).num,(iZ t s.mark).ext.marks⟩
  exact AI t (fun y b=>a y (by simp[b])) z hz
theorem iv.Ti(wide:Bool)(o:Nat):∀(l:List (dX×Nat)),(∀x∈l,x.1.Is)->∀{s:Mk},iv s->o<=s.marks->(∀x∈l,x.2<=s.marks)->iv (F6 wide o l s)
 |[],_,s,h,_,_=>h
 |x::t,c,s,h,d,b=>by
  unfold F6;have e:=h.here (b x (by simp));have e1:=(mN wide o x.1 (s.put [du x.2])).ext.marks;have e2:(s.put [du x.2]).marks=s.marks:=rfl;exact iv.Ti wide o t (fun y a=>c y (by simp[a])) (iv.Sw wide o x.1 (c x (by simp)) e d) (by omega) (fun y a=>by have:=b y (by simp[a]);omega)
structure R0(pl:Pl):Prop where
 parts:∀a,∀x∈dM pl a,x.Is
section
variable {pl:Pl} (hp:R0 pl)
include hp
theorem AJ(a:Nat):∀x∈cH pl a,x.Is:=fun x b=>by
 unfold cH at b;rw[F1]at b;exact hp.parts a x b
theorem iv.calls(a:Nat){s:Mk}(h:iv s):iv (fA pl a s):=by
 unfold fA;have f:=iv.marksG (cH pl a) (h.goes pl.dflt);have b:=AI (cH pl a) (s:=s.goes pl.dflt) (AJ hp a);have e0:=h.to pl.dflt;have e1:=(iZ (cH pl a) (s.goes pl.dflt)).ext.marks;have d:=iv.search (s.to pl.dflt) ((cH pl a).length+1) _ f (by omega) b;have e2:=(eK (s.to pl.dflt) ((cH pl a).length+1) (cM (cH pl a) (s.goes pl.dflt)).2 (cM (cH pl a) (s.goes pl.dflt)).1).ext.marks;refine iv.Ti _ _ _ (fun x c=>?_) d (by omega) (fun x c=>?_)
 ·exact AJ hp a x.1 (mA (show(x.1,x.2)∈_ from c)).1
 have g:=(mA (show(x.1,x.2)∈_ from c)).2;obtain⟨z,i,e⟩:=bt.1 g;have:=(b z i).2;omega
theorem iv.Tt{s:Mk}(h:iv s):iv (nP pl s):=by
 unfold nP;simp only;have b:iv ((s.goes pl.dflt).put [bc 21 4294967295 (s.to pl.dflt) 0]):=(h.goes pl.dflt).one (by omega) (by omega) (h.to _) (by omega);generalize (s.goes pl.dflt).put [bc 21 4294967295 (s.to pl.dflt) 0]=a at*;split
 ·exact iv.calls hp 0 ((b.goes _).one (by omega) (by omega) (b.to _) (by omega))
 have c:iv (a.mark.put [bc 69 1073741824 (a.marks+1) 0]):=b.mark.one (by omega) (by omega) (by show a.marks+1<=a.marks+1;omega) (by omega);refine iv.calls hp 1 ((iv.calls hp 0 c).here ?_);exact ax (show a.marks+1<=(a.mark.put [bc 69 1073741824 (a.marks+1) 0]).marks from ae _) (eB pl 0 _).ext.marks
theorem iv.SV(a m:Nat){s:Mk}(h:iv s)(c:m<=s.marks):iv (gM pl a m s):=by
 unfold gM;simp only;have b:iv ((s.put [du m]).put [bc 32 0 0 0]):=(h.here c).one (by omega) (by omega) (by omega) (by omega);split
 ·exact iv.Tt hp b
 exact iv.calls hp a b
theorem iv.head:iv (jI pl):=by
 obtain⟨e1,e2,i,n⟩:=sL pl;rw[D5];have f:iv ⟨[bc 32 4 0 0],0,[]⟩:=⟨fun x e=>by rw[bz]at e;subst e;exact o8.ins (by omega) (by omega) (by omega) (by omega),fun c=>ae _⟩;have b:∀a (s:Mk),a<5->iv s->iv (rV a s):=fun a s m h=>by
  unfold rV;refine h.mark.one (by omega) ?_ (by show s.marks+1<=s.marks+1;omega) (by omega);unfold tokenN;repeat' split
  all_goals omega
 have d:iv Jw:=b 4 _ (by omega) (b 3 _ (by omega) (b 2 _ (by omega) (b 0 _ (by omega) f)));have g:iv xg:=(d.goes _).one (by omega) (by omega) (d.to _) (by omega);have l:4<=xg.marks:=Cv.ext.marks;have k:=e1.ext.marks;have j:=e2.ext.marks;have o:=i.ext.marks;exact iv.SV hp 4 4 (iv.SV hp 3 3 (iv.SV hp 2 2 (iv.SV hp 0 1 g (by omega)) (by omega)) (by omega)) (by omega)
theorem AK{a:List Nat}(f:∀c∈a,c<4294967296):∀x∈iH pl a,o8 (jI pl).marks x:=fun x b=>by
 have e:=iv.head hp;unfold iH at b;rcases bT.1 b with h|h
 ·exact e.items x h
 generalize jI pl=s at*;clear b;induction a with
 |nil=>cases h
 |cons c t ih=>
  unfold l7 at h;rcases aP.1 h with rfl|h
  ·exact o8.Tb (e.le c)
  rcases aP.1 h with rfl|h
  ·exact o8.ins (by omega) (f c (by simp)) (by omega) (by omega)
  exact ih (fun d g=>f d (by simp[g])) h
theorem MH{a:List Nat}(d:∀c∈a,c<4294967296)(b:(jI pl).mu<=1000000):∀x∈iH pl a,x.Ok:=fun x e=>by
 have h:=AK hp d x e;have:(jI pl).marks<=1000000:=by unfold Mk.mu at b;omega
 exact⟨⟨by have:=h.m0;omega,by have:=h.m1;omega⟩,by have:=h.code;omega,h.k,⟨by have:=h.t0;omega,by have:=h.t1;omega⟩,⟨by have:=h.f0;omega,by have:=h.f1;omega⟩⟩
end
end
section
open Go.RowKit
def lh(l:List It)(i:Nat):List (Int×Uc):=((List.range i).filter fun p=>decide ((l.getD p default).mark≠0)).map fun p=>((l.getD p default).mark,TY T6 (cnt l p:Nat))
theorem wH(l:List It)(i:Nat):lh l (i+1)=if(l.getD i default).mark≠0 then lh l i++[((l.getD i default).mark,TY T6 (cnt l i:Nat))]else lh l i:=by
 unfold lh;rw[fI,r7,ew];by_cases e:(l.getD i default).mark≠0
 ·rw[aj e];simp only[fe,aV,aj e];rfl
 rw[af e];simp only[fe,aV,af e];simp
theorem FU(a b:List (Int×Uc))(q:Int):IntMaps.look (a++b) q=match IntMaps.look a q with|some v=>some v|none=>IntMaps.look b q:=by
 unfold IntMaps.look;rw[Ja];cases a.find? fun p=>p.1==q<;>rfl
theorem tu{l:List It}{q:Int}{j:Nat}(a:pa l q j):∀i,i<=l.length->IntMaps.look (lh l i) q=if j<i then some (TY T6 (cnt l j:Nat))else none
 |0,_=>by rw[af (by omega)];rfl
 |i+1,c=>by
  have ih:=tu a i (by omega);rw[wH];by_cases e:(l.getD i default).mark≠0
  ·rw[aj e,FU,ih];by_cases e2:j<i
   ·rw[aj e2,aj (by omega)]
   rw[af e2];simp only;by_cases b:i=j
   ·subst b;rw[aj (by omega),(a.2.2 i a.2.1).2 rfl];simp[IntMaps.look]
   rw[af (by omega)];have:(l.getD i default).mark≠q:=fun h=>b ((a.2.2 i (by omega)).1 h)
   generalize (l.getD i default).mark=d at*;simp[IntMaps.look,this]
  rw[af e,ih];have:i≠j:=fun h=>e (by rw[h,(a.2.2 j a.2.1).2 rfl];exact a.1)
  by_cases e2:j<i
  ·rw[aj e2,aj (by omega)]
  rw[af e2,af (by omega)]
theorem OC{l:List It}(h:fZ l){i:Nat}(c:i<l.length)(a:(l.getD i default).mark≠0):IntMaps.look (lh l i) (l.getD i default).mark=none:=by
 have b:pa l (l.getD i default).mark i:=by
  have:=h.1 i c;unfold uK at this;rw[aj a]at this;exact this.2.1
 rw[tu b i (by omega),af (by omega)]
theorem PU{l:List It}(h:fZ l){n:Nat}(f:n<(dR l).length)(m:Int)(d:m=((dR l).getD n default).tr\/m=((dR l).getD n default).fa)(b:m≠0):IntMaps.look (lh l l.length) m=some (TY T6 (toN l n m:Nat)):=by
 obtain⟨p,i,g,k,e,a⟩:=h.SR f;unfold uK at a;rw[af (by omega),e]at a;obtain⟨j,_,c⟩:∃j,p<j/\pa l m j:=by
  rcases d with rfl|rfl
  ·exact(a.2.1 b).2
  exact(a.2.2 b).2
 rw[tu c _ (ae _),aj c.2.1];unfold toN;rw[af b,uI c]
theorem OD(d:Nat)(b:Bool)(c:b=true↔fH d)(w:Ub):TW 178 #[TY T6 d] w (T2 b):=by
 unfold fH at c;go_enter func178,ntmps178;by_cases h:d=14
 ·have a:b=true:=c.2 (.inl h);subst a;subst h;go_wp2_with fail;go_ret;exact⟨rfl,rfl⟩
 by_cases g:d=15
 ·have a:b=true:=c.2 (.inr g);subst a;subst g;go_wp2_with fail;go_ret;exact⟨rfl,rfl⟩
 have f:b=false:=by
  cases b with
  |false=>rfl
  |true=>exact absurd (c.1 rfl) (by omega)
 subst f;have i:((d:Int)==14)=false:=by simp;omega
 have j:((d:Int)==15)=false:=by simp;omega
 go_wp2_with fail;go_ret
 exact⟨rfl,rfl⟩
theorem OE(W:Ub)(b1 g r:Nat)(n t:Nat)(m:Int)(i:List (Int×Uc))(o:n<=1000000)(j: -9223372036854775808<=m/\m<=9223372036854775807)(l:W.cell? ⟨b1,0,none⟩=some (TY T6 n))(k:W.cell? ⟨g,0,none⟩=some (.map (some r)))(c:ep W r i)
  (d:m=0->t=n+1)(f:m≠0->IntMaps.look i m=some (TY T6 t)):
  TW 177 #[TY T6 m,TZ (some ⟨b1,0,none⟩),TZ (some ⟨g,0,none⟩)] W (TY T6 t):=by
 by_cases b:m=0
 ·have e:=d b;subst b;subst e;clear d f;go_enter func177,ntmps177;go_wp2_with fail;go_ret;exact⟨by simp,rfl⟩
 have a:=gy (P:=prog) c 130 3 3 underlying130 underlying3 m (TY T6 0) (WalkArith.wf_i64 j) (by kernel_rfl);rw[f b]at a;have q:(m==0)=false:=by simpa using b
 clear d f;go_enter func177,ntmps177;go_wp2_with fail;go_ret;exact⟨rfl,rfl⟩
theorem L9:(prog.info? 155).map (fun i=>(i.zero,i.size,i.bytes))=some (some (T1 #[TY T6 0,TY T9 0,TY T7 0,TY T6 0,TY T6 0,TY T6 0,TY T6 0,TY T6 0,T2 false,TY T6 0,T2 false]),11,80):=by kernel_rfl
def st0(x:It):St:=⟨x,0,0,false,0,false⟩
def QQ(_:Nat):Int:=0
def Mt(_:Nat):Nat:=0
def Ay(_:Nat):Bool:=false
theorem PW(L:List It):L.map st0=lj L QQ QQ Ay Mt Ay:=by
 unfold lj;apply oY (by simp);intro i a b;simp at a;simp[st0,QQ,Mt,Ay,a]
def OT(l:List It)(k:Nat):Nat->Int:=fun n=>if n<k then dY l n else 0
def OU(l:List It)(k:Nat):Nat->Int:=fun n=>if n<k then jo l n else 0
theorem OF(l:List It)(k:Nat):OT l (k+1)=upd (OT l k) k (dY l k):=by
 funext n
 unfold upd;by_cases e:n=k
 ·subst e;simp[OT]
 rw[af e];show(if n<k+1 then _ else _)=(if n<k then _ else _)
 by_cases h:n<k
 ·rw[aj (by omega),aj h]
 rw[af (by omega),af h]
theorem OG(l:List It)(k:Nat):OU l (k+1)=upd (OU l k) k (jo l k):=by
 funext n
 unfold upd;by_cases e:n=k
 ·subst e;simp[OU]
 rw[af e];show(if n<k+1 then _ else _)=(if n<k then _ else _)
 by_cases h:n<k
 ·rw[aj (by omega),aj h]
 rw[af (by omega),af h]
theorem FV{W:Ub}{B n size:Nat}{e:TypeId}{v:Uc}{xs:List Uc}(h:W.ownsRow B e size v n xs)(m:0<n)(l:0<size):∃g cap,v=T0 (some ⟨g,0,none⟩) n cap/\B<=g/\n<=cap/\cap<=maxLen/\dx W g e (cap*size) xs:=by
 obtain⟨b,⟨_,d⟩|⟨g,cap,a,rfl,o,f,j,c,k,i⟩⟩:=h
 ·subst d;have:=Nat.mul_pos m l;simp at b;omega
 exact⟨g,cap,rfl,o,j,c,a,f,k,by rw[b];exact i⟩
theorem vC{W:Ub}{g a b:Nat}{x v:Uc}{o:Obj}(h:W.cell? ⟨g,a,none⟩=some x)(c:b≠a):(((W.setCell ⟨g,b,none⟩ v).alloc o).drew).cell? ⟨g,a,none⟩=some x:=by
 have d:(W.setCell ⟨g,b,none⟩ v).cell? ⟨g,a,none⟩=some x:=(dn _ _ _ _ (fun e=>c (by injection e))).trans h;exact(cz _ _ _ (fM d)).trans d
theorem zA{W:Ub}{g a:Nat}{x:Uc}{o:Obj}(h:W.cell? ⟨g,a,none⟩=some x):((W.alloc o).drew).cell? ⟨g,a,none⟩=some x:=(cz _ _ _ (fM h)).trans h
theorem zB{W:Ub}{g a b c:Nat}{x v u:Uc}{o:Obj}(h:W.cell? ⟨g,a,none⟩=some x)(f:b≠a)(d:c≠a):((((W.setCell ⟨g,b,none⟩ v).setCell ⟨g,c,none⟩ u).alloc o).drew).cell? ⟨g,a,none⟩=some x:=
 vC ((dn _ _ _ _ (fun e=>f (by injection e))).trans h) d
theorem Rr{L:List It}{Y O:Nat->Int}{F:Nat->Bool}{P:Nat->Nat}{D:Nat->Bool}{n:Nat}(h:n<L.length)(y o:Int):fc (lj L (upd Y n y) (upd O n o) F P D)=((fc (lj L Y O F P D)).set (n*11+6) (TY T6 y)).set (n*11+7) (TY T6 o):=by rw[RS h,RR h]
def IZ(S:List St)(w:Ub)(e:Ending)(w':Ub):Prop:=
 ∃g cap,e=.returned (T0 (some ⟨g,0,none⟩) S.length cap)/\w.heap.size<=g/\dx w' g 155 (cap*11) (fc S)/\S.length<=cap/\cap<=maxLen/\Below w.heap.size w w'
theorem Ma(l:List It)(bS:∀x∈l,x.Ok)(hF:fZ l)(A:Option Addr)(n c:Nat)(w:Ub)(hr:bh w w.heap.size 5 A n (dq l))(hn:n<=100000):
  Calls prog 106 #[T0 A n c] w (IZ (lj (dR l) (dY l) (jo l) Ay Mt Ay) w):=by
 obtain⟨i0,d3,c0,d4,ds⟩:=cZ L9;have hl:n=l.length:=by have:=hr.1;rw[jr]at this;omega
 have HL:=Lib.hid hl;clear hl;have eq:=@run_makeMap (prog);go_enter func106,ntmps106;go_wp2_with fail;have E:ep ((w.alloc (.map #[] 0)).alloc (Ua #[.map (some w.heap.size)] 130)) w.heap.size (lh l 0):=(ep.new w).alloc _;have b3:((w.alloc (.map #[] 0)).alloc (Ua #[.map (some w.heap.size)] 130)).cell? ⟨w.heap.size+1,0,none⟩=some (.map (some w.heap.size)):=by
  rw[World.cell?_alloc_at _ _ _ _ (by simp)];rfl
 have ce:Below w.heap.size w ((w.alloc (.map #[] 0)).alloc (Ua #[.map (some w.heap.size)] 130)):=((aw _ w).alloc (ae _) _).alloc (by simp) _;have c2:w.heap.size+2<=((w.alloc (.map #[] 0)).alloc (Ua #[.map (some w.heap.size)] 130)).heap.size:=by simp
 generalize ((w.alloc (.map _ 0)).alloc (Ua _ 130))=w0 at*;go_loopw [4,16] (fun v i wr=>∃k:Nat,k<=n/\i=TY T6 k/\wr.ownsRow (w.heap.size+2) 155 11 v (cnt l k) (fc ((dR (l.take k)).map st0))/\ep wr w.heap.size (lh l k)/\wr.cell? ⟨w.heap.size+1,0,none⟩=some (.map (some w.heap.size))/\w.heap.size+2<=wr.heap.size/\Below w.heap.size w wr) (fun _ i _=>n - (intOf i).toNat)
 case atStart=>exact⟨0,by omega,rfl,aX _ _ _ _,E,b3,c2,ce⟩
 case round=>
  obtain⟨k,hk,rfl,f,hM,j,bA,T⟩:=hrel;by_cases a3:k<n
  ·obtain⟨b,ei,rfl,hb,hc⟩:=(hr.below T).TB a3;obtain⟨h0,h1,h2,h3,h4⟩:=hc k a3;have z0:(0:Int)<=(k:Int):=by omega
   have z1:(k:Int)<(n:Int):=by omega
   have al:k<l.length:=by have:=HL.out;omega
   have s:=oM bS al;have R:=mZ l k al;have S:=wH l k;have M:=xF l k al;have ex:=xG l k (by omega);have ek:b<wr.heap.size:=by omega
   obtain⟨A4,c4,rfl,_⟩:=cX f;clear hc;by_cases hm:(l.getD k default).mark≠0
   ·rw[af hm]at R M;rw[aj hm]at S;have a0:=OC hF al hm;have dk:(Lit.int T6 (l.getD k default).mark).wf=true:=WalkArith.wf_i64 s.1;generalize hx:l.getD k default=x at*;have q0:(x.mark != 0)=true:=by simpa using hm
    obtain⟨a9,bb,a2,ca⟩:=aB R S M a0;clear R S M a0 hx hm;obtain⟨xm,xc,xk,xt,xf⟩:=x;simp only at*;have z:=fun o=>(cz wr o ⟨w.heap.size+1,0,none⟩ (by show w.heap.size+1<_;omega)).trans j
    have ef:=Lib.hid z;have t:=z (Ua #[TY T6 xm,TY T9 xc,TY T7 xk,TY T6 xt,TY T6 xf] 129);clear z;go_wp2_with (at_mapUpdate;refine qC rfl 130 (.tmp 23) (.tmp 25) (.tmp 27) rfl 3 3 underlying130 underlying3 w.heap.size _ xm (TY T6 (cnt l k:Nat)) rfl rfl rfl (hM.alloc _) dk ca.out ?_;intro W2 d7 am);go_roundw;case rel=>
     refine⟨k+1,by omega,by go_num,?_,by rw[bb.out];exact d7,?_,by have:=am.size;simp at this;omega,(T.alloc T.size _).grown am (by have:=T.size;simp;omega) (fun g e=>by cases e;exact ae _)⟩
     ·rw[a9.out,a2.out];refine(f.alloc _).kept am ?_;have:=fun g e=>(f.lt g e).1
      cases c8:(Value.slice A4 (cnt l k) c4).ownBlock with
      |none=>exact .inl rfl
      |some g=>exact .inr (fun e=>by cases e;have:=this _ c8;omega)
     exact(lS (am.block (w.heap.size+1) (by simp;omega) (by simp))).trans t
    case measure=>simp[intOf]<;>omega
   have E:(l.getD k default).mark=0:=by omega
   rw[aj E]at R M;rw[af hm]at S;have U:=fun W=>yz (l.getD k default).code s.2.1 W
   have b9:(l.getD k default).kd=(oy (l.getD k default).code).1:=rfl;have C:fc ([l.getD k default].map st0)=[TY T6 (l.getD k default).mark,TY T9 (l.getD k default).code,TY T7 (l.getD k default).k,TY T6 (l.getD k default).tr,TY T6 (l.getD k default).fa,TY T6 ((l.getD k default).kd:Nat),TY T6 0,TY T6 0,T2 false,TY T6 0,T2 false]:=rfl;rw[E]at h0;rw[b9,E]at C;generalize hx:l.getD k default=x at*;generalize (oy x.code).1=d at*;generalize (oy x.code).2=xx at*;obtain⟨a9,bb,a2,HC,HV⟩:=aG R S M U C;clear R S M hx hm E U b9 C;obtain⟨xm,xc,xk,xt,xf⟩:=x;simp only at*;clear s;obtain⟨Z,HM⟩:=aA j hM;clear j hM;go_wp2_with (first
    |(go_at_call 105;refine(HC.out _).mono ?_;rintro e w1 ⟨rfl,ai⟩;have b1:=(bK.new wr 129 #[TY T6 0,TY T9 xc,TY T7 xk,TY T6 xt,TY T6 xf]).below ai (by simp);have k0:w1.cell? ⟨wr.heap.size,0,none⟩=some (TY T6 0):=(by rw[b1.cell];rfl);have k1:w1.cell? ⟨wr.heap.size,1,none⟩=some (TY T9 xc):=(by rw[b1.cell];rfl);have k2:w1.cell? ⟨wr.heap.size,2,none⟩=some (TY T7 xk):=(by rw[b1.cell];rfl);have k3:w1.cell? ⟨wr.heap.size,3,none⟩=some (TY T6 xt):=(by rw[b1.cell];rfl);have k4:w1.cell? ⟨wr.heap.size,4,none⟩=some (TY T6 xf):=(by rw[b1.cell];rfl);clear b1;have ck:=cC ai (f.alloc _);have d1:=ai.size;rw[cE]at d1)
    |(at_builtin;refine fo rfl (.tmp 35) (.tmp 39) 150 rfl (w.heap.size+2) 155 i0 _ 11 80 underlying150 d3 c0 d4 ds rfl (by omega) _ _ (cnt l k) _ rfl ck _ 1 1 rfl _ rfl rfl (by simp[Value.oneCell']) (by simp only[maxLen];omega) (by omega) (by omega) ?_;intro v2 w2 bN a4 eg))
   go_roundw;case rel=>
    have ba:Below wr.heap.size wr w1:=((aw _ wr).alloc (ae _) _).trans (ai.mono (by simp));refine⟨k+1,by omega,by go_num,?_,by rw[bb.out];exact(HM.out.below ba HM.out.lt).below a4 (by omega),?_,by omega,(T.trans (ba.mono T.size)).trans (a4.mono (by omega))⟩
    ·rw[a9.out,a2.out,ew,Az,HV.out];exact bN
    exact(a4.cell (p:=⟨w.heap.size+1,0,none⟩) (by show w.heap.size+1<_;omega)).trans ((ba.cell (p:=⟨w.heap.size+1,0,none⟩) (by show w.heap.size+1<_;omega)).trans Z.out)
   case measure=>simp[intOf]<;>omega
  obtain rfl:k=n:=by omega
  have y:l.take k=l:=bI (by have:=HL.out;omega);have br:cnt l k=(dR l).length:=by rw[HL.out];exact nZ l
  rw[y,br,PW]at f;have b4:lh l k=lh l l.length:=by rw[<-HL.out]
  rw[b4]at hM;have ap:=hF.SP.1;have b2:(dR l).length<=k:=by have:=xG l k (by have:=HL.out;omega);omega
  have ab:=fun q (hq:q<(dR l).length)=>PU hF hq
  have G:∀q,q<(dR l).length->fH ((dR l).getD q default).kd->dY l q= -1/\jo l q= -1:=fun q _ h=>by
   unfold dY jo;rw[aj h,af (by unfold fH at h;omega)];exact⟨rfl,rfl⟩
  have B:∀q,q<(dR l).length->25<=((dR l).getD q default).kd->dY l q=(toN l q ((dR l).getD q default).tr:Nat)/\jo l q=(toN l q ((dR l).getD q default).fa:Nat):=fun q _ h=>by
   unfold dY jo;rw[af (by unfold fH;omega),aj h];exact⟨rfl,rfl⟩
  have H:∀q,q<(dR l).length->¬fH ((dR l).getD q default).kd->¬25<=((dR l).getD q default).kd->dY l q=(toN l q ((dR l).getD q default).tr:Nat)/\jo l q= -1:=fun q _ h h2=>by
   unfold dY jo;rw[af h,af h2];exact⟨rfl,rfl⟩
  have an:∀q m,m=0->toN l q m=q+1:=fun q m h=>by unfold toN;rw[aj h]
  have ch:∀x∈dR l,x.Ok:=fun x hx=>by unfold dR at hx;exact bS x (gO.1 hx).1
  have e0:lj (dR l) QQ QQ Ay Mt Ay=lj (dR l) (OT l 0) (OU l 0) Ay Mt Ay:=jW fun q _=>⟨by simp[OT,QQ],by simp[OU,QQ],rfl,rfl,rfl⟩
  rw[e0]at f;have J:lj (dR l) (OT l (dR l).length) (OU l (dR l).length) Ay Mt Ay=lj (dR l) (dY l) (jo l) Ay Mt Ay:=jW fun q hq=>⟨by simp[OT,hq],by simp[OU,hq],rfl,rfl,rfl⟩
  have bO:=OF l;have cn:=OG l;generalize hL:dR l=L at*;obtain⟨N,hN⟩:∃N,N=L.length:=⟨_,rfl⟩;rw[<-hN]at f ap b2;obtain⟨g,cap,rfl,hg,bx,cb,a⟩:=FV f ap (by omega);obtain⟨HN,V,dp,de,d0,b5,cd,c9,dg⟩:=ay hN ab G B H an J bO cn;clear f ab G B H an e0 J bO cn y br b4 hN hr hL b3 E ce;unfold maxLen at cb;go_wp2_with fail;go_loopw [44] (fun i wr=>∃k:Nat,k<=N/\i=TY T6 k/\dx wr g 155 (cap*11) (fc (lj L (OT l k) (OU l k) Ay Mt Ay))/\ep wr w.heap.size (lh l l.length)/\wr.cell? ⟨w.heap.size+1,0,none⟩=some (.map (some w.heap.size))/\w.heap.size+2<=wr.heap.size/\Below w.heap.size w wr) (fun i _=>N - (intOf i).toNat)
  case atStart=>exact⟨0,by omega,rfl,a,hM,j,bA,T⟩
  case round=>
   obtain⟨q,hq,rfl,a,hM,j,bA,T⟩:=hrel;by_cases a3:q<N
   ·have z0:(0:Int)<=(q:Int):=by omega
    have z1:(q:Int)<(N:Int):=by omega
    have r:q<L.length:=by have:=HN.out;omega
    have s:=oM ch r;have a7:=a.alloc (Ua #[TY T6 q] 3);have bv:=hM.alloc (Ua #[TY T6 q] 3);have t:=(cz wr (Ua #[TY T6 q] 3) ⟨w.heap.size+1,0,none⟩ (by show w.heap.size+1<_;omega)).trans j;have a6:(wr.alloc (Ua #[TY T6 q] 3)).cell? ⟨wr.heap.size,0,none⟩=some (TY T6 q):=by rw[World.cell?_alloc_at _ _ _ _ rfl];rfl
    have c3:=fk r a 3 (by omega) _ rfl;have c4:=fk r a 4 (by omega) _ rfl;have c5:=fk r a 5 (by omega) _ rfl;have c6:=fk r a 6 (by omega) _ rfl;have c7:=fk r a 7 (by omega) _ rfl;have f6:=a.frozen (q*11+6);have f7:=a.frozen (q*11+7);have ed:=a.lt;have bB:=c9.out q;have b8:=dg.out q;have X:=Rr (L:=L) (Y:=OT l q) (O:=OU l q) (F:=Ay) (P:=Mt) (D:=Ay) r (dY l q) (jo l q);rw[<-bB,<-b8]at X;have G:=dp.out q r;have B:=de.out q r;have H:=d0.out q r;have bW:=V.out q r ((L.getD q default).tr) (.inl rfl);have b7:=V.out q r ((L.getD q default).fa) (.inr rfl);have cc:=b5.out q ((L.getD q default).tr);have cg:=b5.out q ((L.getD q default).fa);simp only at c3 c4 c5 c6 c7;generalize OT l q q=y0 at*;generalize OU l q q=o0 at*;generalize d2:dY l q=yy at*;generalize cy:jo l q=oo at*;generalize toN l q (L.getD q default).tr=t1 at*;generalize toN l q (L.getD q default).fa=t2 at*;have ar:∀b:Bool,(b=true↔fH (L.getD q default).kd)->∀W:Ub,TW 178 #[TY T6 ((L.getD q default).kd:Nat)] W (T2 b):=fun b hb W=>OD _ b hb W
    have bR:=s.2.2.2.1;have bq:=s.2.2.2.2;have a1:=fun(W:Ub) h1 h2 h3=>OE W wr.heap.size (w.heap.size+1) w.heap.size q t1 (L.getD q default).tr (lh l l.length) (by omega) bR h1 h2 h3 cc bW
    have av:=fun(W:Ub) h1 h2 h3=>OE W wr.heap.size (w.heap.size+1) w.heap.size q t2 (L.getD q default).fa (lh l l.length) (by omega) bq h1 h2 h3 cg b7
    generalize (L.getD q default).kd=d at*;generalize (L.getD q default).tr=xt at*;generalize (L.getD q default).fa=xf at*;obtain⟨ad,ag,aE,cm,be,HR,HM,Z⟩:=aD X ar a1 av bv a hM j;have u:g≠w.heap.size+1:=by omega
    have b0:q*11+6≠q*11+3:=by omega
    have bs:q*11+6≠q*11+4:=by omega
    have dl:q*11+7≠q*11+3:=by omega
    have c1:q*11+7≠q*11+4:=by omega
    clear X ar a1 av bW b7 cc cg bB b8 bv a7 a hM j d2 cy bR bq s;by_cases hd:fH d
    ·obtain⟨rfl,rfl⟩:=G hd;clear G B H;go_wp2_with (go_at_call 178;refine(ag.out true ⟨fun _=>hd,fun _=>rfl⟩ _).mono ?_;rintro e w' ⟨rfl,rfl⟩);go_roundw;case rel=>
      refine⟨q+1,by omega,by go_num,?_,((HM.out.setCell (by show _≠g;omega) _).setCell (by show _≠g;omega) _).alloc _,?_,by simp[World.setCell];omega,((T.setCell (by show _<=g;omega) _).setCell (by show _<=g;omega) _).alloc (by simp[World.setCell];omega) _⟩
      ·rw[ad.out];exact((HR.out.set_ _ _).set_ _ _).alloc _
      exact(cz _ _ ⟨w.heap.size+1,0,none⟩ (by simp[World.setCell];omega)).trans ((dn _ _ _ _ (fun e=>u (by injection e))).trans ((dn _ _ _ _ (fun e=>u (by injection e))).trans Z.out))
     case measure=>simp[intOf]<;>omega
    by_cases b6:25<=d
    ·obtain⟨rfl,rfl⟩:=B b6;have cv:(25:Int)<=(d:Int):=by omega
     clear G B H;go_wp2_with (go_at_call 178;refine(ag.out false ⟨(fun e=>by cases e),fun e=>absurd e hd⟩ _).mono ?_;rintro e w' ⟨rfl,rfl⟩);go_region_held3 (fun w'=>w'.cell? ⟨g,q*11+3,none⟩=some (TY T6 xt)/\w'.cell? ⟨g,q*11+4,none⟩=some (TY T6 xf)) (first|(with_reducible exact⟨zA c3,zA c4⟩)|(with_reducible exact⟨vC c3 b0,vC c4 bs⟩)|(with_reducible exact⟨zB c3 b0 dl,zB c4 bs c1⟩)|go_keep)
      (first
        |(go_at_call 177;(with_reducible refine(aE.out _ ?_ ?_ ?_).mono ?_);exact a6;exact t;exact be.out;rintro e w' ⟨rfl,rfl⟩)
        |(go_at_call 177;(with_reducible refine(cm.out _ ?_ ?_ ?_).mono ?_);exact a6;exact t;exact be.out;rintro e w' ⟨rfl,rfl⟩))
     go_wp2_with fail;go_roundw
     case rel=>
      refine⟨q+1,by omega,by go_num,?_,((HM.out.setCell (by show _≠g;omega) _).setCell (by show _≠g;omega) _).alloc _,?_,by simp[World.setCell];omega,(((T.setCell (by show _<=g;omega) _).setCell (by show _<=g;omega) _).alloc (by simp[World.setCell];omega) _).drew⟩
      ·rw[ad.out];exact((HR.out.set_ _ _).set_ _ _).alloc _
      exact(cz _ _ ⟨w.heap.size+1,0,none⟩ (by simp[World.setCell];omega)).trans ((dn _ _ _ _ (fun e=>u (by injection e))).trans ((dn _ _ _ _ (fun e=>u (by injection e))).trans Z.out))
     case measure=>simp[intOf]<;>omega
    obtain⟨rfl,rfl⟩:=H hd b6;have cv:¬(25:Int)<=(d:Int):=by omega
    clear G B H;go_wp2_with (first
     |(go_at_call 178;refine(ag.out false ⟨(fun e=>by cases e),fun e=>absurd e hd⟩ _).mono ?_;rintro e w' ⟨rfl,rfl⟩)
     |(go_at_call 177;refine(aE.out _ a6 t be.out).mono ?_;rintro e w' ⟨rfl,rfl⟩))
    go_roundw;case rel=>
     refine⟨q+1,by omega,by go_num,?_,((HM.out.setCell (by show _≠g;omega) _).setCell (by show _≠g;omega) _).alloc _,?_,by simp[World.setCell];omega,(((T.setCell (by show _<=g;omega) _).setCell (by show _<=g;omega) _).alloc (by simp[World.setCell];omega) _)⟩
     ·rw[ad.out];exact((HR.out.set_ _ _).set_ _ _).alloc _
     exact(cz _ _ ⟨w.heap.size+1,0,none⟩ (by simp[World.setCell];omega)).trans ((dn _ _ _ _ (fun e=>u (by injection e))).trans ((dn _ _ _ _ (fun e=>u (by injection e))).trans Z.out))
    case measure=>simp[intOf]<;>omega
   obtain rfl:q=N:=by omega
   have y:=cd.out;rw[<-HN.out]at y;rw[y]at a;clear y;go_wp2_with fail;go_ret;exact⟨g,cap,by rw[jl,<-HN.out];rfl,by omega,a,by rw[jl,<-HN.out];exact bx,by unfold maxLen;exact cb,T⟩
theorem IY(k:Nat):(madeCells (Value.bool false).cells (k*1)).toList=pL (List.replicate k false):=by
 apply oY
 ·simp[pL,madeCells]
 intro i a b;simp[madeCells,pL,Value.cells,Nat.mod_one]
def OS(l:List It)(D:Nat->Bool)(k:Nat):Nat->Bool:=fun n=>if n<k then !reachB l n else D n
theorem OB(l:List It)(D:Nat->Bool)(k:Nat):OS l D (k+1)=upd (OS l D k) k (!reachB l k):=by
 funext n
 unfold upd;by_cases e:n=k
 ·subst e;simp[OS]
 rw[af e];show(if n<k+1 then _ else _)=(if n<k then _ else _)
 by_cases h:n<k
 ·rw[aj (by omega),aj h]
 rw[af (by omega),af h]
theorem Di(l:List It)(k:Nat)(h:(fR l k).getD k false=false):fR l (k+1)=fR l k:=by
 rw[o9];unfold kI;rw[af (by rw[h];simp)]
theorem Ax(l:List It)(k:Nat)(h:(fR l k).getD k false=true):fR l (k+1)=if jo l k= -1 then(if dY l k= -1 then fR l k else(fR l k).set (dY l k).toNat true)else(if dY l k= -1 then fR l k else(fR l k).set (dY l k).toNat true).set (jo l k).toNat true:=by
 rw[o9];unfold kI;rw[aj h]
theorem FT(l:List It)(hF:fZ l)(F:Nat->Bool)(P:Nat->Nat)(D:Nat->Bool)(g cap c B:Nat)(w:Ub)(hg:B<=g)(r:dx w g 155 (cap*11) (fc (lj (dR l) (dY l) (jo l) F P D)))(X:(dR l).length<=100000):
  Calls prog 107 #[T0 (some ⟨g,0,none⟩) (dR l).length c] w fun e w'=>e=.returned (T4 #[])/\dx w' g 155 (cap*11) (fc (lj (dR l) (dY l) (jo l) F P fun n=> !reachB l n))/\Below B w w':=by
 obtain⟨i0,bl,a3,bq,bf⟩:=cZ Mb;have b3:=r.lt;have E:=fun n X=>hF.yes (n:=n) X
 have U:=fun n X=>hF.no (n:=n) X
 have q:=fun n X=>hF.SM (n:=n) X
 have f:=qj l;have x:=Di l;have s:=Ax l;have C:=OB l D;have a:lj (dR l) (dY l) (jo l) F P (OS l D (dR l).length)=lj (dR l) (dY l) (jo l) F P (fun n=> !reachB l n):=jW fun n h=>⟨rfl,rfl,rfl,rfl,by simp[OS,h]⟩
 have h0:lj (dR l) (dY l) (jo l) F P D=lj (dR l) (dY l) (jo l) F P (OS l D 0):=jW fun n h=>⟨rfl,rfl,rfl,rfl,by simp[OS]⟩
 rw[h0]at r;have A:fR l 0=(List.replicate ((dR l).length+1) false).set 0 true:=rfl;generalize dR l=L at*;obtain⟨N,hN⟩:∃N,N=L.length:=⟨_,rfl⟩;rw[<-hN]at X a A f E U q⊢;obtain⟨HN,HY,HO,a4,am,a7,bB,be,ap⟩:=ay hN E U q f x s C a;have a1:=Lib.hid A;clear hN E U q f x s C a h0 A;go_enter func107,ntmps107;go_wp2_with (refine wpList_make_full w rfl (.tmp 7) (.tmp 7) 303 rfl w.heap.size 4 i0 _ 1 underlying303 bl a3 bq T6 T6 ((N:Int)+1) ((N:Int)+1) (N+1) rfl rfl (by omega) (by omega) (by rw[bf];omega) (by simp only[maxLen];omega) (ae _) ?_;intro w1 G V;rw[IY]at G;obtain⟨gb,bS,hv,bA,bm,bv,R⟩:=FV G (by omega) (by omega);injection hv with a2 cf bi;injection a2 with a5;injection a5 with bb;subst bb;subst bi;have br:=R.cell (zC _ 0 (by simp));have bx:=R.frozen 0;have ak:=r.grown V (by simp);have ab:Below B w w1:=(aw _ w).grown V (by omega) (fun k e=>by cases e));have T:=R.set_ 0 (T2 true);rw[kD,<-a1.out,Mw]at T;have av:=ak.far (p:=⟨w.heap.size,0,none⟩) (by show g≠w.heap.size;omega) (T2 true);have ba:Below B w (w1.setCell ⟨w.heap.size,0,none⟩ (T2 true)):=ab.setCell (by show B<=w.heap.size;omega) _;have b4:g≠w.heap.size:=by omega
 clear G V bA bm bv R br bx ak ab r;generalize w1.setCell ⟨w.heap.size,0,none⟩ (T2 true)=w2 at*;go_loopw [13] (fun i wr=>∃k:Nat,k<=N/\i=TY T6 k/\dx wr w.heap.size 4 (N+1) (pL (fR l k))/\dx wr g 155 (cap*11) (fc (lj L (dY l) (jo l) F P (OS l D k)))/\Below B w wr) (fun i _=>N - (intOf i).toNat)
 case atStart=>exact⟨0,by omega,rfl,T,av,ba⟩
 case round=>
  obtain⟨k,hk,rfl,hb,r,W⟩:=hrel;by_cases al:k<N
  ·have z0:(0:Int)<=(k:Int):=by omega
   have z1:(k:Int)<(N:Int):=by omega
   have z2:(k:Int)<(N:Int)+1:=by omega
   have H:k<L.length:=by have:=HN.out;omega
   have f:=am.out k;have q:=a4.out k (by omega);have cb:=fun j (hj:j<N+1)=>hb.cell (zC (fR l k) j (by omega))
   have fb:=fun j=>hb.frozen j
   have a6:=cb k (by omega);rw[q]at a6;have c6:=fk H r 6 (by omega) _ rfl;have c7:=fk H r 7 (by omega) _ rfl;have aE:=fk H r 10 (by omega) _ rfl;have co:=r.frozen (k*11+10);have S:=fun b:Bool=>RV (L:=L) (Y:=dY l) (O:=jo l) (F:=F) (P:=P) (D:=OS l D k) H b
   have C:=be.out k;have x:=a7.out k;have s:=bB.out k;rw[q]at x s;have hy:=HY.out k al;have ho:=HO.out k al;have b7:=r.lt;have cd:=hb.lt;have bW:B<=w.heap.size:=by omega
   simp only at c6 c7 aE;generalize OS l D k k=d0 at*;generalize bp:reachB l k=rb at*;obtain⟨Z,z,d,v,ai,an,J,M⟩:=aD r hb S C x s cb fb;clear r hb S C x s cb fb bp q f;cases rb with
   |false=>
    go_wp2_with fail;go_roundw
    case rel=>
     refine⟨k+1,by omega,by go_num,?_,?_,W.setCell (by show _<=g;omega) _⟩
     ·rw[ai.out rfl];exact z.out.far (by show w.heap.size≠g;omega) _
     rw[v.out,d.out];exact Z.out.set_ _ _
    case measure=>simp[intOf]<;>omega
   |true=>
    have ar:=an.out rfl;generalize dY l k=y at*;generalize jo l k=o at*;have m:=Lib.hid ar;clear ar;rcases hy with rfl|⟨t,rfl,cg,cl⟩<;>rcases ho with rfl|⟨u,rfl,cn,b5⟩
    ·go_wp2_with fail;go_roundw
     case rel=>
      refine⟨k+1,by omega,by go_num,?_,?_,W.setCell (by show _<=g;omega) _⟩
      ·rw[m.out,aj rfl,aj rfl];exact(z.out.far (by show w.heap.size≠g;omega) _)
      rw[v.out,d.out];exact Z.out.set_ _ _
     case measure=>simp[intOf]<;>omega
    ·have cu:=J.out u (by omega);have fu:=M.out u;have zu:(0:Int)<=(u:Int):=by omega
     have ag:(u:Int)<(N:Int)+1:=by omega
     go_wp2_with fail;go_roundw
     case rel=>
      refine⟨k+1,by omega,by go_num,?_,?_,(W.setCell (by show _<=g;omega) _).setCell (by show _<=w.heap.size;omega) _⟩
      ·rw[m.out,af (by omega),aj rfl,dI,<-kD];exact(z.out.far (by show w.heap.size≠g;omega) _).set_ _ _
      rw[v.out,d.out];exact((Z.out.set_ _ _).far (by show g≠w.heap.size;omega) _)
     case measure=>simp[intOf]<;>omega
    ·have ct:=J.out t (by omega);have ft:=M.out t;have zt:(0:Int)<=(t:Int):=by omega
     have a0:(t:Int)<(N:Int)+1:=by omega
     go_wp2_with fail;go_roundw
     case rel=>
      refine⟨k+1,by omega,by go_num,?_,?_,(W.setCell (by show _<=g;omega) _).setCell (by show _<=w.heap.size;omega) _⟩
      ·rw[m.out,aj rfl,af (by omega),dI,<-kD];exact(z.out.far (by show w.heap.size≠g;omega) _).set_ _ _
      rw[v.out,d.out];exact((Z.out.set_ _ _).far (by show g≠w.heap.size;omega) _)
     case measure=>simp[intOf]<;>omega
    have ct:=J.out t (by omega);have ft:=M.out t;have zt:(0:Int)<=(t:Int):=by omega
    have a0:(t:Int)<(N:Int)+1:=by omega
    have cu:=J.out u (by omega);have fu:=M.out u;have zu:(0:Int)<=(u:Int):=by omega
    have ag:(u:Int)<(N:Int)+1:=by omega
    by_cases bk:t=u
    ·subst bk;clear cu fu zu ag;go_wp2_with fail;go_roundw;case rel=>
      refine⟨k+1,by omega,by go_num,?_,?_,((W.setCell (by show _<=g;omega) _).setCell (by show _<=w.heap.size;omega) _).setCell (by show _<=w.heap.size;omega) _⟩
      ·rw[m.out,af (by omega),af (by omega),dI,<-kD,<-kD];exact((z.out.far (by show w.heap.size≠g;omega) _).set_ _ _).set_ _ _
      rw[v.out,d.out];exact(((Z.out.set_ _ _).far (by show g≠w.heap.size;omega) _).far (by show g≠w.heap.size;omega) _)
     case measure=>simp[intOf]<;>omega
    go_wp2_with fail;go_roundw
    case rel=>
     refine⟨k+1,by omega,by go_num,?_,?_,((W.setCell (by show _<=g;omega) _).setCell (by show _<=w.heap.size;omega) _).setCell (by show _<=w.heap.size;omega) _⟩
     ·rw[m.out,af (by omega),af (by omega),dI,dI,<-kD,<-kD];exact((z.out.far (by show w.heap.size≠g;omega) _).set_ _ _).set_ _ _
     rw[v.out,d.out];exact(((Z.out.set_ _ _).far (by show g≠w.heap.size;omega) _).far (by show g≠w.heap.size;omega) _)
    case measure=>simp[intOf]<;>omega
  obtain rfl:k=N:=by omega
  have a:=ap.out;rw[a]at r;clear a;go_wp2_with fail;go_end0;exact⟨rfl,r,W⟩
theorem Oy(s:St)(w:Ub):Calls prog 179 #[T1 #[TY T6 s.it.mark,TY T9 s.it.code,TY T7 s.it.k,TY T6 s.it.tr,TY T6 s.it.fa,TY T6 s.it.kd,TY T6 s.yes,TY T6 s.no,T2 s.far,TY T6 s.at_,T2 s.dead]] w fun e w'=>
  e=.returned (TY T6 ((if s.dead then 0 else if s.far then 3 else 1:Nat):Nat))/\Below w.heap.size w w':=by
 obtain⟨a,y,o,f,p,d⟩:=s;simp only;generalize a.kd=c;obtain⟨g,k,b,j,i⟩:=a;simp only;cases d<;>cases f
 all_goals
  go_enter func179,ntmps179;go_wp2_with fail;go_ret;exact⟨rfl,(aw _ w).alloc (ae _) _⟩
def FQ (g N : Nat) (W : Ub) : Nat := (List.range N).countP fun n => match W.cell? ⟨g, n * 11 + 8, none⟩ with | some (T2 b) => !b | _ => false
theorem FR{L:List It}{Y O:Nat->Int}{F:Nat->Bool}{P:Nat->Nat}{D:Nat->Bool}{W:Ub}{g cap:Nat}{t:TypeId}(h:dx W g t cap (fc (lj L Y O F P D))):FQ g L.length W=vJ L.length F:=by
 unfold FQ vJ;apply tE;intro n a;rw[fk (bE.1 a) h 8 (by omega) (T2 (F n)) rfl]
def Ms(l:List It)(F:Nat->Bool)(P:Nat->Nat)(k:Nat):Nat->Nat:=fun n=>if n<k then plN l F n else P n
theorem Oz(l:List It)(F:Nat->Bool)(P:Nat->Nat)(k:Nat):Ms l F P (k+1)=upd (Ms l F P k) k (plN l F k):=by
 funext n
 unfold upd;by_cases e:n=k
 ·subst e;simp[Ms]
 rw[af e];show(if n<k+1 then _ else _)=(if n<k then _ else _)
 by_cases h:n<k
 ·rw[aj (by omega),aj h]
 rw[af (by omega),af h]
theorem qU{W:Ub}{g a b:Nat}{x v:Uc}(h:W.cell? ⟨g,a,none⟩=some x)(c:b≠a):((W.setCell ⟨g,b,none⟩ v).drew).cell? ⟨g,a,none⟩=some x:=(dn _ _ _ _ (fun e=>c (by injection e))).trans h
theorem J4(l:List It)(F:Nat->Bool)(k:Nat):F7 l F (k+1)=upd (F7 l F k) k (jJ l F k):=MK l F k
theorem OA{l:List It}{F:Nat->Bool}{k:Nat}(h:jJ l F k=F k)(P:Nat->Nat)(Y O:Nat->Int)(D:Nat->Bool)(L:List It):lj L Y O (F7 l F (k+1)) P D=lj L Y O (F7 l F k) P D:=jW fun n _=>⟨rfl,rfl,by
 rw[J4];unfold upd;by_cases e:n=k
 ·subst e;rw[aj rfl,h];simp[F7]
 rw[af e],rfl,rfl⟩
theorem vB(l:List It)(F:Nat->Bool)(n:Nat):wZ l F n=if(!reachB l n)=true then 0 else if F n=true then 3 else 1:=by
 unfold wZ;cases reachB l n<;>simp
def L8(l:List It)(g cap B:Nat)(w:Ub)(e:Ending)(w':Ub):Prop:=
 ∃F:Nat->Bool,Laid l F/\e=.returned (TY T6 (plN l F (dR l).length:Nat))/\dx w' g 155 (cap*11) (fc (lj (dR l) (dY l) (jo l) F (plN l F) fun n=> !reachB l n))/\Below B w w'
theorem IX(l:List It)(hF:fZ l)(g cap c B:Nat)(w:Ub)(hg:B<=g)(j:dx w g 155 (cap*11) (fc (lj (dR l) (dY l) (jo l) Ay Mt fun n=> !reachB l n)))(hn:(dR l).length<=100000):
  Calls prog 108 #[T0 (some ⟨g,0,none⟩) (dR l).length c] w (L8 l g cap B w):=by
 have hu:=underlying155;obtain⟨N,hN⟩:∃N,N=(dR l).length:=⟨_,rfl⟩;rw[<-hN]at hn⊢;have V:=Lib.hid hN;clear hN;go_enter func108,ntmps108;go_wp2_with fail;go_step3;go_wp2_with fail;go_step3;go_wp2_with fail;go_loopw [3] (fun at_ wr=>∃(F:Nat->Bool) (P:Nat->Nat),Gj l F/\dx wr g 155 (cap*11) (fc (lj (dR l) (dY l) (jo l) F P fun n=> !reachB l n))/\Below B w wr) (fun _ wr=>FQ g N wr)
 case atStart=>exact⟨Ay,Mt,Ke l,j,aw _ _⟩
 case round=>
  obtain⟨F,P,hL,j,U⟩:=hrel;obtain⟨wo,rfl⟩:∃wo:Ub,wo=wr:=⟨_,rfl⟩;have ad:FQ g N wo=vJ N F:=by rw[V.out];exact FR j
  have e0:lj (dR l) (dY l) (jo l) F P (fun n=> !reachB l n)=lj (dR l) (dY l) (jo l) F (Ms l F P 0) (fun n=> !reachB l n):=jW fun n h=>⟨rfl,rfl,rfl,by simp[Ms],rfl⟩
  rw[e0]at j;have a1:=Lib.hid ad;clear ad e0;go_wp2_with fail;go_loopw [3,10] (fun at_ i wr=>∃k:Nat,k<=N/\i=TY T6 k/\at_=TY T6 (plN l F k:Nat)/\dx wr g 155 (cap*11) (fc (lj (dR l) (dY l) (jo l) F (Ms l F P k) fun n=> !reachB l n))/\Below B w wr) (fun _ i _=>N - (intOf i).toNat)
  case atStart=>exact⟨0,by omega,rfl,rfl,j,U⟩
  case round=>
   obtain⟨k,hk,rfl,rfl,j,U⟩:=hrel;by_cases b6:k<N
   ·have z0:(0:Int)<=(k:Int):=by omega
    have z1:(k:Int)<(N:Int):=by omega
    have a3:k<(dR l).length:=by have:=V.out;omega
    have c9:=fk a3 j 9 (by omega) _ rfl;have f9:=j.frozen (k*11+9);have a:=RU (L:=dR l) (Y:=dY l) (O:=jo l) (F:=F) (P:=Ms l F P k) (D:=fun n=> !reachB l n) a3 (plN l F k);rw[<-Oz l F P k]at a;have ai:=j.set_ (k*11+9) (TY T6 (plN l F k:Nat));rw[<-a]at ai;have v:=rU a3 ai;have bR:Ms l F P (k+1) k=plN l F k:=by simp[Ms]
    have be:=vB l F k;have bp:=lU l F k;have ec:=sE l F k;have dp:=sE l F (k+1);have bB:=j.lt;have d2:=Gp l F k;have o:=fun W=>Oy ⟨(dR l).getD k default,dY l k,jo l k,F k,plN l F k,!reachB l k⟩ W
    have G:(prog.info? 155).map (·.size)=some (St.vals ⟨(dR l).getD k default,dY l k,jo l k,F k,plN l F k,!reachB l k⟩).length:=by rw[St.Sn];kernel_rfl
    have bm:=U.setCell (p:=⟨g,k*11+9,none⟩) hg (TY T6 (plN l F k:Nat));rw[bR]at v;simp only at o;rw[<-be]at o;generalize (dR l).getD k default=x at*;generalize plN l F k=p at*;generalize wZ l F k=s at*;generalize Ms l F P k k=p0 at*;obtain⟨HC,ck,cd,cu,co⟩:=aG o bp ai v G;clear ai a o bp be j bR v G hu;go_wp2_with (first
     |(refine wpList_load_mid rfl 155 (.tmp 21) rfl g (k*11) rfl _ _ cu.out underlying155 rfl co.out ?_;simp only[Act.put,aq,aI,aH])
     |(go_at_call 179;refine(HC.out _).mono ?_;rintro e w2 ⟨rfl,bi⟩))
    go_roundw;case rel=>
     refine⟨k+1,by omega,by go_num,by rw[ck.out];go_num,cd.out.below bi (by simpa[World.setCell]using bB),bm.trans (bi.mono (by have:=bm.size;simp[World.setCell]at this⊢;omega))⟩
    case measure=>simp[intOf]<;>omega
   obtain rfl:k=N:=by omega
   have e1:lj (dR l) (dY l) (jo l) F (Ms l F P k) (fun n=> !reachB l n)=lj (dR l) (dY l) (jo l) (F7 l F 0) (plN l F) (fun n=> !reachB l n):=jW fun n h=>⟨rfl,rfl,by simp[F7],by simp[Ms,show n<k by have:=V.out;omega],rfl⟩
   rw[e1]at j;have cc:mn l F 0=false:=rfl;clear e1;go_wp2_with fail;go_loopw [5,28] (fun mo i wr=>∃q:Nat,q<=k/\i=TY T6 q/\mo=T2 (mn l F q)/\dx wr g 155 (cap*11) (fc (lj (dR l) (dY l) (jo l) (F7 l F q) (plN l F) fun n=> !reachB l n))/\Below B w wr) (fun _ i _=>k - (intOf i).toNat)
   case atStart=>exact⟨0,by omega,rfl,by rw[cc],j,U⟩
   case round=>
    obtain⟨q,hq,rfl,rfl,j,U⟩:=hrel;by_cases b6:q<k
    ·have z0:(0:Int)<=(q:Int):=by omega
     have z1:(q:Int)<(k:Int):=by omega
     have r:q<(dR l).length:=by have:=V.out;omega
     have c5:=fk r j 5 (by omega) _ rfl;have c8:=fk r j 8 (by omega) _ rfl;have a0:=fk r j 10 (by omega) _ rfl;have f8:=j.frozen (q*11+8);have bA:F7 l F q q=F q:=by simp[F7]
     have R:=Gi l F q;have ef:=It.kd_le ((dR l).getD q default);simp only at c5 c8 a0;rw[bA]at c8;have H:=fun(h:jJ l F q=F q)=>OA h (plN l F) (dY l) (jo l) (fun n=> !reachB l n) (dR l)
     have J:=hF.ways r;have f:jJ l F q=(F q||(OV l q&&decide (255<wK l F q))):=rfl;have S:OV l q=(reachB l q&&decide (25<=((dR l).getD q default).kd)):=by unfold OV;simp[r]
     have am:F q=true->reachB l q=true:=fun h=>(hF.Sq (by omega)).2 (hL.br q h).2.1
     generalize hD:((dR l).getD q default).kd=d at*;generalize cx:mn l F q=mb at*;obtain⟨HR,Z,a5,a2⟩:=aB j R H J;clear j R H J cx hD bA;by_cases m:OV l q=true/\F q=false
     ·obtain⟨bW,ag⟩:=m;rw[bW]at S f;have ct:reachB l q=true/\25<=d:=by simpa using S.symm
      obtain⟨E,hd⟩:=ct;obtain⟨t,u,ey,eo,eg,cp,en,b3⟩:=a2.out hd;have c6:=fk r HR.out 6 (by omega) _ rfl;have c7:=fk r HR.out 7 (by omega) _ rfl;have c9:=fk r HR.out 9 (by omega) _ rfl;have t9:=fk cp HR.out 9 (by omega) _ rfl;have u9:=fk b3 HR.out 9 (by omega) _ rfl;simp only at c6 c7 c9 t9 u9;rw[ey]at c6;rw[eo]at c7;have ar:wK l F q=max (plN l F t) (plN l F u) - plN l F q - 1:=by unfold wK;rw[ey,eo];rfl
      have c1:plN l F q+1<=plN l F t:=by
       have:=jK l F (show q+1<=t by omega);have h2:=lU l F q;have h3:wZ l F q=1:=by rw[vB,E,ag];rfl
       omega
      have ce:plN l F q+1<=plN l F u:=by
       have:=jK l F (show q+1<=u by omega);have h2:=lU l F q;have h3:wZ l F q=1:=by rw[vB,E,ag];rfl
       omega
      have ci:=sE l F t;have c2:=sE l F u;have a:=fun b:Bool=>RT (L:=dR l) (Y:=dY l) (O:=jo l) (F:=F7 l F q) (P:=plN l F) (D:=fun n=> !reachB l n) r b
      have br:=J4 l F q;rw[ag]at f c8;rw[ar]at f;rw[E]at a0;have cg:=V.out;generalize plN l F t=pt at*;generalize plN l F u=X at*;generalize hP:plN l F q=p at*;obtain⟨M,hM⟩:∃M,M=max pt X:=⟨_,rfl⟩;rw[<-hM]at f;have dg:p+1<=M/\M<=300000:=by omega
      have z:jJ l F q=decide (255<M - p - 1):=by rw[f];simp
      obtain⟨bv,bO,dd,HM⟩:=aB z a br hM;have cs:q*11+8≠q*11+6:=by omega
      have cv:q*11+8≠q*11+7:=by omega
      have b8:q*11+8≠q*11+9:=by omega
      have cb:q*11+8≠t*11+9:=by omega
      have ca:q*11+8≠u*11+9:=by omega
      have d9:(0:Int)<=(t:Int):=by omega
      have d8:(t:Int)<(k:Int):=by omega
      have em:(0:Int)<=(u:Int):=by omega
      have d6:(u:Int)<(k:Int):=by omega
      have b5:¬(d:Int)<25:=by omega
      have w1:IntKind.i64.wrap ((M:Int) - (p:Int))=(M:Int) - (p:Int):=IntWalk.i64_in _ (by omega);have w2:IntKind.i64.wrap ((M:Int) - (p:Int) - 1)=(M:Int) - (p:Int) - 1:=IntWalk.i64_in _ (by omega);have an:mn l F (q+1)=(mb||decide (255<M - p - 1)):=by rw[Z.out,ag,z];simp
      have C:=Lib.hid an;have ap:pt<=X->M=X:=fun h=>by omega
      have bf:¬pt<=X->M=pt:=fun h=>by omega
      clear f z a br hM bW S E ag ar c1 ce ci c2 ey eo hP an am hd cg;obtain⟨W1,W2⟩:=aA w1 w2;clear w1 w2;go_wp2_with fail;have hV:decide ((255:Int)<IntKind.i64.wrap (IntKind.i64.wrap ((if pt<X then(X:Int)else(pt:Int)) - (p:Int)) - 1))=decide (255<M - p - 1):=by
       have e:(if pt<X then(X:Int)else(pt:Int))=(M:Int):=by
        by_cases h:pt<X
        ·rw[aj h,ap (by omega)]
        rw[af h];by_cases h2:pt<=X
        ·rw[ap h2];omega
        rw[bf h2]
       rw[e,W1.out,W2.out];exact decide_eq_decide.2 (by omega)
      have HV:=Lib.hid hV;clear hV;go_region_held3 (fun w'=>w'.cell? ⟨g,q*11+6,none⟩=some (TY T6 t)/\w'.cell? ⟨g,q*11+7,none⟩=some (TY T6 u)/\w'.cell? ⟨g,q*11+9,none⟩=some (TY T6 p)/\w'.cell? ⟨g,t*11+9,none⟩=some (TY T6 pt)/\w'.cell? ⟨g,u*11+9,none⟩=some (TY T6 X))
       (first|exact⟨c6,c7,c9,t9,u9⟩|exact⟨qU c6 cs,qU c7 cv,qU c9 b8,qU t9 cb,qU u9 ca⟩|go_keep) (fail)
      rw[HV.out];rw[<-bv.out]at C⊢;have a:=bO.out (jJ l F q);rw[<-dd.out]at a;have a4:=HR.out.set_ (q*11+8) (T2 (jJ l F q));rw[<-a]at a4;have cy:=(U.setCell (p:=⟨g,q*11+8,none⟩) hg (T2 (jJ l F q))).drew;have bS:=a4.drew;have ea:(wr.setCell ⟨g,q*11+8,none⟩ (T2 (jJ l F q))).drew.cell? ⟨g,q*11+8,none⟩=some (T2 (jJ l F q)):=jA _ _ _ (by rw[c8];rfl);have b9:=Lib.hid bS;clear a a4 bS c5 c6 c7 c8 c9 a0 t9 u9 f8;generalize (wr.setCell ⟨g,q*11+8,none⟩ (T2 (jJ l F q))).drew=w9 at*;generalize jJ l F q=fb at*;cases mb<;>cases fb
      all_goals
       go_wp2_with fail;go_roundw
       case rel=>exact⟨q+1,by omega,by go_num,by rw[C.out];rfl,b9.out,cy⟩
       case measure=>simp[intOf]<;>omega
     have a9:jJ l F q=F q:=by
      rw[f];cases hf:F q with
      |true=>rfl
      |false=>
       cases hb:OV l q with
       |true=>exact absurd ⟨hb,hf⟩ m
       |false=>rfl
     have bl:=a5.out a9;have bo:mn l F (q+1)=mb:=by rw[Z.out,a9];cases F q<;>simp
     have a6:reachB l q=false\/(reachB l q=true/\F q=true)\/(reachB l q=true/\F q=false/\d<25):=by
      cases E:reachB l q with
      |false=>exact .inl rfl
      |true=>
       cases hf:F q with
       |true=>exact .inr (.inl ⟨rfl,rfl⟩)
       |false=>
        refine .inr (.inr ⟨rfl,rfl,?_⟩);rw[S,E]at m;by_cases hd:25<=d
        ·exact absurd ⟨by simp[hd],hf⟩ m
        omega
     obtain⟨ba,C⟩:=aA bl bo;clear bl bo a9 m f S am;generalize reachB l q=rb at*;generalize F q=fq at*;rcases a6 with rfl|⟨rfl,rfl⟩|⟨rfl,rfl,hd⟩
     ·go_wp2_with fail;go_roundw
      case rel=>exact⟨q+1,by omega,by go_num,by rw[C.out],by rw[ba.out];exact HR.out,U⟩
      case measure=>simp[intOf]<;>omega
     ·go_wp2_with fail;go_roundw
      case rel=>exact⟨q+1,by omega,by go_num,by rw[C.out],by rw[ba.out];exact HR.out,U⟩
      case measure=>simp[intOf]<;>omega
     have b5:(d:Int)<25:=by omega
     go_wp2_with fail;go_roundw
     case rel=>exact⟨q+1,by omega,by go_num,by rw[C.out],by rw[ba.out];exact HR.out,U⟩
     case measure=>simp[intOf]<;>omega
    obtain rfl:q=k:=by omega
    have T:lj (dR l) (dY l) (jo l) (F7 l F q) (plN l F) (fun n=> !reachB l n)=lj (dR l) (dY l) (jo l) (jJ l F) (plN l F) (fun n=> !reachB l n):=jW fun n h=>⟨rfl,rfl,by simp[F7,show n<q by have:=V.out;omega],rfl,rfl⟩
    rw[T]at j;have aE:FQ g q wr=vJ q (jJ l F):=by rw[V.out];exact FR j
    have A:mn l F q=true->vJ q (jJ l F)<vJ q F:=fun h=>by
     have:=V.out;rw[this]at h⊢;exact Kc h
    have y:mn l F q=false->Laid l F/\∀n,n<q->jJ l F n=F n:=fun h=>by
     have:=V.out;rw[this]at h⊢;exact⟨hL.laid hF h,Jl l F h⟩
    cases al:mn l F q with
    |true=>
     have av:=A al;obtain⟨b7,cr⟩:=aA av aE;clear av aE T A y al;go_wp2_with fail;go_roundw;case rel=>exact⟨jJ l F,plN l F,hL.next hF,j,U⟩
     case measure=>rw[cr.out,a1.out];exact b7.out
    |false=>
     obtain⟨a7,bs⟩:=y al;have e3:lj (dR l) (dY l) (jo l) (jJ l F) (plN l F) (fun n=> !reachB l n)=lj (dR l) (dY l) (jo l) F (plN l F) (fun n=> !reachB l n):=jW fun n h=>⟨rfl,rfl,bs n (by have:=V.out;omega),rfl,rfl⟩
     rw[e3]at j;clear bs y A aE T al e3;go_wp2_with fail;rw[Exit.noGoto_ret];go_ret;exact⟨F,a7,by rw[<-V.out];rfl,j,U⟩
def FP(l:List It)(w:Ub)(e:Ending)(w':Ub):Prop:=
 ∃(F:Nat->Bool) (g cap:Nat),Laid l F/\e=.returned (T4 #[T0 (some ⟨g,0,none⟩) (dR l).length cap,TY T6 (plN l F (dR l).length:Nat)])/\w.heap.size<=g/\dx w' g 155 (cap*11) (fc (lj (dR l) (dY l) (jo l) F (plN l F) fun n=> !reachB l n))/\(dR l).length<=cap/\cap<=maxLen/\Below w.heap.size w w'
theorem Ox(l:List It)(p:∀x∈l,x.Ok)(m:fZ l)(A:Option Addr)(n c:Nat)(w:Ub)(s:bh w w.heap.size 5 A n (dq l))(y:n<=100000):
  Calls prog 54 #[T0 A n c] w (FP l w):=by
 have r:n=l.length:=by have:=s.1;rw[jr]at this;omega
 have t:(dR l).length<=100000:=by
  have:=xG l l.length (ae _);rw[nZ]at this;omega
 have D:=Lib.hid r;clear r;go_enter func54,ntmps54;go_wp2_with fail;refine(Ma l p m A n c w s y).mono ?_;rintro e u ⟨g,cap,rfl,j,i,a,k,z⟩;rw[jl]at a⊢;go_wp2_with fail;refine(FT l m Ay Mt Ay g cap cap w.heap.size u j i t).mono ?_;rintro e B ⟨rfl,d,o⟩;have f:=z.trans o;go_wp2_with fail;refine(IX l m g cap cap w.heap.size B j d t).mono ?_;rintro e C ⟨F,v,rfl,b,q⟩;go_wp2_with fail;go_ret2;exact⟨F,g,cap,v,rfl,j,b,a,k,f.trans q⟩
theorem Ch(fr:Nat)(s:St)(b:fr+1<=s.at_)(a:s.at_<=1000000)(w:Ub):Calls prog 55 #[TY T6 fr,T1 #[TY T6 s.it.mark,TY T9 s.it.code,TY T7 s.it.k,TY T6 s.it.tr,TY T6 s.it.fa,TY T6 s.it.kd,TY T6 s.yes,TY T6 s.no,T2 s.far,TY T6 s.at_,T2 s.dead]] w fun e w'=>
  e=.returned (T1 #[TY T9 5,TY .u8 0,TY .u8 0,TY T7 (s.at_ - fr - 1:Nat)])/\Below w.heap.size w w':=by
 obtain⟨g,y,o,f,p,d⟩:=s;simp only at b a⊢;generalize g.kd=j;obtain⟨k,l,q,m,i⟩:=g;simp only;have c:IntKind.u32.wrap ((p:Int) - (fr:Int) - 1)=((p - fr - 1:Nat):Int):=by simp[IntKind.wrap,IntKind.bits,IntKind.signed];omega
 have n:=Lib.hid c;clear c;go_enter func55,ntmps55;go_wp2_with fail;refine aO (v:=T1 #[TY T9 5,TY .u8 0,TY .u8 0,TY T7 ((p:Int) - (fr:Int) - 1)]) (by simp[results,results55,go_sem]) rfl ⟨?_,((aw _ w).alloc (ae _) _).alloc (by simp) _⟩;rw[show((p:Int) - (fr:Int) - 1)=((p - fr - 1:Nat):Int)by omega]
theorem I9{rs:List Rl}{f:Rl->Bool}{k n:Int}(a:eT k n=true)(h:∀r∈rs,eT r.kind r.num=true):eT (match rs.find? f with|some r=>(r.kind,r.num)|none=>(k,n)).1 (match rs.find? f with|some r=>(r.kind,r.num)|none=>(k,n)).2=true:=by
 cases e:rs.find? f with
 |none=>exact a
 |some x=>exact h x (dj e)
theorem Dn{p:Po}(b:eT p.kind p.num=true)(h:∀r∈p.rules,eT r.kind r.num=true)(name:ByteArray)(a:Nat)(args:List Nat):eT (fC p name a args).1 (fC p name a args).2=true:=I9 b h
theorem FY{p:Po}(a:eT p.kind p.num=true)(h:∀r∈p.rules,eT r.kind r.num=true)(name:ByteArray):eT (ig p name).1 (ig p name).2=true:=by
 unfold ig;cases e:p.rules.find? fun r=>decide (r.name=name)with
 |none=>exact a
 |some x=>
  simp only;split
  ·exact h x (dj e)
  exact a
theorem AA(p:Po)(l:List Rw)(r:Rc):judgeP p l r=match ma r.arch r.number with
  |none=>2147483648
  |some a=>if a=1/\p.x32=false then 2147483648 else match(lB l r a).1 with
   |none=>codeA p.kind p.num
   |some i=>if(lB l r a).2=true then codeA (ig p (l.getD i default).name).1 (ig p (l.getD i default).name).2 else codeA (fC p (l.getD i default).name a r.args).1 (fC p (l.getD i default).name a r.args).2:=by
 unfold judgeP;cases ma r.arch r.number with
 |none=>rfl
 |some a=>
  simp only;split
  ·rfl
  rcases lB l r a with ⟨_ | i, _ | _⟩ <;> rfl
theorem OL{l:List Rw}{r:Rc}{a i:Nat}(h:(lB l r a).1=some i):i<l.length:=by
 unfold lB at h;split at h
 ·exact(kX h).1
 split at h
 ·exact(kX h).1
 exact(kX h).1
theorem FZ(p:Po)(l:List Rw)(r:Rc)(bi:r.Ok)(h5:∀r∈l,r.nums.length=5)(ds:l.length<=1000000)(hl:p.rules.length<=1000000)(h0:eT p.kind p.num=true)(bm:∀r∈p.rules,eT r.kind r.num=true)
  (a6:∀r∈p.rules,r.conds.length<=1000000/\∀x∈r.conds,fS x=true/\x.Ok)(A A2:Option Addr)(c c2:Nat)(w:Ub)(hr:eI w w.heap.size A p.rules)(ht:jv w w.heap.size A2 l):
  TV 12 #[nu p A c,T0 A2 l.length c2,CF r] w (TY T6 (judgeP p l r:Nat)):=by
 rw[AA];have bO:=fun W (hW:w.heap.size<=W.heap.size) (hT:jv W w.heap.size A2 l)=>NF l h5 A2 c2 w.heap.size r bi ds W hT hW
 have bf:uh l r=match ma r.arch r.number with|none=>(-1,-1,false)|some a=>((a:Int),He (lB l r a).1,(lB l r a).2):=rfl
 have ba:∀a,ma r.arch r.number=some a->a<5:=fun a e=>by
  unfold ma at e;repeat' (split at e)
  all_goals first|(cases e;done)|(injection e with e;omega)
 have cn:=fun a i=>OL (l:=l) (r:=r) (a:=a) (i:=i)
 have J:=fun W=>sX p.kind p.num h0 W
 have m:=fun name W=>sX _ _ (FY h0 bm name) W
 have g:=fun name a W=>sX _ _ (Dn h0 bm name a r.args) W
 have f:=fun name W (hW:w.heap.size<=W.heap.size) (hR:eI W w.heap.size A p.rules)=>EE p A c w.heap.size name hl (fun r hr=>(a6 r hr).1) W hR hW
 have u:=fun name a W (hW:w.heap.size<=W.heap.size) (hR:eI W w.heap.size A p.rules)=>CK p A c w.heap.size name a r.args bi.len bi.args hl a6 W hR hW
 obtain⟨nb,ar,pt,args⟩:=r;have b3:=bi.len;simp only at b3;match args,b3 with
 |[a0,a1,a2,a3,F,E],_=>
 obtain⟨G,D,L,rs⟩:=p;simp only at hl h0 bm a6 hr J f u m g⊢;replace bO:∀(W:Ub),w.heap.size<=W.heap.size->jv W w.heap.size A2 l->TV 25 #[T0 A2 l.length c2,T1 #[TY T7 nb,TY T7 ar,TY T8 pt,TY T8 a0,TY T8 a1,TY T8 a2,TY T8 a3,TY T8 F,TY T8 E]] W (T1 #[TY T6 (uh l ⟨nb,ar,pt,[a0,a1,a2,a3,F,E]⟩).1,TY T6 (uh l ⟨nb,ar,pt,[a0,a1,a2,a3,F,E]⟩).2.1,T2 (uh l ⟨nb,ar,pt,[a0,a1,a2,a3,F,E]⟩).2.2]):=bO;replace u:∀(name:ByteArray) (a:Nat) (W:Ub),w.heap.size<=W.heap.size->eI W w.heap.size A rs->Calls prog 28 #[T1 #[TY T6 G,TY T6 D,T2 L,T0 A rs.length c],.string name,TY T6 a,T1 #[TY T8 a0,TY T8 a1,TY T8 a2,TY T8 a3,TY T8 F,TY T8 E]] W
  fun e w'=>e=.returned (T1 #[TY T6 (fC ⟨G,D,L,rs⟩ name a [a0,a1,a2,a3,F,E]).1,TY T6 (fC ⟨G,D,L,rs⟩ name a [a0,a1,a2,a3,F,E]).2])/\Below W.heap.size W w':=u
 show Calls prog _ #[T1 #[TY T6 G,TY T6 D,T2 L,T0 A rs.length c],T0 A2 l.length c2,T1 #[TY T7 nb,TY T7 ar,TY T8 pt,TY T8 a0,TY T8 a1,TY T8 a2,TY T8 a3,TY T8 F,TY T8 E]] w _
 have d0:∃V:Nat,(match ma ar nb with
  |none=>2147483648
  |some a=>if a=1/\L=false then 2147483648 else match(lB l ⟨nb,ar,pt,[a0,a1,a2,a3,F,E]⟩ a).1 with
   |none=>codeA G D
   |some i=>if(lB l ⟨nb,ar,pt,[a0,a1,a2,a3,F,E]⟩ a).2=true then codeA (ig ⟨G,D,L,rs⟩ (l.getD i default).name).1 (ig ⟨G,D,L,rs⟩ (l.getD i default).name).2 else codeA (fC ⟨G,D,L,rs⟩ (l.getD i default).name a [a0,a1,a2,a3,F,E]).1 (fC ⟨G,D,L,rs⟩ (l.getD i default).name a [a0,a1,a2,a3,F,E]).2)=V:=⟨_,rfl⟩
 obtain⟨V,T⟩:=d0;rw[T];generalize hn:rs.length=n at*;generalize ct:l.length=nl at*;have a9:Below w.heap.size w ((w.alloc (Ua #[TY T6 G,TY T6 D,T2 L,T0 A n c] 26)).alloc (Ua #[TY T7 nb,TY T7 ar,TY T8 pt,TY T8 a0,TY T8 a1,TY T8 a2,TY T8 a3,TY T8 F,TY T8 E] 32)):=((aw _ _).alloc (ae _) _).alloc (by simp) _;have b7:((w.alloc (Ua #[TY T6 G,TY T6 D,T2 L,T0 A n c] 26)).alloc (Ua #[TY T7 nb,TY T7 ar,TY T8 pt,TY T8 a0,TY T8 a1,TY T8 a2,TY T8 a3,TY T8 F,TY T8 E] 32)).heap.size=w.heap.size+2:=by simp
 have b0:bK ((w.alloc (Ua #[TY T6 G,TY T6 D,T2 L,T0 A n c] 26)).alloc (Ua #[TY T7 nb,TY T7 ar,TY T8 pt,TY T8 a0,TY T8 a1,TY T8 a2,TY T8 a3,TY T8 F,TY T8 E] 32)) w.heap.size 26 #[TY T6 G,TY T6 D,T2 L,T0 A n c]:=(bK.new w _ _).alloc _;have b1:bK ((w.alloc (Ua #[TY T6 G,TY T6 D,T2 L,T0 A n c] 26)).alloc (Ua #[TY T7 nb,TY T7 ar,TY T8 pt,TY T8 a0,TY T8 a1,TY T8 a2,TY T8 a3,TY T8 F,TY T8 E] 32)) (w.heap.size+1) 32 #[TY T7 nb,TY T7 ar,TY T8 pt,TY T8 a0,TY T8 a1,TY T8 a2,TY T8 a3,TY T8 F,TY T8 E]:=dP w _ _ _;have cs:=hr.below a9;have cg:=ht.below a9;have bv:=bO _ (by rw[b7];omega) cg;generalize uh l ⟨nb,ar,pt,[a0,a1,a2,a3,F,E]⟩=q at*;obtain⟨U,q2,q3⟩:=q;simp only at bv;obtain⟨HN,bN,cl,dk,B0,B1,bA,bR,eq⟩:=ay hn ct a9 b7 b0 b1 cs cg a6;obtain⟨er,c9,H5,em⟩:=aB bm cn h5 bi;clear hn ct a9 b7 b0 b1 cs cg a6 bm cn h5 bi;clear bO hr ht;go_enter func12,ntmps12;go_wp2_with fail;refine bv.mono ?_;rintro e w1 ⟨rfl,bk⟩;generalize (w.alloc (Ua _ 26)).alloc (Ua _ 32)=W0 at*;have hz:=dk.out;have eo:=bk.size;have co:=(cl.out.trans (bk.mono (by omega))).alloc (by omega) (Ua #[TY T6 U,TY T6 q2,T2 q3] 93);have b6:=bk.alloc (by omega) (Ua #[TY T6 U,TY T6 q2,T2 q3] 93);have bq:=bK.new w1 93 #[TY T6 U,TY T6 q2,T2 q3];have cm:(w1.alloc (Ua #[TY T6 U,TY T6 q2,T2 q3] 93)).heap.size=w1.heap.size+1:=by simp
 obtain⟨R,M,BQ,Y,cf⟩:=aG co b6 bq cm bk;clear co b6 bq cm bk;clear bv;have p0:=(B0.out.below cf.out (by omega)).cell 0;have p1:=(B0.out.below cf.out (by omega)).cell 1;have p2:=(B0.out.below cf.out (by omega)).cell 2;simp only[ao]at p0 p1 p2;have H:∀W3,Below (w1.alloc (Ua #[TY T6 U,TY T6 q2,T2 q3] 93)).heap.size (w1.alloc (Ua #[TY T6 U,TY T6 q2,T2 q3] 93)) W3->Below w.heap.size w W3:=fun W3 h=>R.out.trans (h.mono (by have:=Y.out;omega))
 have t:=Lib.hid H;clear H;have es:w.heap.size<w1.heap.size:=by omega
 have ei:w.heap.size+1<w1.heap.size:=by omega
 rcases be:ma ar nb with _|a
 ·rw[be]at bf T;simp only at bf T;injection bf with e1 e2
  injection e2 with e2 e3;subst e1 e2 e3 T;clear be ba J m g f u;go_wp2_with fail;all_goals
   go_ret;exact⟨rfl,R.out⟩
 have ef:=ba a be;rw[be]at bf T;simp only at bf T;injection bf with e1 e2
 injection e2 with e2 e3;have z0:(decide ((a:Int)<0))=false:=by simp
 by_cases hx:a=1/\L=false
 ·obtain⟨rfl,rfl⟩:=hx;rw[aj ⟨rfl,rfl⟩]at T;have d4:U=1:=by rw[e1];rfl
  clear e1;subst d4 T;clear be ba J m g f u e2 e3;go_wp2_with fail;all_goals
   go_ret;exact⟨rfl,R.out⟩
 rw[af hx]at T;have hx':((a:Int)==1)=false\/L=true:=by
  by_cases h1:a=1
  ·right
   cases L with
   |true=>rfl
   |false=>exact absurd ⟨h1,rfl⟩ hx
  left;simp;omega
 have hi:∀i,(lB l ⟨nb,ar,pt,[a0,a1,a2,a3,F,E]⟩ a).1=some i->i<nl:=fun i=>c9.out a i
 generalize a6:lB l ⟨nb,ar,pt,[a0,a1,a2,a3,F,E]⟩ a=ca at*;obtain⟨oi,mx⟩:=ca;simp only at e2 e3 hi T;subst e1 e2 e3;clear be ba a6 hx;rcases oi with _|i
 ·simp only[He]at*;subst T;clear m g f u hi;rcases hx' with hx'|hx'
  all_goals
   (try subst hx')
   go_wp2_with (go_at_call 26;refine(J _).mono ?_;rintro e w5 ⟨rfl,cp⟩)
   all_goals
    go_ret;first
     |exact⟨rfl,t.out _ cp⟩
     |(have c5:(a:Int)=1:=by assumption
       exact⟨rfl,by have h9:=t.out;rw[c5]at h9;exact h9 _ cp⟩)
 have bW:=hi i rfl;have d7:(i:Int)<(nl:Int):=by omega
 simp only[He]at*;clear hi J;have Z:=fun name=>u name a
 have z0:(decide ((a:Int)<0))=false:=by simp
 generalize bB:(a:Int)=ai at*;by_cases h1:ai=1
 ·have dp:L=true:=by
    rcases hx' with h2|h2
    ·rw[h1]at h2;simp at h2
    exact h2
  subst dp;have h2:(ai==1)=true:=by rw[h1];rfl
  clear hx';obtain⟨H1,d2⟩:=aA h1 bB;clear h1 bB;cases q3 with
  |true=>
   simp only[lN]at T;have S:Below w.heap.size w (w1.alloc (Ua #[TY T6 ai,TY T6 i,T2 true] 93)):=R.out;have y:Below W0.heap.size W0 (w1.alloc (Ua #[TY T6 ai,TY T6 i,T2 true] 93)):=M.out;have ch:=Y.out;have s:=BQ.out;have q0:=s.cell 0;have U:=s.cell 1;have q2:=s.cell 2;simp only[ao]at q0 U q2;have H:=t.out;obtain⟨ce,b9,d,t⟩:=aB s S y H;clear s S y H;clear t R M BQ Y;go_wp2_with fail;generalize w1.alloc (Ua _ 93)=X at*;have o:=bA.out.below (d.out.mono (by omega));have C:=B0.out.below d.out (by omega);have z:=B1.out.below d.out (by omega);have br:=C.lt;have am:=z.lt;obtain⟨b,cd,rfl,hb,N,_⟩:=(bR.out.below (d.out.mono (by omega))).at_ H5.out (k:=i) (by rw[bN.out];exact bW);have k0:=eY q0;have k1:=eY U;have k2:=eY N;have bo:∀x:je X,Calls prog 27 #[T1 #[TY T6 G,TY T6 D,T2 true,T0 A n c],.string (l.getD i default).name] (eb X x) fun e w'=>e=.returned (T1 #[TY T6 (ig ⟨G,D,true,rs⟩ (l.getD i default).name).1,TY T6 (ig ⟨G,D,true,rs⟩ (l.getD i default).name).2])/\Below (eb X x).heap.size (eb X x) w':=
    fun x=>f _ _ (by have:=(kb x).size;omega) (o.below ((kb x).mono (by omega)))
   have B:=fun W=>m (l.getD i default).name W
   rw[T]at B;generalize ig ⟨G,D,true,rs⟩ (l.getD i default).name=bl at*;generalize (l.getD i default).name=name at*;obtain⟨bp,aE,ck,cc,an⟩:=aG o C z bo B;clear o C z bo B;clear q0 U q2 N m g f u T;refine dO (by kernel_rfl) (by kernel_rfl) ?_;repeat(first
    |go_big_quiet_skip
    |(go_big_quiet_want
      first
       |(refine iU 26 (.tmp 3) rfl w.heap.size rfl _ _ _ _ (uW aE.out) underlying26 rfl (by kernel_rfl) ?_;simp only[Act.put,aq,aI,aH];go_big_quiet_on)
       |(go_big_quiet_op
         first
          |go_big_quiet_on
          |go_big_quiet_call (first
            |(go_at_call 27;exact gi (cc.out _))
            |(go_at_call 26;exact gi (an.out _))))))
   refine wpQuiet_nil ?_;intro w5 a7;go_wp2_with fail;go_ret;exact⟨rfl,t.out _ a7⟩
  |false=>
   simp only[fE,mj]at T;have S:Below w.heap.size w (w1.alloc (Ua #[TY T6 ai,TY T6 i,T2 false] 93)):=R.out;have y:Below W0.heap.size W0 (w1.alloc (Ua #[TY T6 ai,TY T6 i,T2 false] 93)):=M.out;have ch:=Y.out;have s:=BQ.out;have q0:=s.cell 0;have U:=s.cell 1;have q2:=s.cell 2;simp only[ao]at q0 U q2;have H:=t.out;obtain⟨ce,b9,d,t⟩:=aB s S y H;clear s S y H;clear t R M BQ Y;go_wp2_with fail;generalize w1.alloc (Ua _ 93)=X at*;have o:=bA.out.below (d.out.mono (by omega));have C:=B0.out.below d.out (by omega);have z:=B1.out.below d.out (by omega);have br:=C.lt;have am:=z.lt;obtain⟨b,cd,rfl,hb,N,_⟩:=(bR.out.below (d.out.mono (by omega))).at_ H5.out (k:=i) (by rw[bN.out];exact bW);have k0:=eY q0;have k1:=eY U;have k2:=eY N;have bs:∀x:je X,Calls prog 28 #[T1 #[TY T6 G,TY T6 D,T2 true,T0 A n c],.string (l.getD i default).name,TY T6 ai,T1 #[TY T8 a0,TY T8 a1,TY T8 a2,TY T8 a3,TY T8 F,TY T8 E]] (eb X x) fun e w'=>e=.returned (T1 #[TY T6 (fC ⟨G,D,true,rs⟩ (l.getD i default).name a [a0,a1,a2,a3,F,E]).1,TY T6 (fC ⟨G,D,true,rs⟩ (l.getD i default).name a [a0,a1,a2,a3,F,E]).2])/\Below (eb X x).heap.size (eb X x) w':=
    fun x=>Z _ _ (by have:=(kb x).size;omega) (o.below ((kb x).mono (by omega)))
   have B:=fun W=>g (l.getD i default).name a W
   rw[T]at B;have O:X.rangeAt (w.heap.size+1) 3 [TY T8 a0,TY T8 a1,TY T8 a2,TY T8 a3,TY T8 F,TY T8 E]:=by
    intro j v hv;rw[z.cell];match j,hv with
    |0,hv=>exact hv
    |1,hv=>exact hv
    |2,hv=>exact hv
    |3,hv=>exact hv
    |4,hv=>exact hv
    |5,hv=>exact hv
    |j+6,hv=>simp at hv
   have ak:=kZ O am;generalize fC ⟨G,D,true,rs⟩ (l.getD i default).name a [a0,a1,a2,a3,F,E]=de at*;generalize (l.getD i default).name=name at*;obtain⟨bp,aE,ck,cb,an,bx⟩:=aF o C z bs B ak;clear o C z bs B ak;clear q0 U q2 N m g f u Z T O;refine dO (by kernel_rfl) (by kernel_rfl) ?_;repeat(first
    |go_big_quiet_skip
    |(go_big_quiet_want
      first
       |(refine iU 26 (.tmp 3) rfl w.heap.size rfl _ _ _ _ (uW aE.out) underlying26 rfl (by kernel_rfl) ?_;simp only[Act.put,aq,aI,aH];go_big_quiet_on)
       |(refine ik 30 (.tmp 50) rfl _ _ rfl _ _ (bx.out) underlying30 rfl (by kernel_rfl) ?_;simp only[Act.put,aq,aI,aH];go_big_quiet_on)
       |(go_big_quiet_op
         first
          |go_big_quiet_on
          |go_big_quiet_call (first
            |(go_at_call 28;exact gi (cb.out _))
            |(go_at_call 26;exact gi (an.out _))))))
   refine wpQuiet_nil ?_;intro w5 a7;go_wp2_with fail;go_ret;exact⟨rfl,t.out _ a7⟩
 have h2:(ai==1)=false:=by simpa using h1
 clear hx';obtain⟨H1,d2⟩:=aA h1 bB;clear h1 bB;cases q3 with
 |true=>
  simp only[lN]at T;have S:Below w.heap.size w (w1.alloc (Ua #[TY T6 ai,TY T6 i,T2 true] 93)):=R.out;have y:Below W0.heap.size W0 (w1.alloc (Ua #[TY T6 ai,TY T6 i,T2 true] 93)):=M.out;have ch:=Y.out;have s:=BQ.out;have q0:=s.cell 0;have U:=s.cell 1;have q2:=s.cell 2;simp only[ao]at q0 U q2;have H:=t.out;obtain⟨ce,b9,d,t⟩:=aB s S y H;clear s S y H;clear t R M BQ Y;go_wp2_with fail;generalize w1.alloc (Ua _ 93)=X at*;have o:=bA.out.below (d.out.mono (by omega));have C:=B0.out.below d.out (by omega);have z:=B1.out.below d.out (by omega);have br:=C.lt;have am:=z.lt;obtain⟨b,cd,rfl,hb,N,_⟩:=(bR.out.below (d.out.mono (by omega))).at_ H5.out (k:=i) (by rw[bN.out];exact bW);have k0:=eY q0;have k1:=eY U;have k2:=eY N;have bo:∀x:je X,Calls prog 27 #[T1 #[TY T6 G,TY T6 D,T2 L,T0 A n c],.string (l.getD i default).name] (eb X x) fun e w'=>e=.returned (T1 #[TY T6 (ig ⟨G,D,L,rs⟩ (l.getD i default).name).1,TY T6 (ig ⟨G,D,L,rs⟩ (l.getD i default).name).2])/\Below (eb X x).heap.size (eb X x) w':=
   fun x=>f _ _ (by have:=(kb x).size;omega) (o.below ((kb x).mono (by omega)))
  have B:=fun W=>m (l.getD i default).name W
  rw[T]at B;generalize ig ⟨G,D,L,rs⟩ (l.getD i default).name=bl at*;generalize (l.getD i default).name=name at*;obtain⟨bp,aE,ck,cc,an⟩:=aG o C z bo B;clear o C z bo B;clear q0 U q2 N m g f u T;refine dO (by kernel_rfl) (by kernel_rfl) ?_;repeat(first
   |go_big_quiet_skip
   |(go_big_quiet_want
     first
      |(refine iU 26 (.tmp 3) rfl w.heap.size rfl _ _ _ _ (uW aE.out) underlying26 rfl (by kernel_rfl) ?_;simp only[Act.put,aq,aI,aH];go_big_quiet_on)
      |(go_big_quiet_op
        first
         |go_big_quiet_on
         |go_big_quiet_call (first
           |(go_at_call 27;exact gi (cc.out _))
           |(go_at_call 26;exact gi (an.out _))))))
  refine wpQuiet_nil ?_;intro w5 a7;go_wp2_with fail;go_ret;exact⟨rfl,t.out _ a7⟩
 |false=>
  simp only[fE,mj]at T;have S:Below w.heap.size w (w1.alloc (Ua #[TY T6 ai,TY T6 i,T2 false] 93)):=R.out;have y:Below W0.heap.size W0 (w1.alloc (Ua #[TY T6 ai,TY T6 i,T2 false] 93)):=M.out;have ch:=Y.out;have s:=BQ.out;have q0:=s.cell 0;have U:=s.cell 1;have q2:=s.cell 2;simp only[ao]at q0 U q2;have H:=t.out;obtain⟨ce,b9,d,t⟩:=aB s S y H;clear s S y H;clear t R M BQ Y;go_wp2_with fail;generalize w1.alloc (Ua _ 93)=X at*;have o:=bA.out.below (d.out.mono (by omega));have C:=B0.out.below d.out (by omega);have z:=B1.out.below d.out (by omega);have br:=C.lt;have am:=z.lt;obtain⟨b,cd,rfl,hb,N,_⟩:=(bR.out.below (d.out.mono (by omega))).at_ H5.out (k:=i) (by rw[bN.out];exact bW);have k0:=eY q0;have k1:=eY U;have k2:=eY N;have bs:∀x:je X,Calls prog 28 #[T1 #[TY T6 G,TY T6 D,T2 L,T0 A n c],.string (l.getD i default).name,TY T6 ai,T1 #[TY T8 a0,TY T8 a1,TY T8 a2,TY T8 a3,TY T8 F,TY T8 E]] (eb X x) fun e w'=>e=.returned (T1 #[TY T6 (fC ⟨G,D,L,rs⟩ (l.getD i default).name a [a0,a1,a2,a3,F,E]).1,TY T6 (fC ⟨G,D,L,rs⟩ (l.getD i default).name a [a0,a1,a2,a3,F,E]).2])/\Below (eb X x).heap.size (eb X x) w':=
   fun x=>Z _ _ (by have:=(kb x).size;omega) (o.below ((kb x).mono (by omega)))
  have B:=fun W=>g (l.getD i default).name a W
  rw[T]at B;have O:X.rangeAt (w.heap.size+1) 3 [TY T8 a0,TY T8 a1,TY T8 a2,TY T8 a3,TY T8 F,TY T8 E]:=by
   intro j v hv;rw[z.cell];match j,hv with
   |0,hv=>exact hv
   |1,hv=>exact hv
   |2,hv=>exact hv
   |3,hv=>exact hv
   |4,hv=>exact hv
   |5,hv=>exact hv
   |j+6,hv=>simp at hv
  have ak:=kZ O am;generalize fC ⟨G,D,L,rs⟩ (l.getD i default).name a [a0,a1,a2,a3,F,E]=de at*;generalize (l.getD i default).name=name at*;obtain⟨bp,aE,ck,cb,an,bx⟩:=aF o C z bs B ak;clear o C z bs B ak;clear q0 U q2 N m g f u Z T O;refine dO (by kernel_rfl) (by kernel_rfl) ?_;repeat(first
   |go_big_quiet_skip
   |(go_big_quiet_want
     first
      |(refine iU 26 (.tmp 3) rfl w.heap.size rfl _ _ _ _ (uW aE.out) underlying26 rfl (by kernel_rfl) ?_;simp only[Act.put,aq,aI,aH];go_big_quiet_on)
      |(refine ik 30 (.tmp 50) rfl _ _ rfl _ _ (bx.out) underlying30 rfl (by kernel_rfl) ?_;simp only[Act.put,aq,aI,aH];go_big_quiet_on)
      |(go_big_quiet_op
        first
         |go_big_quiet_on
         |go_big_quiet_call (first
           |(go_at_call 28;exact gi (cb.out _))
           |(go_at_call 26;exact gi (an.out _))))))
  refine wpQuiet_nil ?_;intro w5 a7;go_wp2_with fail;go_ret;exact⟨rfl,t.out _ a7⟩
end
end Go.Proofs.YtfammloeljmplaaGreatDoor
