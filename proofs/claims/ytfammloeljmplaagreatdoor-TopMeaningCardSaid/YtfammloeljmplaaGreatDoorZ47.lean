/- The walk of TopMeaning; conditions: each lemma's own. -/
import Derived.Test.YtfammloeljmplaaGreatDoorZ39
import Derived.Test.YtfammloeljmplaaGreatDoorZ45
import Derived.Test.YtfammloeljmplaaGreatDoorZ46
open Go.Value renaming int->TY,pointer->TZ,slice->T0,agg->T1,bool->T2,tuple->T4
open Go.IntKind renaming i64->T6,u32->T7,u64->T8
open Go.Obj renaming cells->Ua
open Go renaming World->Ub,Value->Uc
namespace Go.Proofs.YtfammloeljmplaaGreatDoor
open Go.Proofs.Tryz
set_option maxRecDepth 100000
set_option maxHeartbeats 8000000
set_option linter.unusedVariables false
set_option linter.unusedSimpArgs false
section
theorem Cj{r n:PR}(h:gG r=some n):n.code=r.code:=by
 unfold gG at h;cases e:dT gq r.conds with
 |none=>rw[e]at h;cases h
 |some q=>rw[e]at h;injection h with h;subst h;rfl
theorem qf(a:Nat):∀(L:List PR),∀r∈gR a L,∃x∈L,r.code=x.code
 |[],r,h=>by(cases h)
 |x::t,r,h=>by
  rw[wC]at h;have c:∀n,wB a x=some n->n.code=x.code:=fun n e=>by
   unfold wB at e;split at e
   ·exact Cj e
   injection e with e;rw[<-e]
  cases e:wB a x with
  |none=>
   rw[e]at h;obtain⟨y,b,e2⟩:=qf a t r h;exact⟨y,by simp[b],e2⟩
  |some n=>
   rw[e]at h;simp only at h;split at h
   ·rw[bz]at h;subst h;exact⟨x,by simp,c _ e⟩
   rcases aP.1 h with rfl|h
   ·exact⟨x,by simp,c _ e⟩
   obtain⟨y,b,e2⟩:=qf a t r h;exact⟨y,by simp[b],e2⟩
section
variable {p:Po} {l:List Rw} {pl:Pl} (ht:tT l) (hp:AY p l) (hR:kB p=true) (hpl:sK p l pl)
include ht hp hR hpl
theorem AH{a:Nat}(c:a<5){e:PE}(b:e∈pl.entries.getD a []):∀r∈e.rules,r.code<4294967296:=fun r f=>by
 obtain⟨k,i,j,m,rfl⟩:=np ht hp hpl c b;obtain⟨x,g,e2⟩:=qf a _ r (iA f);obtain⟨y,d,rfl⟩:=bt.1 g;rw[e2];exact xB (zx hR d)
theorem xz{m:Nat}(C:m<2){x:PS}(A:x∈pl.subs.getD m []):x.number<=255/\x.code<4294967296:=by
 obtain⟨E,u,f,d,b⟩:=hpl.names;obtain⟨k,j,a⟩:=db.1 ((b m C).mem_iff.1 A);have c:=(f k).1 j;have g:∃x∈l,x.name=k:=by
  obtain⟨x,t,e⟩:=fD c;obtain⟨y,s,B,_⟩:=iI (iA (show x∈fU p (cN p.rules k)by rw[e];simp));obtain⟨z,q,r⟩:=hp.named y s;exact⟨z,q,r.trans B⟩
 obtain⟨i,v,n,_⟩:=js ht g;unfold lV at a;rw[n]at a;split at a
 ·rename_i D;rw[bz]at a;subst a;have o:=ht.mux _ (qq v);refine⟨?_,?_⟩
  ·show((l.getD i default).sub).toNat<=255
   omega
  obtain⟨y,t,e⟩:=fD c;show(((fU p (cN p.rules k)).map mF).getD 0 default).code<4294967296
  rw[e];exact xB (zx (k:=k) hR (show y∈fU p (cN p.rules k)by rw[e];simp))
 cases a
theorem DA{a:Nat}(b:¬a<5):pl.entries.getD a []=[]:=by
 have _:=ht;have _:=hp;have _:=hR;rw[aa,kN (by rw[hpl.elen];omega)];rfl
theorem MD{m:Nat}(a:¬m<2):pl.subs.getD m []=[]:=by
 have _:=ht;have _:=hp;have _:=hR;rw[aa,kN (by rw[hpl.slen];omega)];rfl
theorem Qn:Rx (fun c=>c<4294967296) pl where
 dflt:=by rw[hpl.dflt];exact xB hp.act
 entries:=fun a e b r i=>by
  by_cases g:a<5
  ·exact AH ht hp hR hpl g b r i
  rw[DA ht hp hR hpl g]at b;cases b
 subs:=fun m x d=>by
  by_cases f:m<2
  ·exact(xz ht hp hR hpl f d).2
  rw[MD ht hp hR hpl f]at d;cases d
 kill:=by decide
theorem Jj{a:Nat}(b:a<5){e:PE}(c:e∈pl.entries.getD a []):e.number<4294967296:=by
 have _:=hR;obtain⟨k,i,d,f,rfl⟩:=np ht hp hpl b c;have:=ht.hi _ (qq d) a b;show wholeN a _<_
 unfold wholeN;split<;>omega
theorem ME:R0 pl where
 parts:=fun a x b=>by
  have j:=GJ ht hp hpl;unfold dM at b;rcases bT.1 b with h|h
  ·obtain⟨e,d,rfl⟩:=bt.1 h;by_cases f:a<5
   ·exact⟨Jj ht hp hR hpl f d,fun r g=>⟨AH ht hp hR hpl f d r g,fun c i=>(j.conds a f e d r g c i).1⟩⟩
   rw[DA ht hp hR hpl f]at d;cases d
  split at h
  ·simp only[aP,bQ,eW]at h;rcases h with rfl|rfl
   ·exact⟨by omega,fun x b=>by have:=(xz ht hp hR hpl (by omega) b).1;omega⟩
   exact⟨by omega,fun x b=>by have:=(xz ht hp hR hpl (by omega) b).1;omega⟩
  cases h
theorem oZ(b:p.rules.length<=40)(c:∀r∈p.rules,r.conds.length<=12):Qu pl where
 entries:=by have _:=ht;have _:=hp;have _:=hR;exact(Ea hpl b).1
 subs:=(Ea hpl b).2
 conds:=fun a d=>GK hpl c d
theorem Qo(o:p.rules.length<=40)(q:∀r∈p.rules,r.conds.length<=12):M8 pl:=by
 have g:=GJ ht hp hpl;have f:=oZ ht hp hR hpl o q;refine⟨fun a b x A=>?_,fun a b=>?_,fun a b=>by have:=(f.entries a b).1;omega⟩
 ·unfold dM at A;rcases bT.1 A with h|h
  ·obtain⟨e,d,rfl⟩:=bt.1 h;refine⟨⟨?_,fun r u=>ax (f.conds a b e d r u) (by omega),fun r u c F=>(g.conds a b e d r u c F).1⟩,Jj ht hp hR hpl b d⟩;have s:=(f.entries a b).2;have k:e.rules.length<=((pl.entries.getD a []).map fun e=>e.rules.length).sum:=by
    generalize pl.entries.getD a []=L at d;clear s;induction L with
    |nil=>cases d
    |cons y t ih=>
     simp only[aJ,gC];rcases aP.1 d with rfl|h
     ·omega
     have:=ih h;omega
   omega
  split at h
  ·have v:∀m,m<2->(pl.subs.getD m []).length<=4096/\∀i,i+1<(pl.subs.getD m []).length->((pl.subs.getD m []).getD i default).number<((pl.subs.getD m []).getD (i+1) default).number:=fun m j=>by
     have G:=f.subs m j;have B:=g.srise m j;generalize pl.subs.getD m []=S at*;refine⟨by omega,fun i z=>?_⟩;have:=B;rw[gP]at this;have:=this i (i+1) (by omega) z (by omega);rw[aa,ah (show i<S.length by omega),aa,ah z];exact this
   simp only[aP,bQ,eW]at h;rcases h with rfl|rfl
   ·exact⟨v 0 (by omega),by show 102<4294967296;omega⟩
   exact⟨v 1 (by omega),by show 117<4294967296;omega⟩
  cases h
 unfold dM;rw[ew,cT];have s:((pl.entries.getD a []).map (dX.number∘fun e=>dX.rules e.number e.rules))=(pl.entries.getD a []).map PE.number:=rfl;rw[s];have k:((pl.entries.getD a []).map PE.number).Nodup:=by
  have:=g.erise a b;rw[List.Nodup,fQ];exact this.imp fun h=>by omega
 split
 ·rename_i D;subst D;rw[jx];refine⟨k,by simp[dX.number],fun n E m j e=>?_⟩;obtain⟨y,C,rfl⟩:=bt.1 E;have:=g.e2 y C;simp only[aJ,a8,aP,bQ,eW,dX.number]at j;omega
 simpa using k
end
end
section
open Go.RowKit
def lT(a:List Nat)(w w':Ub):Prop:=w.heap.size<=w'.heap.size/\∀g,g<w.heap.size->g∉a->w'.heap[g]? =w.heap[g]?
theorem lT.blk{a:List Nat}{w w':Ub}(h:lT a w w'){g:Nat}{t:TypeId}{cs:Array Uc}(b:bK w g t cs)(c:g∉a):bK w' g t cs:=(h.2 g b.lt c).trans b
theorem oT.cells{w:Ub}{a:Pl}{vs:Array Uc}(h:oT w a vs):vs.size=9/\vs.all (·.oneCell')=true:=by
 obtain⟨e,o,c,f,l,i,k,j,g,n,b,d0,m,d,rfl,_⟩:=h.now.cells;exact⟨rfl,by simp[Value.oneCell']⟩
structure RE(p:Po)(l:List Rw)(w0 w w':Ub)(g7 g6:Nat)(k:Int):Prop where
 below:Below w0.heap.size w0 w'
 keep:lT [g7,g6] w w'
 out:∃(vs:Array Uc) (i:Int),bK w' g7 67 vs/\vs.size=9/\vs.all (·.oneCell')=true/\bK w' g6 39 #[T0 none 0 0,TY T6 0,TY T6 i]/\(k=0->∃pl,wA p l pl/\oT w' pl vs)
theorem qZ{w w':Ub}{g:Nat}(h:w.grownBy w' (some g))(a:List Nat)(d:g∈a):lT a w w':=
 ⟨h.size,fun k b c=>h.block k b fun e=>c (by have:=dK e;subst this;exact d)⟩
theorem lT.trans{d:List Nat}{a b c:Ub}(h:lT d a b)(k:lT d b c):lT d a c:=
 ⟨ax h.1 k.1,fun g f e=>(k.2 g (bn f h.1) e).trans (h.2 g f e)⟩
theorem lT.grows{a:List Nat}{w w':Ub}(h:aS w w'):lT a w w':=⟨h.size,fun g b _=>h.block g b⟩
theorem MA(p:Po)(l:List Rw)(h5:∀r∈l,r.nums.length=5)(R:∀r∈l,r.name.size<=9223372036854775807)(N:l.length<=1000000)(V:p.rules.length<=1000000)(U:∀r∈p.rules,r.conds.length<=1000000/\r.name.size<=9223372036854775807)(E:∀r∈p.rules,∀c∈r.conds,c.Ok)
  (A:Option Addr)(c:Nat)(T:Option Addr)(X:Nat)(w0 w:Ub)(hp:eI w0 w0.heap.size A p.rules)(hr:jv w0 w0.heap.size T l)(ht:kC w0)(v:Below w0.heap.size w0 w)(g2 g3 z n:Nat)(J:n≠z)(h7:w0.heap.size<=z)(h6:w0.heap.size<=n)
  (b2:bK w g2 46 #[TY T6 p.kind,TY T6 p.num,T2 p.x32,T0 A p.rules.length c])(W:bK w g3 48 #[T0 T l.length X])(b7:bK w z 67 jb)(b6:bK w n 39 #[T0 none 0 0,TY T6 0,TY T6 0]):
  Calls Tryz.prog 13 #[TZ (some ⟨g2,0,none⟩),TZ (some ⟨g3,0,none⟩),TZ (some ⟨z,0,none⟩),TZ (some ⟨n,0,none⟩)] w fun e w'=>∃k:Int,e=.returned (TY T6 k)/\RE p l w0 w w' z n k:=by
 have q:=FB p l h5 R N V U E A c T X w ((hp.below v).more v.size) ((hr.below v).more v.size) (ht.below v (ae _));have j:Calls Tryz.prog 14 #[T1 #[TY T6 p.kind,TY T6 p.num,T2 p.x32,T0 A p.rules.length c],T0 T l.length X] w fun e w'=>Below w.heap.size w w'/\∃(vs:Array Uc) (i k:Int),e=.returned (T4 #[T1 vs,TY T6 i,TY T6 k])/\vs.size=9/\vs.all (·.oneCell')=true/\(k=0->∃B,wA p l B/\oT w' B vs):=by
  refine tG q ?_;rintro e w' ⟨h1,⟨i,k,rfl,hk⟩|⟨B,vs,hR,M,rfl⟩⟩
  ·exact⟨h1,jb,i,k,rfl,rfl,by simp[jb,Value.oneCell'],fun h=>absurd h hk⟩
  exact⟨h1,vs,0,0,rfl,M.cells.1,M.cells.2,fun _=>⟨B,hR,M⟩⟩
 have ak:w.cell? ⟨g3,0,none⟩=some (T0 T l.length X):=W.cell 0;have be:=W.lt;clear q hp hr ht h5 R U E N V;generalize ab:l.length=ln at*;generalize Y:p.rules.length=rn at*;clear ab Y;obtain⟨u,B2,B3,B7,B6,HB⟩:=aF j b2 W b7 b6 v;clear j b2 W b7 b6 v;go_enter func13,ntmps13;go_wp2_with (refine dv rfl 46 (.tmp 0) rfl g2 rfl 46 #[TY T6 p.kind,TY T6 p.num,T2 p.x32,T0 A rn c] (0,0) _ B2.out underlying46 rfl (by kernel_rfl) ?_);refine u.out.mono ?_;rintro e w1 ⟨C,vs,i,k,rfl,D,o,t⟩;have d:aS w w1:=C;have O:=B7.out.below d B7.out.lt;have F:=B6.out.below d B6.out.lt;have G:=HB.out.trans (d.mono HB.out.size);clear C ak;obtain⟨f,ad,H,S,ap,s,y⟩:=az O F G t d o D;clear O F G t d o D;go_wp2_with (refine aR rfl 67 (.tmp 2) (.tmp 9) rfl z vs rfl rfl 67 _ f.out (by rw[y.out];kernel_rfl) (by rw[y.out];rfl) s.out ?_;intro Z L x;have g:=ad.out.grown x (fun e=>J (dK e));have am:=g.cell 2;have bm:=g.frozen 2;have ba:=g.lt;simp only[ao]at am;have ag:=Lib.hid L;have m:=Lib.hid g;have b:=Lib.hid x;clear L g x);go_ret;have a:Z.grownBy (Z.setCell ⟨n,2,none⟩ (TY T6 i)) (some n):=iE Z n 2 (TY T6 i);refine⟨k,rfl,(H.out.grown b.out H.out.size (fun k e=>by cases e;exact h7)).setCell (p:=⟨n,2,none⟩) h6 _,((lT.grows ap.out).trans (qZ b.out _ (by simp))).trans (qZ a _ (by simp)),vs,i,ag.out.grown a (fun e=>J (dK e).symm),y.out,s.out,?_,fun hk=>?_⟩
 ·have:=m.out.set_ 2 (TY T6 i);simpa using this
 obtain⟨B,hR,M⟩:=S.out hk;exact⟨B,hR,M.keep ((aU.Sv b.out f.out (by decide)).trans (aU.Sv a m.out (by decide))) ((aU.Sv b.out f.out (by decide)).trans (aU.Sv a m.out (by decide))) ((aU.Sv b.out f.out (by decide)).trans (aU.Sv a m.out (by decide))) ((aU.Sv b.out f.out (by decide)).trans (aU.Sv a m.out (by decide)))⟩
structure RF(pl:Pl)(w0 w w':Ub)(g8:Nat):Prop where
 below:Below w0.heap.size w0 w'
 keep:lT [g8] w w'
 out:∃(codes:List Nat) (v:Uc),(∀c∈codes,c<4294967296)/\codes.length<=25100/\bK w' g8 68 #[v]/\w'.ownsRow w0.heap.size 129 5 v (iH pl codes).length (dq (iH pl codes))
theorem MB(g:Pl)(o:M8 g)(l:Qu g)(L:Rx (fun c=>c<4294967296) g)(vs:Array Uc)(w0 w:Ub)(x:oT w g vs)(O:Below w0.heap.size w0 w)(B m:Nat)(U:w0.heap.size<=m)(M:bK w B 67 vs)(R:bK w m 68 #[T0 none 0 0]):
  Calls Tryz.prog 15 #[TZ (some ⟨B,0,none⟩),TZ (some ⟨m,0,none⟩)] w fun e w'=>e=.returned (TY T6 0)/\RF g w0 w w' m:=by
 have q:=CB g o l L vs w x.now;have C:=x.cells.1;clear o l L;obtain⟨D,T,N,A,X⟩:=aG q M R O x;clear q M R O x;go_enter func15,ntmps15;go_wp2_with (refine dv rfl 67 (.tmp 0) rfl B rfl 67 vs (0,0) _ T.out underlying67 rfl (by rw[C];kernel_rfl) ?_);refine D.out.mono ?_;rintro e J ⟨a,v,rfl,j,t,b,n⟩;have f:aS w J:=n;obtain⟨E,y,rfl,_⟩:=cX b;have d:=N.out.below f N.out.lt;have r:=A.out.trans (f.mono A.out.size);have S:=d.cell 0;have V:=d.frozen 0;have W:=d.lt;simp only[ao]at S;have z:=A.out.size;clear n;obtain⟨s,G,H,i,u,F⟩:=aF d r f b j t;clear d r f b j t;go_wp2_with fail;go_ret;have k:=iE J m 0 (T0 E (iH g a).length y);refine⟨rfl,G.out.setCell (p:=⟨m,0,none⟩) U _,(lT.grows H.out).trans (qZ k _ (by simp)),a,T0 E (iH g a).length y,u.out,F.out,?_,?_⟩
 ·have:=s.out.set_ 0 (T0 E (iH g a).length y);simpa using this
 exact QP z (i.out.kept k (.inr (cY i.out s.out (by decide))))
structure Ci(L:List It)(prog:List I):Prop where
 form:fZ L
 laid:∃F,Laid L F/\prog=kS L F
 chk:(fK prog).2=0
def J9(L:List It)(w:Ub)(e:Ending)(w':Ub):Prop:=Below w.heap.size w w'/\∃(prog:List I) (v:Uc) (k:Nat),e=.returned (T4 #[v,TY T6 k])/\w'.ownsRow w.heap.size 157 4 v prog.length (gx prog)/\(∀i∈prog,i.Ok)/\prog.length<=4096/\(k=0->Ci L prog)
theorem zO(L:List It)(a:∀x∈L,x.Ok)(A:Option Addr)(n c:Nat)(w:Ub)(k:bh w w.heap.size 5 A n (dq L))(l:n<=100000)(o:L.length=n):
  Calls Tryz.prog 18 #[T0 A n c] w (J9 L w):=by
 by_cases f:fZ L
 ·refine(Dh L a f A n c w k l).mono ?_;rintro e w' ⟨F,v,b,rfl,m,j⟩;refine⟨j,(wX L F).1,v,(wX L F).2,rfl,m,?_,?_,?_⟩
  ·unfold wX;split
   ·intro i d;cases d
   split
   ·intro i d;cases d
   have:=xG L L.length (ae _);rw[nZ]at this;exact Ju a f b (by omega)
  ·unfold wX;split
   ·simp
   split
   ·simp
   show(kS L F).length<=4096
   rw[nY];omega
  unfold wX;split
  ·intro h;exact absurd h (by show(3:Nat)≠0;omega)
  split
  ·rename_i g;intro h;exact absurd h g
  rename_i g;intro _;exact⟨f,⟨F,b,rfl⟩,by simpa using g⟩
 refine(FO L a f A n c w k l).mono ?_;rintro e w' ⟨rfl,j⟩;exact⟨j,[],T0 none 0 0,1,rfl,aX _ _ _ _,fun i d=>by(cases d),by simp,fun h=>absurd h (by decide)⟩
structure RG(L:List It)(w0 w w':Ub)(g6:Nat)(ru:Int)(k:Nat):Prop where
 below:Below w0.heap.size w0 w'
 keep:lT [g6] w w'
 out:∃(prog:List I) (v:Uc),bK w' g6 39 #[v,TY T6 0,TY T6 ru]/\w'.ownsRow w0.heap.size 5 1 v (dF prog).length (dN (dF prog))/\(∀i∈prog,i.Ok)/\prog.length<=4096/\(k=0->Ci L prog)
theorem MC(L:List It)(C:∀x∈L,x.Ok)(hL:L.length<=100000)(v:Uc)(ru:Int)(w0 w:Ub)(hv:w.ownsRow w0.heap.size 129 5 v L.length (dq L))(Y:Below w0.heap.size w0 w)(O m:Nat)(h6:w0.heap.size<=m)(G:bK w O 68 #[v])(b6:bK w m 39 #[T0 none 0 0,TY T6 0,TY T6 ru]):
  Calls Tryz.prog 17 #[TZ (some ⟨O,0,none⟩),TZ (some ⟨m,0,none⟩)] w fun e w'=>∃k:Nat,e=.returned (TY T6 k)/\RG L w0 w w' m ru k:=by
 obtain⟨Z,cv,rfl,f⟩:=fB.Sp hv;have E:=zO L C Z L.length cv w f.reads hL rfl;have U:w.cell? ⟨O,0,none⟩=some (T0 Z L.length cv):=G.cell 0;have ap:=G.lt;have av:=Y.size;clear hv f C hL;generalize hn:L.length=n at*;clear hn;obtain⟨S,B8,B6,HB⟩:=aB E G b6 Y;clear E G b6 Y;go_enter func17,ntmps17;go_wp2_with fail;refine S.out.mono ?_;rintro e H ⟨q,prog,vp,k,rfl,s,l,r,hk⟩;obtain⟨Ap,cp,rfl,o⟩:=fB.Sp s;have b:aS w H:=q;have A:=B6.out.below b B6.out.lt;have z:=HB.out.trans (b.mono HB.out.size);have j:=Md prog l Ap prog.length cp H o.reads (by omega);unfold kz at j;clear q U o s;obtain⟨t,i,X,V,T,HK,J⟩:=az A z b l r hk j;clear A z b l r hk j;go_wp2_with fail;refine J.out.mono ?_;rintro e w2 ⟨vb,rfl,g,F⟩;have c:aS H w2:=F;obtain⟨M,R,rfl,_⟩:=cX g;have a:=t.out.below c t.out.lt;have y:=i.out.trans (c.mono i.out.size);have c6:=a.cell 0;have f6:=a.frozen 0;have l6:=a.lt;simp only[ao]at c6;have D:=i.out.size;clear F;obtain⟨u,W,N,B⟩:=aB a y c g;clear a y c g;go_wp2_with fail;go_ret;have d:=iE w2 m 0 (T0 M (dF prog).length R);refine⟨k,rfl,W.out.setCell (p:=⟨m,0,none⟩) h6 _,((lT.grows X.out).trans (lT.grows N.out)).trans (qZ d _ (by simp)),prog,T0 M (dF prog).length R,?_,?_,V.out,T.out,HK.out⟩
 ·have:=u.out.set_ 0 (T0 M (dF prog).length R);simpa using this
 exact QP D (B.out.kept d (.inr (cY B.out u.out (by decide))))
def mW:Array Uc:=#[T0 none 0 0,TY T6 0,TY T6 0]
def xy(s:Nat):Array Uc:=#[.func (.func 13) #[] #[TZ (some ⟨s,0,none⟩),TZ (some ⟨s+1,0,none⟩),TZ (some ⟨s+4,0,none⟩),TZ (some ⟨s+3,0,none⟩)],.func (.func 15) #[] #[TZ (some ⟨s+4,0,none⟩),TZ (some ⟨s+5,0,none⟩)],.func (.func 17) #[] #[TZ (some ⟨s+5,0,none⟩),TZ (some ⟨s+3,0,none⟩)]]
structure ov(p:Po)(l:List Rw)(prog:List I):Prop where
 res:∃pl codes,wA p l pl/\(∀c∈codes,c<4294967296)/\Ci (iH pl codes) prog
 ok:∀i∈prog,i.Ok
 len:prog.length<=4096
def Dx(p:Po)(l:List Rw)(w W:Ub):Nat->Prop
 |0=>bK W (w.heap.size+3) 39 mW/\bK W (w.heap.size+4) 67 jb/\bK W (w.heap.size+5) 68 #[T0 none 0 0]
 |1=>∃b vs i,wA p l b/\oT W b vs/\bK W (w.heap.size+3) 39 #[T0 none 0 0,TY T6 0,TY T6 i]/\bK W (w.heap.size+4) 67 vs/\bK W (w.heap.size+5) 68 #[T0 none 0 0]
 |2=>∃(b:Pl) (a:List Nat) (v:Uc) (i:Int),wA p l b/\(∀c∈a,c<4294967296)/\a.length<=25100/\bK W (w.heap.size+3) 39 #[T0 none 0 0,TY T6 0,TY T6 i]/\bK W (w.heap.size+5) 68 #[v]/\W.ownsRow w.heap.size 129 5 v (iH b a).length (dq (iH b a))
 | _ => ∃ (prog : List I) (v : Uc) (i : Int), ov p l prog /\ bK W (w.heap.size + 3) 39 #[v, TY T6 0, TY T6 i] /\ W.ownsRow w.heap.size 5 1 v (dF prog).length (dN (dF prog))
structure Q6(p:Po)(l:List Rw)(A:Option Addr)(c:Nat)(A2:Option Addr)(c2:Nat)(w W:Ub):Prop where
 below:Below w.heap.size w W
 b2:bK W w.heap.size 46 #[TY T6 p.kind,TY T6 p.num,T2 p.x32,T0 A p.rules.length c]
 b3:bK W (w.heap.size+1) 48 #[T0 A2 l.length c2]
 b4:bK W (w.heap.size+2) 39 mW
 bf:bK W (w.heap.size+6) 71 (xy w.heap.size)
theorem Q6.keep{p:Po}{l:List Rw}{A:Option Addr}{c:Nat}{f:Option Addr}{e:Nat}{w W d:Ub}(h:Q6 p l A c f e w W){a:List Nat}(b:lT a W d)(k:Below w.heap.size w d)(m:w.heap.size∉a)(j:w.heap.size+1∉a)(i:w.heap.size+2∉a)(g:w.heap.size+6∉a):Q6 p l A c f e w d:=
 ⟨k,b.blk h.b2 m,b.blk h.b3 j,b.blk h.b4 i,b.blk h.bf g⟩
def Dy(p:Po)(l:List Rw)(w:Ub)(e:Ending)(w':Ub):Prop:=Below w.heap.size w w'/\∃(prog:List I) (v:Uc) (a k:Int),e=.returned (T4 #[T1 #[v,TY T6 0,TY T6 a],TY T6 k])/\w'.ownsRow w.heap.size 5 1 v (dF prog).length (dN (dF prog))/\(k=0->ov p l prog)
theorem Dz(p:Po)(l:List Rw)(h5:∀r∈l,r.nums.length=5)(bf:∀r∈l,r.name.size<=9223372036854775807)(be:l.length<=1000000)(Z:p.rules.length<=40)(D:∀r∈p.rules,r.conds.length<=12/\r.name.size<=9223372036854775807)(a5:∀r∈p.rules,∀c∈r.conds,c.Ok)
  (A:Option Addr)(c:Nat)(V:Option Addr)(X:Nat)(w:Ub)(hp:eI w w.heap.size A p.rules)(J:jv w w.heap.size V l)(ht:kC w):
  Calls Tryz.prog 6 #[nu p A c,T0 V l.length X] w (Dy p l w):=by
 have h1:=fun W hB b2 b3 Y b6=>MA p l h5 bf be (by omega) (fun r J=>⟨by have:=(D r J).1;omega,(D r J).2⟩) a5 A c V X w W hp J ht hB w.heap.size (w.heap.size+1) (w.heap.size+4) (w.heap.size+3) (by omega) (by omega) (by omega) b2 b3 Y b6
 have h2:=fun(G:Pl) (b:wA p l G) vs W hP hB Y b8=>MB G (Qo b.tab b.pol b.right b.plan Z (fun r J=>(D r J).1)) (oZ b.tab b.pol b.right b.plan Z (fun r J=>(D r J).1)) (Qn b.tab b.pol b.right b.plan) vs w W hP hB (w.heap.size+4) (w.heap.size+5) (by omega) Y b8
 have h3:=fun(G:Pl) (b:wA p l G) (a:List Nat) (t:∀c∈a,c<4294967296) (M:a.length<=25100) v ru W hv hB b8 b6=>MC (iH G a) (MH (ME b.tab b.pol b.right b.plan) t (ax (Cz (oZ b.tab b.pol b.right b.plan Z (fun r J=>(D r J).1))) (by omega)))
  (by
    have hm:=Cz (oZ b.tab b.pol b.right b.plan Z (fun r J=>(D r J).1));have:=Bl (jI G);unfold iH;rw[bw,DZ];omega) v ru w W hv hB (w.heap.size+5) (w.heap.size+3) (by omega) b8 b6
 unfold nu;clear hp J ht h5 bf be D a5;have N:=bK.new w 46 #[TY T6 p.kind,TY T6 p.num,T2 p.x32,T0 A p.rules.length c];have key:∀W0,W0=((((((w.alloc (Ua #[TY T6 p.kind,TY T6 p.num,T2 p.x32,T0 A p.rules.length c] 46)).alloc (Ua #[T0 V l.length X] 48)).alloc (Ua mW 39)).alloc (Ua mW 39)).alloc (Ua jb 67)).alloc (Ua #[T0 none 0 0] 68)).alloc (Ua (xy w.heap.size) 71)->
   Q6 p l A c V X w W0/\Dx p l w W0 0:=fun W0 e=>by
  have e1:=bK.new (w.alloc (Ua #[TY T6 p.kind,TY T6 p.num,T2 p.x32,T0 A p.rules.length c] 46)) 48 #[T0 V l.length X];have z1:(w.alloc (Ua #[TY T6 p.kind,TY T6 p.num,T2 p.x32,T0 A p.rules.length c] 46)).heap.size=w.heap.size+1:=by simp
  have q1:=(aw w.heap.size w).alloc (ae _) (Ua #[TY T6 p.kind,TY T6 p.num,T2 p.x32,T0 A p.rules.length c] 46);generalize w.alloc (Ua _ 46)=W1 at*;rw[z1]at e1;have N:=N.alloc (Ua #[T0 V l.length X] 48);have e2:=bK.new (W1.alloc (Ua #[T0 V l.length X] 48)) 39 mW;have z2:(W1.alloc (Ua #[T0 V l.length X] 48)).heap.size=w.heap.size+2:=by simp;omega
  have q2:=q1.alloc (by omega) (Ua #[T0 V l.length X] 48);generalize W1.alloc (Ua _ 48)=W2 at*;rw[z2]at e2;have N:=N.alloc (Ua mW 39);have e1:=e1.alloc (Ua mW 39);have e3:=bK.new (W2.alloc (Ua mW 39)) 39 mW;have z3:(W2.alloc (Ua mW 39)).heap.size=w.heap.size+3:=by simp;omega
  have q3:=q2.alloc (by omega) (Ua mW 39);generalize W2.alloc (Ua mW 39)=W3 at*;rw[z3]at e3;have N:=N.alloc (Ua mW 39);have e1:=e1.alloc (Ua mW 39);have e2:=e2.alloc (Ua mW 39);have e4:=bK.new (W3.alloc (Ua mW 39)) 67 jb;have z4:(W3.alloc (Ua mW 39)).heap.size=w.heap.size+4:=by simp;omega
  have q4:=q3.alloc (by omega) (Ua mW 39);generalize W3.alloc (Ua mW 39)=W4 at*;rw[z4]at e4;have N:=N.alloc (Ua jb 67);have e1:=e1.alloc (Ua jb 67);have e2:=e2.alloc (Ua jb 67);have e3:=e3.alloc (Ua jb 67);have e5:=bK.new (W4.alloc (Ua jb 67)) 68 #[T0 none 0 0];have z5:(W4.alloc (Ua jb 67)).heap.size=w.heap.size+5:=by simp;omega
  have q5:=q4.alloc (by omega) (Ua jb 67);generalize W4.alloc (Ua jb 67)=W5 at*;rw[z5]at e5;have N:=N.alloc (Ua #[T0 none 0 0] 68);have e1:=e1.alloc (Ua #[T0 none 0 0] 68);have e2:=e2.alloc (Ua #[T0 none 0 0] 68);have e3:=e3.alloc (Ua #[T0 none 0 0] 68);have e4:=e4.alloc (Ua #[T0 none 0 0] 68);have e6:=bK.new (W5.alloc (Ua #[T0 none 0 0] 68)) 71 (xy w.heap.size);have z6:(W5.alloc (Ua #[T0 none 0 0] 68)).heap.size=w.heap.size+6:=by simp;omega
  have q6:=q5.alloc (by omega) (Ua #[T0 none 0 0] 68);generalize W5.alloc (Ua _ 68)=W6 at*;rw[z6]at e6;subst e;exact⟨⟨q6.alloc (by omega) _,N.alloc _,e1.alloc _,e2.alloc _,e6⟩,e3.alloc _,e4.alloc _,e5.alloc _⟩
 unfold mW jb xy at key;generalize a4:l.length=ln at*;generalize a2:p.rules.length=rn at*;obtain⟨H1,H2,H3,bB,bR,bp⟩:=aF h1 h2 h3 key a4 a2;clear h1 h2 h3 key a4 a2;clear N;go_enter func6,ntmps6;go_wp2_with fail;simp only[eF,Nat.reduceAdd];obtain⟨j,F⟩:=bB.out _ rfl;obtain⟨R,z⟩:=aA j F;clear j F;go_loopw [23] (fun aE wr=>∃k:Nat,aE=TY T6 k/\k<=3/\Q6 p l A c V X w wr/\Dx p l w wr k) (fun aE _=>3 - (intOf aE).toNat)
 case atStart=>exact⟨0,rfl,by omega,R.out,z.out⟩
 case round=>
  obtain⟨k,rfl,hk,j,F⟩:=hrel;clear R z;have s:wr.cell? ⟨w.heap.size+6,0,none⟩=_:=j.bf.cell 0;have y:wr.cell? ⟨w.heap.size+6,1,none⟩=_:=j.bf.cell 1;have o:wr.cell? ⟨w.heap.size+6,2,none⟩=_:=j.bf.cell 2;have cr:=j.bf.lt;unfold xy at s y o;simp only[ao,QY,List.getElem?_cons_succ]at s y o;obtain rfl|rfl|rfl|rfl:k=0\/k=1\/k=2\/k=3:=by omega
  ·obtain⟨S,t4,t5⟩:=F;have al:=j.b2;have am:=j.b3;rw[bp.out]at al;rw[bR.out]at am;have hc:=H1.out wr j.below al am t4 S;obtain⟨R,T5,HC⟩:=aC j t5 hc;clear j t5 hc;clear S t4 al am y o;go_wp2_with fail;refine HC.out.mono ?_;rintro e w1 ⟨e1,rfl,hP⟩;obtain⟨d,g,vs,i,d7,a3,ab,O,T⟩:=hP;have f:=R.out.keep g d (by simp) (by simp) (by simp) (by simp);have d5:=g.blk T5.out (by simp);have b0:w1.cell? ⟨w.heap.size+3,2,none⟩=some (TY T6 i):=O.cell 2;have bv:=O.lt;have L:=f.b4;unfold mW at L;clear g R HC T5;by_cases n:e1=0
   ·subst n;have m:Dx p l w w1 1:=by
     obtain⟨G,b,hP⟩:=T rfl;exact⟨G,vs,i,b,hP,O,d7,d5⟩
    clear T ab a3 d7 O d5 L;obtain⟨B,z,u⟩:=aC f m d;clear f m d;go_wp2_with fail;go_roundw;case rel=>exact⟨1,rfl,by omega,B.out,z.out⟩
    case measure=>simp[intOf]
   have g0:(e1==0)=false:=by simpa using n
   clear T ab a3 d7 O d5;obtain⟨B,u,B4,ar⟩:=aB f d L n;clear f d L n;go_wp2_with (refine aR rfl 39 (.tmp 4) (.tmp 33) rfl (w.heap.size+2) #[T0 none 0 0,TY T6 0,TY T6 i] rfl rfl 39 _ B4.out (by kernel_rfl) rfl (by simp[Value.oneCell']) ?_;intro w7 Y H);have U:=u.out.grown H u.out.size (fun k e=>by cases e;omega);refine aO (bH (p:=4) (q:=5) (ty:=39) rfl _ _ (w.heap.size+2) _ _ _ _ _ rfl rfl Y underlying39 rfl (by kernel_rfl)) rfl ?_;exact⟨U,[],T0 none 0 0,i,e1,rfl,aX _ _ _ _,fun h=>absurd h (by have:=ar.out;omega)⟩
  ·obtain⟨G,vs,i,b,hP,S,t4,t5⟩:=F;have hc:=H2.out G b vs wr hP j.below t4 t5;obtain⟨R,T3,HC,HR⟩:=aB j S hc b;clear j S hc b;clear t4 t5 hP s o;go_wp2_with fail;refine HC.out.mono ?_;rintro e w1 ⟨rfl,d,g,a,v,t,M,d8,x⟩;have f:=R.out.keep g d (by simp) (by simp) (by simp) (by simp);have d3:=g.blk T3.out (by simp);have m:Dx p l w w1 2:=⟨G,a,v,i,HR.out,t,M,d3,d8,x⟩;clear g R HC T3 t M d8 x d3;obtain⟨B,z,u⟩:=aC f m d;clear f m d;go_wp2_with fail;go_roundw;case rel=>exact⟨2,rfl,by omega,B.out,z.out⟩
   case measure=>simp[intOf]
  ·obtain⟨G,a,v,i,b,t,M,S,t5,x⟩:=F;have hc:=H3.out G b a t M v i wr x j.below t5 S;obtain⟨R,HC,HR,bo⟩:=aB j hc b t;clear j hc b t;clear S t5 x s y M;go_wp2_with fail;refine HC.out.mono ?_;rintro e w1 ⟨e1,rfl,d,g,prog,vb,O,C,an,ap,E⟩;have f:=R.out.keep g d (by simp) (by simp) (by simp) (by simp);have b0:w1.cell? ⟨w.heap.size+3,2,none⟩=some (TY T6 i):=O.cell 2;have bv:=O.lt;have L:=f.b4;unfold mW at L;clear g R HC;by_cases n:e1=0
   ·subst n;have m:Dx p l w w1 3:=⟨prog,vb,i,⟨⟨G,a,HR.out,bo.out,E rfl⟩,an,ap⟩,O,C⟩;clear E an ap C O L;obtain⟨B,z,u⟩:=aC f m d;clear f m d;go_wp2_with fail;go_roundw;case rel=>exact⟨3,rfl,by omega,B.out,z.out⟩
    case measure=>simp[intOf]
   have g0:(((e1:Nat):Int)==0)=false:=by simp;omega
   clear E an ap C O;obtain⟨B,u,B4,ar⟩:=aB f d L n;clear f d L n;go_wp2_with (refine aR rfl 39 (.tmp 4) (.tmp 33) rfl (w.heap.size+2) #[T0 none 0 0,TY T6 0,TY T6 i] rfl rfl 39 _ B4.out (by kernel_rfl) rfl (by simp[Value.oneCell']) ?_;intro w7 Y H);have U:=u.out.grown H u.out.size (fun k e=>by cases e;omega);refine aO (bH (p:=4) (q:=5) (ty:=39) rfl _ _ (w.heap.size+2) _ _ _ _ _ rfl rfl Y underlying39 rfl (by kernel_rfl)) rfl ?_;exact⟨U,[],T0 none 0 0,i,(e1:Nat),rfl,aX _ _ _ _,fun h=>absurd h (by have:=ar.out;omega)⟩
  obtain⟨prog,v,i,ba,S,C⟩:=F;have L:=j.b4;unfold mW at L;have bb:=j.below;obtain⟨Ab,cb,rfl,_⟩:=cX C;clear j s y o;obtain⟨bs,T3,a6,B4,bi⟩:=aG ba S C L bb;clear ba S C L bb;go_wp2_with (first
   |(refine dv rfl 39 (.tmp 6) rfl (w.heap.size+3) rfl 39 #[T0 Ab (dF prog).length cb,TY T6 0,TY T6 i] (0,0) _ T3.out underlying39 rfl (by kernel_rfl) ?_)
   |(refine aR rfl 39 (.tmp 4) (.tmp 36) rfl (w.heap.size+2) #[T0 Ab (dF prog).length cb,TY T6 0,TY T6 i] rfl rfl 39 _ B4.out (by kernel_rfl) rfl (by simp[Value.oneCell']) ?_;intro w7 Y H))
  have U:=bi.out.grown H bi.out.size (fun k e=>by cases e;omega);refine aO (bH (p:=4) (q:=5) (ty:=39) rfl _ _ (w.heap.size+2) _ _ _ _ _ rfl rfl Y underlying39 rfl (by kernel_rfl)) rfl ?_;exact⟨U,prog,T0 Ab (dF prog).length cb,i,0,rfl,a6.out.kept H (.inr (cY a6.out B4.out (by decide))),fun _=>bs.out⟩
end
section
theorem Mz{L:List It}{F:Nat->Bool}{i:I}(h:i∈kS L F):i.code=5\/i.code=0\/∃x∈L,i.code=x.code:=by
 unfold kS qg at h;obtain⟨n,_,h⟩:=db.1 h;have a:(gw L n).code=0\/∃x∈L,(gw L n).code=x.code:=by
  unfold gw;rw[aa];cases e:(dR L)[n]? with
  |none=>exact .inl rfl
  |some x=>exact .inr ⟨x,(gO.1 (iw e)).1,rfl⟩
 unfold kG at h;repeat' split at h
 all_goals simp only[aP,bQ,eW]at h
 all_goals first
  |(subst h;exact .inr a)
  |(rcases h with h|h|h<;>subst h<;>first|exact .inl rfl|exact .inr a)
theorem uH{c:Nat}(h:Jk c)(i:I)(a:i.code=c):SimpK (kd i):=by
 unfold kd;rw[a];rcases h with rfl|rfl|rfl|rfl|rfl|rfl|rfl|rfl|rfl<;>(unfold SimpK;decide)
theorem J8{p:Po}{l:List Rw}{prog:List I}(h:ov p l prog):∀i∈prog,SimpK (kd i):=fun i d=>by
 obtain⟨⟨g,b,a,c,e⟩,_,_⟩:=h;obtain⟨F,j,rfl⟩:=e.laid;rcases Mz d with h|h|⟨x,f,h⟩
 ·exact uH (.inr (.inl rfl)) i h
 ·exact uH (.inl rfl) i h
 exact uH (AK (ME a.tab a.pol a.right a.plan) c x f).code i h
theorem Ge{p:Po}{l:List Rw}{prog:List I}(h:ov p l prog)(r:Rc)(g:r.Ok):(QR prog (pN r)).1=judgeP p l r/\(fK prog).2=0:=by
 obtain⟨⟨m,c,a,_,b⟩,_,_⟩:=h;obtain⟨F,j,rfl⟩:=b.laid;have d:=b.chk;have k:uP r.args:=fun n=>by
  rw[aa];cases e:r.args[n]? with
  |none=>exact iS _
  |some x=>exact g.args x (iw e)
 have f:=MX (GJ a.tab a.pol a.plan) b.form (PZ r g);rw[GH a.tab a.pol a.plan r k]at f;have i:=Gh b.form j d f;refine⟨?_,d⟩;unfold QR;rw[aj d];exact i
end
section
open Go.RowKit
structure Qb(p:Po):Prop where
 rules:p.rules.length<=40
 conds:∀r∈p.rules,r.conds.length<=12
theorem qe{p:Po}(h:pO p=true):Qb p:=by
 unfold pO at h;simp only[bG,aV,cL]at h;exact⟨h.1,fun r a=>(h.2 r a).2⟩
theorem Gc{l:List Rw}(h:F0 l=true):l.length<=40:=by
 unfold F0 at h;simp only[bG,aV]at h;exact h.1
theorem Mx{p:Po}{l:List Rw}{prog:List I}(h:ov p l prog)(m:∀r∈l,r.nums.length=5)(j:l.length<=40)(f:Qb p)(r:Rc)(o:r.Ok)(A b:Option Addr)(c g:Nat)(w:Ub)(n:eI w w.heap.size A p.rules)(k:jv w w.heap.size b l):
  TV 12 #[nu p A c,T0 b l.length g,CF r] w (TY T6 (judgeP p l r:Nat)):=by
 obtain⟨⟨s,a,d,q⟩,_,_⟩:=h;exact FZ p l r o m (by omega) (by have:=f.rules;omega) d.pol.act d.pol.acts (fun x i=>⟨by have:=f.conds x i;omega,d.pol.conds x i⟩) A b c g w n k
structure Qm(w:Ub)(pv qv rv:Array Uc)(g8:Nat)(W:Ub):Prop where
 below:Below w.heap.size w W
 b0:bK W w.heap.size 26 pv
 b1:bK W (w.heap.size+1) 26 qv
 b8:bK W g8 32 rv
theorem Qm.keep{w:Ub}{f b e:Array Uc}{d:Nat}{W c:Ub}(h:Qm w f b e d W)(a:Below W.heap.size W c):Qm w f b e d c:=
 ⟨h.below.trans (a.mono h.below.size),h.b0.below a h.b0.lt,h.b1.below a h.b1.lt,h.b8.below a h.b8.lt⟩
theorem Qm.alloc{w:Ub}{d a c:Array Uc}{b:Nat}{W:Ub}(h:Qm w d a c b W)(o:Obj):Qm w d a c b (W.alloc o):=h.keep ((aw _ W).alloc (ae _) o)
def J6(V:Nat)(W:Ub)(e:Ending)(w':Ub):Prop:=e=.returned (T4 #[TY T7 V,TY T6 0])/\Below W.heap.size W w'
theorem AF{p:Po}{l:List Rw}{prog:List I}(h:ov p l prog)(r:Rc)(g:r.Ok)(A:Option Addr)(n c:Nat)(i:n=(dF prog).length)(b:n<=c)(k:c<=maxLen)(B:Option Addr)(d:Nat)(W:Ub)(f:bh W W.heap.size 1 A n (dN (dF prog)))(j:bh W W.heap.size 1 B 64 (dN (pN r))):
  Calls Tryz.prog 10 #[T0 A n c,T0 B 64 d] W (J6 (judgeP p l r) W):=by
 obtain⟨e1,e2⟩:=Ge h r g;refine(OJ prog h.ok (J8 h) h.len (pN r) (PY r) A n c i b k B d W f j).mono fun e w' a=>?_
 unfold vD at a;rw[e1,e2]at a;exact⟨a.2,a.1⟩
def My(r:Rc)(W:Ub)(e:Ending)(w':Ub):Prop:=∃B a,e=.returned (T0 B 64 a)/\bh w' w'.heap.size 1 B 64 (dN (pN r))/\Below W.heap.size W w'
theorem J7(r:Rc)(b:r.Ok)(W:Ub):Calls Tryz.prog 11 #[CF r,T2 false] W (My r W):=by
 refine(I3 r b W).mono fun e w' h=>?_
 obtain⟨v,rfl,a,f⟩:=h;rw[qX r b.len]at a;obtain⟨A,c,rfl,d⟩:=cX a;exact⟨A,c,rfl,d,f⟩
def Gd(p:Po)(l:List Rw)(w:Ub)(e:Ending)(w':Ub):Prop:=Below w.heap.size w w'/\∃(prog:List I) (A:Option Addr) (cap:Nat) (a k:Int),e=.returned (T4 #[T1 #[T0 A (dF prog).length cap,TY T6 0,TY T6 a],TY T6 k])/\(dF prog).length<=cap/\cap<=maxLen/\
 bh w' w'.heap.size 1 A (dF prog).length (dN (dF prog))/\(k=0->ov p l prog)
theorem Dw(p q:Po)(l:List Rw)(r:Rc)(hr:r.Ok)(A A2 R:Option Addr)(c c2 T:Nat)(w:Ub)
  (hp:eI w w.heap.size A p.rules)(hq:eI w w.heap.size A2 q.rules)(ht:jv w w.heap.size R l)(d7:∀x∈p.rules,I6 x)(ef:∀x∈q.rules,I6 x)(b3:∀x∈l,P0 x)
  (hj:p.rules.length<=maxLen)(hS:q.rules.length<=maxLen)(gn:l.length<=maxLen)(hT:kC w):
  TV 3 #[nu p A c,nu q A2 c2,Dm R l.length T r] w (T2 true):=by
 have h5:∀x∈l,x.nums.length=5:=fun x g=>(b3 x g).five
 have bv:maxLen<=9223372036854775807:=by unfold maxLen;omega
 have gc:∀x∈l,x.name.size<=9223372036854775807:=fun x g=>ax (b3 x g).name bv
 have V:=fun(P:Po) B d (hP:eI w w.heap.size B P.rules) (hi:∀x∈P.rules,I6 x) (hn:P.rules.length<=maxLen) (W:Ub) (t:Below w.heap.size w W)=>Mj P B d W ((hP.below t).more t.size) (fun x g=>⟨(hi x g).name,(hi x g).len⟩) hn
 have lp:=V p A c hp d7 hj;have N:=V q A2 c2 hq ef hS;have lf:=fun(W:Ub) (t:Below w.heap.size w W)=>P5 l h5 R T W ((ht.below t).more t.size) (fun x g=>(b3 x g).name) gn
 have dk:=fun(P:Po) B d (hP:eI w w.heap.size B P.rules) (hL:pO P=true) (W:Ub) (t:Below w.heap.size w W)=>KV P B d (by have:=(qe hL).rules;omega) (fun x g=>by have:=(qe hL).conds x g;omega) W ((hP.below t).more t.size)
 have b7:=dk p A c hp;have cc:=dk q A2 c2 hq;have ez:=fun(hF:F0 l=true) (W:Ub) (t:Below w.heap.size w W)=>OO l h5 R T (by have:=Gc hF;omega) W ((ht.below t).more t.size)
 have comp:=fun(P:Po) (hi:∀x∈P.rules,I6 x) (hL:pO P=true) (hF:F0 l=true) (W:Ub) (t:Below w.heap.size w W) B d B2 d2 (hP:eI W W.heap.size B P.rules) (hR:jv W W.heap.size B2 l)=>
  ((Dz P l h5 gc (by have:=Gc hF;omega) (qe hL).rules (fun x g=>⟨(qe hL).conds x g,ax (hi x g).name bv⟩) (fun x g=>(hi x g).ok) B d B2 d2 W hP hR (hT.below t (ae _))).mono (R':=Gd P l W) fun e w' h=>by
    obtain⟨M,prog,v,ru,k,rfl,ho,hk⟩:=h;obtain⟨C,cap,rfl,e1,e2,ln⟩:=oF ho;exact⟨M,prog,C,cap,ru,k,rfl,e1,e2,ln,hk⟩)
 have f4:=comp p d7;have f7:=comp q ef;have ds:=fun(W:Ub)=>J7 r hr W
 have ey:=fun(prog:List I) (h:ov p l prog)=>AF h r hr
 have gA:=fun(prog:List I) (h:ov q l prog)=>AF h r hr
 have jg:=fun(P:Po) B d (hP:eI w w.heap.size B P.rules) (hL:pO P=true) (hF:F0 l=true) (prog:List I) (h:ov P l prog) (W:Ub) (t:Below w.heap.size w W)=>Mx h h5 (Gc hF) (qe hL) r hr B R d T W ((hP.below t).more t.size) ((ht.below t).more t.size)
 have am:=jg p A c hp;have an:=jg q A2 c2 hq;obtain⟨a0,a1,a2,a3,a4,a5,ea⟩:=zD r.args hr.len;have bf:CF r=T1 #[TY T7 r.number,TY T7 r.arch,TY T8 r.ptr,TY T8 a0,TY T8 a1,TY T8 a2,TY T8 a3,TY T8 a4,TY T8 a5]:=by unfold CF;rw[ea];rfl
 have g4:Dm R l.length T r=T1 #[T0 R l.length T,TY T7 r.number,TY T7 r.arch,TY T8 r.ptr,TY T8 a0,TY T8 a1,TY T8 a2,TY T8 a3,TY T8 a4,TY T8 a5]:=by unfold Dm;rw[ea];rfl
 rw[g4];rw[bf]at ds am an;clear bf g4 ea;clear V dk comp jg hp hq ht d7 ef b3 hj hS gn hT h5 bv gc;unfold nu at lp N b7 cc am an⊢;generalize judgeP p l r=O at*;generalize judgeP q l r=S at*;generalize r.number=rn at*;generalize r.arch=ra at*;generalize r.ptr=rp at*;generalize hn:l.length=n at*;obtain⟨pv,ca⟩:∃pv:Array Uc,pv=#[TY T6 p.kind,TY T6 p.num,T2 p.x32,T0 A p.rules.length c]:=⟨_,rfl⟩;obtain⟨qv,b9⟩:∃qv:Array Uc,qv=#[TY T6 q.kind,TY T6 q.num,T2 q.x32,T0 A2 q.rules.length c2]:=⟨_,rfl⟩;have fa:pv.size=4:=by rw[ca];rfl
 have hb:qv.size=4:=by rw[b9];rfl
 rw[<-ca]at lp b7 am;rw[<-b9]at N cc an;obtain⟨LP,LQ,LF,hY,gs,d5,g2,hw,el⟩:=ay lp N lf b7 cc ez f4 f7 ds;obtain⟨f1,hc,fx,hM,HN,b5,b4⟩:=az ey gA am an hn fa hb;clear lp N lf b7 cc ez f4 f7 ds ey gA am an hn fa hb;clear hr;obtain⟨lm,ag⟩:=aA ca b9;clear ca b9;go_enter func3,ntmps3;go_wp2_with fail;refine uf fun W1 b0 b1 b2 hm i2=>?_
 rw[<-lm.out]at b0;rw[<-ag.out]at b1;clear i2;obtain⟨B0,B1,B2,ec⟩:=aB b0 b1 b2 hm;clear b0 b1 b2 hm;have c0:W1.drew.cell? ⟨w.heap.size+1+1,0,none⟩=some (T0 R n T):=bK.cell B2.out 0;have gl:W1.drew.rangeAt (w.heap.size+1+1) 1 [TY T7 rn,TY T7 ra,TY T8 rp,TY T8 a0,TY T8 a1,TY T8 a2,TY T8 a3,TY T8 a4,TY T8 a5]:=fun i x g=>by
  refine(bK.cell B2.out (1+i)).trans ?_;match i,g with
  |0,g=>exact g
  |1,g=>exact g
  |2,g=>exact g
  |3,g=>exact g
  |4,g=>exact g
  |5,g=>exact g
  |6,g=>exact g
  |7,g=>exact g
  |8,g=>exact g
 have km:w.heap.size+1+1<W1.heap.size:=dw B2.out;clear B2;refine Any.wp_region_tailD 6 eL (nQ [(17,.eq (TZ (some ⟨w.heap.size+1+1,0,none⟩))),(18,.eq (T0 R n T)),(19,.eq (TZ (some ⟨w.heap.size+1+1,1,none⟩))),(20,.eq (T1 #[TY T7 rn,TY T7 ra,TY T8 rp,TY T8 a0,TY T8 a1,TY T8 a2,TY T8 a3,TY T8 a4,TY T8 a5])),(8,.SJ W1.heap.size 32 #[TY T7 0,TY T7 0,TY T8 0,TY T8 0,TY T8 0,TY T8 0,TY T8 0,TY T8 0,TY T8 0]),(7,.eq (T0 R n T))]) (fun _ _=>True) trivial [17,18,19,20,8,7] [17,18,19,20,8,7] (by kernel_rfl) (by kernel_rfl) (by kernel_rfl) (by kernel_rfl) (by kernel_rfl) (by decide) ⟨?_,?_,?_,?_,?_,?_,trivial⟩ ?_
 ·refine Any.st_j ?_;exact Any.st_old1 17 5 _ _ (.plain rfl) rfl (by decide) rfl (fun a w h=>by unfold execOp;simp only[h];first|(simp[go_sem];done)|(simp[go_sem];omega)|(simp[go_sem, *];done)) (fun _ _=>rfl)
 ·refine Any.st_j ?_;exact Any.sx_load_at 18 17 _ _ _ (.plain rfl) rfl rfl (by decide) rfl (by assumption) (fun w h=>by simp[go_sem,h]) rfl
 ·refine Any.st_j ?_;exact Any.st_old1 19 5 _ _ (.plain rfl) rfl (by decide) rfl (fun a w h=>by unfold execOp;simp only[h];first|(simp[go_sem];done)|(simp[go_sem];omega)|(simp[go_sem, *];done)) (fun _ _=>rfl)
 ·refine Any.st_j ?_;exact Any.sx_load_mid 20 19 _ _ _ _ _ (.plain rfl) rfl rfl (by decide) rfl (by first|assumption|(simp;omega)|omega) (gl) underlying32 rfl (by kernel_rfl) rfl
 ·refine Any.st_j ?_;exact Any.SH 8 _ _ _ _ (.plain rfl) rfl rfl (ae _) (fun W=>by kernel_rfl) rfl
 ·refine Any.st_j ?_;exact Any.st_copy 7 18 (.plain rfl) (by first|exact .inl rfl|exact .inr rfl) rfl (by decide) rfl
 intro f w5 h0 b;have hK:f 17=TZ (some ⟨w.heap.size+1+1,0,none⟩):=b 17 rfl;have hQ:f 18=T0 R n T:=b 18 rfl;have hJ:f 19=TZ (some ⟨w.heap.size+1+1,1,none⟩):=b 19 rfl;have e7:f 20=T1 #[TY T7 rn,TY T7 ra,TY T8 rp,TY T8 a0,TY T8 a1,TY T8 a2,TY T8 a3,TY T8 a4,TY T8 a5]:=b 20 rfl;have h8:=b 8 rfl;have h7:f 7=T0 R n T:=b 7 rfl;simp only[Any.fill,bC,bL,aq,aI,aH,bg,bZ,hK,hQ,hJ,e7,h7];obtain⟨g8,e8,gf,b8⟩:=h8;rw[e8];have aE:aS W1 w5:=(aS.refl W1).drew.trans h0;clear h0 b hK hQ hJ e7 h7 c0 gl;generalize f 20=nL at*;have B8:=Lib.hid b8;clear b8;go_wp2_with (first
  |(refine aR rfl 32 (.tmp 8) (.tmp 20) rfl g8 #[TY T7 rn,TY T7 ra,TY T8 rp,TY T8 a0,TY T8 a1,TY T8 a2,TY T8 a3,TY T8 a4,TY T8 a5] rfl rfl 32 _ B8.out (by kernel_rfl) rfl (by simp[Value.oneCell']) ?_
    intro w6 b6 fq;have Z:aS W1 w6:=R5 (B:=W1.heap.size) aE fq aE.size (fun k e=>by cases e;exact gf);generalize bf:(#[TY T7 rn,TY T7 ra,TY T8 rp,TY T8 a0,TY T8 a1,TY T8 a2,TY T8 a3,TY T8 a4,TY T8 a5]:Array Uc)=rv at*;have fv:rv.size=9:=by rw[<-bf];rfl
    clear bf;have s6:Qm w pv qv rv g8 w6:=⟨ec.out.trans (Z.mono ec.out.size),B0.out.below Z B0.out.lt,B1.out.below Z B1.out.lt,b6⟩;clear Z aE fq b6 gf B0 B1 ec B8 km;obtain⟨S6,cd⟩:=aA s6 fv;clear s6 fv)
  |(refine dv rfl 26 (.tmp 3) rfl (w.heap.size) rfl 26 pv (0,0) _ S6.out.b0 underlying26 rfl (by first|(rw[b5.out];kernel_rfl)|(rw[b4.out];kernel_rfl)) ?_))
 have lp:=LP.out;have N:=LQ.out;have lf:=LF.out;rcases bx : pO p with _ | _
 ·simp only[bx]at lp;clear N lf;refine(lp w6 S6.out.below).mono ?_;rintro e w7 ⟨rfl,bp⟩;have s7:=S6.out.keep bp;have S7:=Lib.hid s7;clear s7;clear bp lp;go_wp2_with fail;go_ret;exact⟨rfl,S7.out.below⟩
 simp only[bx]at lp;obtain⟨LQ,LF⟩:=aA N lf;clear N lf;refine(lp w6 S6.out.below).mono ?_;rintro e w7 ⟨rfl,bp⟩;have s7:=S6.out.keep bp;have S7:=Lib.hid s7;clear s7;clear bp lp S6;have N:=LQ.out;rw[ag.out]at N;have q0:w7.cell? ⟨w.heap.size+1,0,none⟩=some (TY T6 q.kind):=by have:=S7.out.b1.cell 0;rw[ag.out]at this;exact this
 have q1:w7.cell? ⟨w.heap.size+1,1,none⟩=some (TY T6 q.num):=by have:=S7.out.b1.cell 1;rw[ag.out]at this;exact this
 have q2:w7.cell? ⟨w.heap.size+1,2,none⟩=some (T2 q.x32):=by have:=S7.out.b1.cell 2;rw[ag.out]at this;exact this
 have q3:w7.cell? ⟨w.heap.size+1,3,none⟩=some (T0 A2 q.rules.length c2):=by have:=S7.out.b1.cell 3;rw[ag.out]at this;exact this
 rcases bk : pO q with _ | _
 ·simp only[bk]at N;go_wp2_with fail;refine(N w7 S7.out.below).mono ?_;rintro e w8 ⟨rfl,bb⟩;have s8:=S7.out.keep bb;have S8:=Lib.hid s8;clear s8;clear bb N q0 q1 q2 q3;go_wp2_with fail;go_ret;exact⟨rfl,S8.out.below⟩
 simp only[bk]at N;go_wp2_with fail;refine(N w7 S7.out.below).mono ?_;rintro e w8 ⟨rfl,bb⟩;have s8:=S7.out.keep bb;have S8:=Lib.hid s8;clear s8;clear bb N S7 q0 q1 q2 q3;have lf:=LF.out;rcases z : F0 l with _ | _
 ·simp only[z]at lf;go_wp2_with fail;refine(lf w8 S8.out.below).mono ?_;rintro e w9 ⟨rfl,rfl⟩;clear lf;go_wp2_with fail;go_ret;exact⟨rfl,S8.out.below⟩
 simp only[z]at lf;go_wp2_with fail;refine(lf w8 S8.out.below).mono ?_;rintro e w9 ⟨rfl,rfl⟩;clear lf LP LQ LF;go_wp2_with (refine dv rfl 26 (.tmp 3) rfl (w.heap.size) rfl 26 pv (0,0) _ S8.out.b0 underlying26 rfl (by first|(rw[b5.out];kernel_rfl)|(rw[b4.out];kernel_rfl)) ?_);refine(hY.out bx w8 S8.out.below).mono ?_;rintro e w9 ⟨B9,d9,rfl,av,d1⟩;have s9:=S8.out.keep d1;have ge:aS w8 w9:=d1;obtain⟨S9,a6,hV⟩:=aC s9 av ge;clear s9 av ge;clear d1 hY;go_wp2_with fail;refine(d5.out z w9 S9.out.below).mono ?_;rintro e ft ⟨l2,mo,rfl,c6,J⟩;have av:=(a6.out.below J).more J.size;have hv:=S9.out.keep J;have cm:aS w8 ft:=hV.out.trans J;clear a6 S9 hV J;obtain⟨d6,cf,a6,cx⟩:=aB hv c6 av cm;clear hv c6 av cm;have a7:=g2.out bx z ft d6.out.below B9 d9 l2 mo a6.out cf.out;rw[HN.out];have br:=Lib.hid a7;clear a7;go_wp2_with fail;refine br.out.mono ?_;rintro e H ⟨ak,U,C1,j,al,k1,rfl,d3,ga,bB,he⟩;have e3:=d6.out.keep ak;have c4:aS w8 H:=cx.out.trans ak;obtain⟨n1,d4⟩:∃n1,n1=(dF U).length:=⟨_,rfl⟩;rw[<-d4]at d3 bB⊢;clear d6 a6 cf cx br g2 ak;have f6:=e3.alloc (Ua #[T0 C1 n1 j,TY T6 0,TY T6 al] 39);have cu:aS w8 (H.alloc (Ua #[T0 C1 n1 j,TY T6 0,TY T6 al] 39)):=c4.alloc _;have hs:=bK.new H 39 #[T0 C1 n1 j,TY T6 0,TY T6 al];have bB:=(bB.below ((aw _ H).alloc (ae _) (Ua #[T0 C1 n1 j,TY T6 0,TY T6 al] 39))).more ((aw H.heap.size H).alloc (ae _) (Ua #[T0 C1 n1 j,TY T6 0,TY T6 al] 39)).size;clear e3 c4;obtain⟨ed,mx,eh,hD,gm,k5,ir,mm⟩:=aD f6 cu hs bB he d4 d3 ga;clear f6 cu hs bB he d4 d3 ga;go_wp2_with (refine dv rfl 26 (.tmp 4) rfl (w.heap.size+1) rfl 26 qv (0,0) _ ed.out.b1 underlying26 rfl (by first|(rw[b5.out];kernel_rfl)|(rw[b4.out];kernel_rfl)) ?_);generalize fb:(H.alloc (Ua _ 39))=bA at*;clear fb;generalize H.heap.size=ei at*;refine(gs.out bk bA ed.out.below).mono ?_;rintro e f8 ⟨l1,im,rfl,y,ap⟩;have hH:=ed.out.keep ap;have cv:aS bA f8:=ap;obtain⟨d8,E,cn⟩:=aC hH y cv;clear hH y cv;clear ap gs;go_wp2_with fail;refine(d5.out z f8 d8.out.below).mono ?_;rintro e hO ⟨j0,md,rfl,c1,G⟩;have y:=(E.out.below G).more G.size;have e9:=d8.out.keep G;have ck:aS bA hO:=cn.out.trans G;clear E d8 cn G;obtain⟨ej,ct,E,cp⟩:=aB e9 c1 y ck;clear e9 c1 y ck;have a7:=hw.out bk z hO ej.out.below l1 im j0 md E.out ct.out;rw[HN.out];have br:=Lib.hid a7;clear a7;go_wp2_with fail;refine br.out.mono ?_;rintro e F ⟨ar,Y,C2,m,bm,k2,rfl,em,hz,bs,f2⟩;have hd:=ej.out.keep ar;have c5:aS bA F:=cp.out.trans ar;obtain⟨n2,er⟩:∃n2,n2=(dF Y).length:=⟨_,rfl⟩;rw[<-er]at em bs⊢;clear ej E ct cp br hw ar;have fy:=hd.alloc (Ua #[T0 C2 n2 m,TY T6 0,TY T6 bm] 39);have cs:aS bA (F.alloc (Ua #[T0 C2 n2 m,TY T6 0,TY T6 bm] 39)):=c5.alloc _;have ha:=bK.new F 39 #[T0 C2 n2 m,TY T6 0,TY T6 bm];have bs:=(bs.below ((aw _ F).alloc (ae _) (Ua #[T0 C2 n2 m,TY T6 0,TY T6 bm] 39))).more ((aw F.heap.size F).alloc (ae _) (Ua #[T0 C2 n2 m,TY T6 0,TY T6 bm] 39)).size;clear hd c5;obtain⟨X,bo,gp,e6,g7,io,k6,i3⟩:=aD fy cs ha bs f2 er em hz;clear fy cs ha bs f2 er em hz;by_cases M:k1=0;case neg=>
  have ni:(k1==0)=false:=by simpa using M
  go_wp2_with fail;refine(sS _).mono ?_
  rintro e ks ⟨rfl,D⟩;have o:=X.out.below.trans (D.mono X.out.below.size);have L:=Lib.hid o;clear o;clear D;go_wp2_with fail;go_ret;exact⟨rfl,L.out⟩
 by_cases h2:k2=0;case neg=>
  subst M;have nx:(k2==0)=false:=by simpa using h2
  go_wp2_with fail;refine(sS _).mono ?_
  rintro e ks ⟨rfl,D⟩;have o:=X.out.below.trans (D.mono X.out.below.size);have L:=Lib.hid o;clear o;clear D;go_wp2_with fail;go_ret;exact⟨rfl,L.out⟩
 subst M h2;go_wp2_with fail;generalize hE:(F.alloc (Ua _ 39))=eq at*;clear hE;generalize F.heap.size=dl at*;have g5:=gm.out (by first|trivial|rfl);have gb:=g7.out (by first|trivial|rfl);have be:=eh.out.below bo.out eh.out.lt;have g3:=(hD.out.below bo.out).more bo.out.size;clear eh hD gm g7;have j1:eq.drew.cell? ⟨ei,0,none⟩=some (T0 C1 n1 j):=be.cell 0;have co:=gp.out;obtain⟨hX,e0,hg,bi⟩:=aB g5 gb be co;clear g5 gb be co;have ex:=Lib.hid g3;have bl:=e6;clear g3 e6 gp;refine Any.wp_region_kinds eL (nQ [(58,.eq (TZ (some ⟨ei,0,none⟩))),(59,.eq (T0 C1 n1 j)),(60,.eq (T1 rv)),(61,.row 1 64 (dN (pN r))),(62,.eq (T4 #[TY T7 O,TY T6 0])),(57,.eq (T4 #[TY T7 O,TY T6 0])),(63,.eq (TY T7 O)),(64,.eq (TY T6 0)),(13,.eq (TY T7 O)),(14,.eq (TY T6 0))]) [58,59,60,61,62,57,63,64,13,14] (by kernel_rfl) (by kernel_rfl) (by kernel_rfl) ⟨?_,?_,?_,?_,?_,?_,?_,?_,?_,?_,trivial⟩ ?_
 ·exact Any.st_old1 58 9 _ _ (.plain rfl) rfl (by decide) rfl (fun a w h=>by unfold execOp;simp only[h];first|(simp[go_sem];done)|(simp[go_sem];omega)|(simp[go_sem, *];done)) (fun _ _=>rfl)
 ·exact Any.sx_load_at 59 58 _ _ _ (.plain rfl) rfl rfl (by decide) rfl (by assumption) (fun w h=>by simp[go_sem,h]) rfl
 ·exact Any.st_load_row 60 8 _ g8 32 _ _ (.plain rfl) rfl rfl (by decide) rfl X.out.b8 underlying32 rfl (by rw[cd.out];kernel_rfl) rfl
 ·exact Any.st_callv 61 _ (.plain rfl) rfl rfl func11 (by kernel_rfl) rfl (fun a w h=>by have jt:a.eval (.tmp 60)=_:=h.eqv 60 (by decide) rfl;simp only[aQ,aJ,a8,jt]<;>rfl) (fun W hW=>(el.out W).mono (fun e w' h=>by obtain⟨B,cb,rfl,hr,t⟩:=h;exact⟨_,rfl,⟨B,cb,rfl,hr⟩,t⟩))
 ·refine Any.st_run (.plain rfl) fun a W h=>?_
  have lo:a.eval (.tmp 59)=_:=h.eqv 59 (by decide) rfl;obtain⟨B,cb,ld,d0⟩:∃B cb,a.eval (.tmp 61)=T0 B 64 cb/\bh W W.heap.size 1 B 64 (dN (pN r)):=h.at 61 (by decide);exact Any.wp_call 62 rfl rfl func10 (by kernel_rfl) rfl (vs:=#[T0 C1 n1 j,T0 B 64 cb]) (by simp only[aQ,aJ,a8,lo,ld]) ((f1.out U hX.out C1 n1 j k5.out ir.out mm.out B cb W ((ex.out.below ((aS.refl _).drew.trans h.grows)).more ((aS.refl _).drew.trans h.grows).size) d0).mono fun e w' hh=>⟨_,hh.1,rfl,hh.2⟩)
 ·exact Any.st_copy 57 62 (.plain rfl) (by first|exact .inl rfl|exact .inr rfl) rfl (by decide) rfl
 ·exact Any.sx_one 63 57 _ _ (.plain rfl) rfl (by decide) rfl (fun a w h=>by unfold execOp;simp only[h];first|(simp[go_sem];done)|(simp[go_sem];omega)|(simp[go_sem, *];done)) rfl
 ·exact Any.sx_one 64 57 _ _ (.plain rfl) rfl (by decide) rfl (fun a w h=>by unfold execOp;simp only[h];first|(simp[go_sem];done)|(simp[go_sem];omega)|(simp[go_sem, *];done)) rfl
 ·exact Any.st_copy 13 63 (.plain rfl) (by first|exact .inl rfl|exact .inr rfl) rfl (by decide) rfl
 ·exact Any.st_copy 14 64 (.plain rfl) (by first|exact .inl rfl|exact .inr rfl) rfl (by decide) rfl
 intro f ce cg b;have fd:f 58=TZ (some ⟨ei,0,none⟩):=b 58 rfl;have fi:f 59=T0 C1 n1 j:=b 59 rfl;have hy:f 60=T1 rv:=b 60 rfl;have d0:=b 61 rfl;have gr:f 62=T4 #[TY T7 O,TY T6 0]:=b 62 rfl;have f3:f 57=T4 #[TY T7 O,TY T6 0]:=b 57 rfl;have hN:f 63=TY T7 O:=b 63 rfl;have hI:f 64=TY T6 0:=b 64 rfl;have hl:f 13=TY T7 O:=b 13 rfl;have gg:f 14=TY T6 0:=b 14 rfl;simp only[Any.fill,bC,bL,aq,aI,aH,bg,bZ,fd,fi,hy,gr,f3,hN,hI,hl,gg];have s:aS eq ce:=(aS.refl eq).drew.trans cg;have g1:=X.out.keep s;generalize f 61=nr at*;have fz:=(bl.out.below s).more s.size;have kl:ce.drew.cell? ⟨dl,0,none⟩=some (T0 C2 n2 m):=(bi.out.below s bi.out.lt).cell 0;clear b cg s fd fi hy d0 gr f3 hN hI hl gg j1 bl hg bi X ex;have bl:=Lib.hid fz;clear fz;have ek:=Lib.hid g1;clear g1;go_wp2_with fail;refine Any.wp_region_kinds eL (nQ [(66,.eq (TZ (some ⟨dl,0,none⟩))),(67,.eq (T0 C2 n2 m)),(68,.eq (T1 rv)),(69,.row 1 64 (dN (pN r))),(70,.eq (T4 #[TY T7 S,TY T6 0])),(65,.eq (T4 #[TY T7 S,TY T6 0])),(71,.eq (TY T7 S)),(72,.eq (TY T6 0)),(15,.eq (TY T7 S)),(16,.eq (TY T6 0))]) [66,67,68,69,70,65,71,72,15,16] (by kernel_rfl) (by kernel_rfl) (by kernel_rfl) ⟨?_,?_,?_,?_,?_,?_,?_,?_,?_,?_,trivial⟩ ?_
 ·exact Any.st_old1 66 11 _ _ (.plain rfl) rfl (by decide) rfl (fun a w h=>by unfold execOp;simp only[h];first|(simp[go_sem];done)|(simp[go_sem];omega)|(simp[go_sem, *];done)) (fun _ _=>rfl)
 ·exact Any.sx_load_at 67 66 _ _ _ (.plain rfl) rfl rfl (by decide) rfl (by assumption) (fun w h=>by simp[go_sem,h]) rfl
 ·exact Any.st_load_row 68 8 _ g8 32 _ _ (.plain rfl) rfl rfl (by decide) rfl ek.out.b8 underlying32 rfl (by rw[cd.out];kernel_rfl) rfl
 ·exact Any.st_callv 69 _ (.plain rfl) rfl rfl func11 (by kernel_rfl) rfl (fun a w h=>by have la:a.eval (.tmp 68)=_:=h.eqv 68 (by decide) rfl;simp only[aQ,aJ,a8,la]<;>rfl) (fun W hW=>(el.out W).mono (fun e w' h=>by obtain⟨B,cb,rfl,hr,t⟩:=h;exact⟨_,rfl,⟨B,cb,rfl,hr⟩,t⟩))
 ·refine Any.st_run (.plain rfl) fun a W h=>?_
  have k4:a.eval (.tmp 67)=_:=h.eqv 67 (by decide) rfl;obtain⟨B,cb,l6,c9⟩:∃B cb,a.eval (.tmp 69)=T0 B 64 cb/\bh W W.heap.size 1 B 64 (dN (pN r)):=h.at 69 (by decide);exact Any.wp_call 70 rfl rfl func10 (by kernel_rfl) rfl (vs:=#[T0 C2 n2 m,T0 B 64 cb]) (by simp only[aQ,aJ,a8,k4,l6]) ((hc.out Y e0.out C2 n2 m io.out k6.out i3.out B cb W ((bl.out.below ((aS.refl _).drew.trans h.grows)).more ((aS.refl _).drew.trans h.grows).size) c9).mono fun e w' hh=>⟨_,hh.1,rfl,hh.2⟩)
 ·exact Any.st_copy 65 70 (.plain rfl) (by first|exact .inl rfl|exact .inr rfl) rfl (by decide) rfl
 ·exact Any.sx_one 71 65 _ _ (.plain rfl) rfl (by decide) rfl (fun a w h=>by unfold execOp;simp only[h];first|(simp[go_sem];done)|(simp[go_sem];omega)|(simp[go_sem, *];done)) rfl
 ·exact Any.sx_one 72 65 _ _ (.plain rfl) rfl (by decide) rfl (fun a w h=>by unfold execOp;simp only[h];first|(simp[go_sem];done)|(simp[go_sem];omega)|(simp[go_sem, *];done)) rfl
 ·exact Any.st_copy 15 71 (.plain rfl) (by first|exact .inl rfl|exact .inr rfl) rfl (by decide) rfl
 ·exact Any.st_copy 16 72 (.plain rfl) (by first|exact .inl rfl|exact .inr rfl) rfl (by decide) rfl
 intro f lb cl b;have f5:f 66=TZ (some ⟨dl,0,none⟩):=b 66 rfl;have fn:f 67=T0 C2 n2 m:=b 67 rfl;have f0:f 68=T1 rv:=b 68 rfl;have c9:=b 69 rfl;have f9:f 70=T4 #[TY T7 S,TY T6 0]:=b 70 rfl;have fs:f 65=T4 #[TY T7 S,TY T6 0]:=b 65 rfl;have ff:f 71=TY T7 S:=b 71 rfl;have h3:f 72=TY T6 0:=b 72 rfl;have ev:f 15=TY T7 S:=b 15 rfl;have hu:f 16=TY T6 0:=b 16 rfl;simp only[Any.fill,bC,bL,aq,aI,aH,bg,bZ,f5,fn,f0,f9,fs,ff,h3,ev,hu];have a9:aS ce lb:=(aS.refl ce).drew.trans cl;have hC:=ek.out.keep a9;generalize f 69=nv at*;clear b cl a9 f5 fn f0 c9 f9 fs ff h3 ev hu kl bl ek;have g9:=fun(W:Ub) (hW:Below w.heap.size w W)=>fx.out bx z U hX.out W hW
 have g6:=fun(W:Ub) (hW:Below w.heap.size w W)=>hM.out bk z Y e0.out W hW
 clear f1 hc el fx hM d5;obtain⟨u,lt,jp⟩:=aC hC g9 g6;clear hC g9 g6;go_wp2_with fail;refine Any.wp_region_kinds eL (nQ [(73,.eq (TY T6 0)),(74,.eq (T2 true)),(75,.eq (T2 true)),(76,.eq (TY T6 0)),(77,.eq (T2 true)),(78,.eq (T2 true)),(79,.eq (T2 true)),(80,.eq (TY T7 O)),(81,.eq (TY T7 S)),(82,.eq (T2 ((O:Int)==(S:Int)))),(83,.eq (T1 pv)),(84,.eq (T0 R n T)),(85,.eq (T1 rv)),(86,.eq (TY T6 O)),(87,.eq (T1 qv)),(88,.eq (T0 R n T)),(89,.eq (T1 rv)),(90,.eq (TY T6 S)),(91,.eq (T2 ((O:Int)==(S:Int)))),(92,.eq (T2 true)),(93,.eq (T2 true)),(94,.eq (T2 true)),(95,.eq (T2 true)),(96,.eq (T2 true)),(6,.eq (T2 true))]) [73,74,75,76,77,78,79,80,81,82,83,84,85,86,87,88,89,90,91,92,93,94,95,96,6] (by kernel_rfl) (by kernel_rfl) (by kernel_rfl) ⟨?_,?_,?_,?_,?_,?_,?_,?_,?_,?_,?_,?_,?_,?_,?_,?_,?_,?_,?_,?_,?_,?_,?_,?_,?_,trivial⟩ ?_
 ·exact Any.st_was 73 14 (.plain rfl) (by first|exact .inl rfl|exact .inr rfl) rfl (by decide) (rfl)
 ·exact Any.sx_one 74 73 _ _ (.plain rfl) rfl (by decide) rfl (fun a w h=>by unfold execOp;simp only[h];first|(simp[go_sem];done)|(simp[go_sem];omega)|(simp[go_sem, *];done)) rfl
 ·exact Any.st_copy 75 74 (.plain rfl) (by first|exact .inl rfl|exact .inr rfl) rfl (by decide) rfl
 ·exact Any.st_was 76 16 (.known 75 rfl rfl (by decide) rfl) (by first|exact .inl rfl|exact .inr rfl) rfl (by decide) (rfl)
 ·exact Any.sx_one 77 76 _ _ (.known 75 rfl rfl (by decide) rfl) rfl (by decide) rfl (fun a w h=>by unfold execOp;simp only[h];first|(simp[go_sem];done)|(simp[go_sem];omega)|(simp[go_sem, *];done)) rfl
 ·exact Any.sx_two 78 75 77 _ _ _ (.plain rfl) rfl (by decide) (by decide) rfl rfl (fun a w M h2=>by unfold execOp;simp only[M,h2];first|(simp[go_sem];done)|(simp[go_sem];omega)|(simp[go_sem, *];done)) rfl
 ·exact Any.st_copy 79 78 (.plain rfl) (by first|exact .inl rfl|exact .inr rfl) rfl (by decide) rfl
 ·exact Any.st_was 80 13 (.known 79 rfl rfl (by decide) rfl) (by first|exact .inl rfl|exact .inr rfl) rfl (by decide) (rfl)
 ·exact Any.st_was 81 15 (.known 79 rfl rfl (by decide) rfl) (by first|exact .inl rfl|exact .inr rfl) rfl (by decide) (rfl)
 ·exact Any.sx_two 82 80 81 _ _ _ (.known 79 rfl rfl (by decide) rfl) rfl (by decide) (by decide) rfl rfl (fun a w M h2=>by unfold execOp;simp only[M,h2];first|(simp[go_sem];done)|(simp[go_sem];omega)|(simp[go_sem, *];done)) rfl
 ·exact Any.st_load_row 83 3 _ w.heap.size 26 _ _ (.known 79 rfl rfl (by decide) rfl) rfl rfl (by decide) rfl u.out.b0 underlying26 rfl (by rw[b5.out];kernel_rfl) rfl
 ·exact Any.st_was 84 7 (.known 79 rfl rfl (by decide) rfl) (by first|exact .inl rfl|exact .inr rfl) rfl (by decide) (rfl)
 ·exact Any.st_load_row 85 8 _ g8 32 _ _ (.known 79 rfl rfl (by decide) rfl) rfl rfl (by decide) rfl u.out.b8 underlying32 rfl (by rw[cd.out];kernel_rfl) rfl
 ·exact Any.st_callv 86 _ (.known 79 rfl rfl (by decide) rfl) rfl rfl func12 (by kernel_rfl) rfl (fun a w h=>by have i9:a.eval (.tmp 83)=_:=h.eqv 83 (by decide) rfl;have j5:a.eval (.tmp 84)=_:=h.eqv 84 (by decide) rfl;have jf:a.eval (.tmp 85)=_:=h.eqv 85 (by decide) rfl;simp only[aQ,aJ,a8,i9,j5,jf]<;>rfl) (fun W hW=>(lt.out W (u.out.below.drew.trans (hW.mono u.out.below.size))).mono (fun e w' h=>⟨_,h.1,rfl,h.2⟩))
 ·exact Any.st_load_row 87 4 _ (w.heap.size+1) 26 _ _ (.known 79 rfl rfl (by decide) rfl) rfl rfl (by decide) rfl u.out.b1 underlying26 rfl (by rw[b4.out];kernel_rfl) rfl
 ·exact Any.st_was 88 7 (.known 79 rfl rfl (by decide) rfl) (by first|exact .inl rfl|exact .inr rfl) rfl (by decide) (rfl)
 ·exact Any.st_load_row 89 8 _ g8 32 _ _ (.known 79 rfl rfl (by decide) rfl) rfl rfl (by decide) rfl u.out.b8 underlying32 rfl (by rw[cd.out];kernel_rfl) rfl
 ·exact Any.st_callv 90 _ (.known 79 rfl rfl (by decide) rfl) rfl rfl func12 (by kernel_rfl) rfl (fun a w h=>by have ix:a.eval (.tmp 87)=_:=h.eqv 87 (by decide) rfl;have iu:a.eval (.tmp 88)=_:=h.eqv 88 (by decide) rfl;have kk:a.eval (.tmp 89)=_:=h.eqv 89 (by decide) rfl;simp only[aQ,aJ,a8,ix,iu,kk]<;>rfl) (fun W hW=>(jp.out W (u.out.below.drew.trans (hW.mono u.out.below.size))).mono (fun e w' h=>⟨_,h.1,rfl,h.2⟩))
 ·exact Any.sx_two 91 86 90 _ _ _ (.known 79 rfl rfl (by decide) rfl) rfl (by decide) (by decide) rfl rfl (fun a w M h2=>by unfold execOp;simp only[M,h2];first|(simp[go_sem];done)|(simp[go_sem];omega)|(simp[go_sem, *];done)) rfl
 ·exact Any.sx_two 92 82 91 _ _ _ (.known 79 rfl rfl (by decide) rfl) rfl (by decide) (by decide) rfl rfl (fun a w M h2=>by unfold execOp;simp only[M,h2];first|(simp[go_sem];done)|(simp[go_sem];omega)|(simp[go_sem, *];done)) rfl
 ·exact Any.sx_two 93 79 92 _ _ _ (.plain rfl) rfl (by decide) (by decide) rfl rfl (fun a w M h2=>by unfold execOp;simp only[M,h2];first|(simp[go_sem];done)|(simp[go_sem];omega)|(simp[go_sem, *];done)) rfl
 ·exact Any.st_copy 94 93 (.plain rfl) (by first|exact .inl rfl|exact .inr rfl) rfl (by decide) rfl
 ·exact Any.st_callv 95 _ (.known 94 rfl rfl (by decide) rfl) rfl rfl func9 (by kernel_rfl) rfl (fun a w h=>by simp only[aQ,aJ,a8]<;>rfl) (fun W hW=>(sS W).mono (fun e w' h=>⟨_,h.1,rfl,h.2⟩))
 ·exact Any.sx_two 96 94 95 _ _ _ (.plain rfl) rfl (by decide) (by decide) rfl rfl (fun a w M h2=>by unfold execOp;simp only[M,h2];first|(simp[go_sem];done)|(simp[go_sem];omega)|(simp[go_sem, *];done)) rfl
 ·exact Any.st_copy 6 96 (.plain rfl) (by first|exact .inl rfl|exact .inr rfl) rfl (by decide) rfl
 intro f nj ch b;have kt:f 73=TY T6 0:=b 73 rfl;have mb:f 74=T2 true:=b 74 rfl;have jj:f 75=T2 true:=b 75 rfl;have ml:f 76=TY T6 0:=b 76 rfl;have l3:f 77=T2 true:=b 77 rfl;have i5:f 78=T2 true:=b 78 rfl;have lA:f 79=T2 true:=b 79 rfl;have lc:f 80=TY T7 O:=b 80 rfl;have mp:f 81=TY T7 S:=b 81 rfl;have ll:f 82=T2 ((O:Int)==(S:Int)):=b 82 rfl;have le:f 83=T1 pv:=b 83 rfl;have ls:f 84=T0 R n T:=b 84 rfl;have kp:f 85=T1 rv:=b 85 rfl;have i0:f 86=TY T6 O:=b 86 rfl;have k7:f 87=T1 qv:=b 87 rfl;have k0:f 88=T0 R n T:=b 88 rfl;have kw:f 89=T1 rv:=b 89 rfl;have l8:f 90=TY T6 S:=b 90 rfl;have ip:f 91=T2 ((O:Int)==(S:Int)):=b 91 rfl;have lw:f 92=T2 true:=b 92 rfl;have i4:f 93=T2 true:=b 93 rfl;have lC:f 94=T2 true:=b 94 rfl;have i6:f 95=T2 true:=b 95 rfl;have i1:f 96=T2 true:=b 96 rfl;have h6:f 6=T2 true:=b 6 rfl;simp only[Any.fill,bC,bL,aq,aI,aH,bg,bZ,kt,mb,jj,ml,l3,i5,lA,lc,mp,ll,le,ls,kp,i0,k7,k0,kw,l8,ip,lw,i4,lC,i6,i1,h6];have o:=u.out.below.drew.trans (ch.mono u.out.below.size);clear b ch;have L:=Lib.hid o;clear o;go_wp2_with fail;go_ret;exact⟨rfl,L.out⟩
end
end Go.Proofs.YtfammloeljmplaaGreatDoor
