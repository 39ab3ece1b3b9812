/- The contract of gen.Items; conditions: each lemma's own. -/
import Derived.Test.YtfammloeljmplaaGreatDoorZ38
import Derived.Test.YtfammloeljmplaaGreatDoorZ41
import Derived.Test.YtfammloeljmplaaGreatDoorZ42
import Derived.Test.YtfammloeljmplaaGreatDoorZ43
import Derived.Test.YtfammloeljmplaaGreatDoorZ44
open Go.Value renaming int->TY,pointer->TZ,slice->T0,agg->T1,bool->T2,tuple->T4
open Go.IntKind renaming i64->T6,u32->T7,u16->T9
open Go.Obj renaming cells->Ua
open Go renaming World->Ub,Value->Uc
namespace Go.Proofs.YtfammloeljmplaaGreatDoor
open Go.Proofs.Tryz
set_option maxRecDepth 100000
set_option maxHeartbeats 8000000
set_option linter.unusedVariables false
set_option linter.unusedSimpArgs false
section
open Go.RowKit
theorem NL(l:List Nat):0<(iD l).length/\(iD l).length<=1+2*l.length:=by
 unfold iD;by_cases h:l=[]
 ·rw[aj h];simp
 rw[af h];have a:=mR (l.length+1) l 0 [] h;have b:=(po (l.length+1) l 0 [] h (by omega)).1;simp at a b;omega
theorem uj(B gm r o:Nat)(L:List (Nat×Nat))(n:Nat)(t:L.length=n)(S:n<=4096)(C:∀i,i+1<n->(L.map (·.1)).getD i 0<(L.map (·.1)).getD (i+1) 0)(s:Mk)(hs:(cW o (n+1) L s).mu<=1000000)
  (An:Option Addr)(O:Nat)(U:n<=O)(D:O<=9223372036854775807)(f:Option Addr)(j:Nat)(w:Ub)(R:iz w B gm r s)(hr:bh w w.heap.size 1 An n (mI (L.map (·.1))))(N:fB w 3 1 f n (sV (L.map (·.2)))):
  Calls prog 101 #[TZ (some ⟨gm,0,none⟩),T0 An n O,T0 f n j,TY T6 o] w (dZ B gm r (cW o (n+1) L s) (T4 #[]) w):=by
 have W:=R.lt;have b:Below w.heap.size w (((w.alloc (Ua #[TZ (some ⟨gm,0,none⟩)] 122)).alloc (Ua #[T0 f n j] 86)).alloc (Ua #[TY T6 o] 3)):=(((aw _ _).alloc (ae _) _).alloc (by simp) _).alloc (by simp;omega) _;have b2:bK (((w.alloc (Ua #[TZ (some ⟨gm,0,none⟩)] 122)).alloc (Ua #[T0 f n j] 86)).alloc (Ua #[TY T6 o] 3)) w.heap.size 122 #[TZ (some ⟨gm,0,none⟩)]:=((bK.new w _ _).alloc _).alloc _;have b4:bK (((w.alloc (Ua #[TZ (some ⟨gm,0,none⟩)] 122)).alloc (Ua #[T0 f n j] 86)).alloc (Ua #[TY T6 o] 3)) (w.heap.size+1) 86 #[T0 f n j]:=bK.alloc (g:=w.heap.size+1) (dP w _ _ _) _;have b3:bK (((w.alloc (Ua #[TZ (some ⟨gm,0,none⟩)] 122)).alloc (Ua #[T0 f n j] 86)).alloc (Ua #[TY T6 o] 3)) (w.heap.size+1+1) 3 #[TY T6 o]:=rI w _ _ _ _;have a3:(((w.alloc (Ua #[TZ (some ⟨gm,0,none⟩)] 122)).alloc (Ua #[T0 f n j] 86)).alloc (Ua #[TY T6 o] 3)).heap.size=w.heap.size+3:=by simp
 have d:=Aa (L.map (·.1)) n (by rw[bu,t]) S C An O U D _ ((hr.more (ae _)).below b |>.more b.size);have V:=NL (L.map (·.1));rw[bu,t]at V;have a4:=EH;have m:=N.keep (aU.grows b);have G:=R.grows b;have J:=Fr.grows (B:=B) (gm:=gm) (r:=r) b (ax R.gm (dS W.1));obtain⟨B2,B3,B4,x,v,ag,al⟩:=az b2 b3 b4 m G J b;clear b2 b3 b4 m G J b;clear R hr N;go_enter func101,ntmps101;go_wp2_with fail;generalize T:(((w.alloc (Ua _ 122)).alloc (Ua _ 86)).alloc (Ua _ 3))=W1 at*;clear T;refine d.mono ?_;rintro e w5 ⟨⟨p,q,rfl,y⟩,c⟩;have a2:=c.size;have l:=v.out.grows c;have E:=l.lt;have a:∀o1 o2,Below w5.heap.size w5 ((w5.alloc o1).alloc o2):=fun o1 o2=>((aw _ _).alloc (ae _) _).alloc (by simp) _
 have hS:EI ((w5.alloc (Ua #[T0 p (iD (L.map (·.1))).length q] 291)).alloc (Ua #[BB w5.heap.size w.heap.size (w.heap.size+1+1) (w.heap.size+1) (w5.heap.size+1)] 141)) gm r o (iD (L.map (·.1))) (L.map (·.2)) p q f j w5.heap.size w.heap.size (w.heap.size+1+1) (w.heap.size+1) (w5.heap.size+1):={
  b1:=(bK.new w5 _ _).alloc _
  rt:=y.keep (aU.grows (a _ _))
  b2:=(B2.out.below c B2.out.lt).below (a _ _) (by omega)
  b3:=(B3.out.below c B3.out.lt).below (a _ _) (by omega)
  b4:=by
   rw[bu,t];exact(B4.out.below c B4.out.lt).below (a _ _) (by omega)
  rm:=by
   rw[bu,t];exact x.out.keep ((aU.grows c).trans (aU.grows (a _ _)))
  b5:=dP w5 _ _ _
  ne:=by omega}
 have u:=l.grows (a (Ua #[T0 p (iD (L.map (·.1))).length q] 291) (Ua #[BB w5.heap.size w.heap.size (w.heap.size+1+1) (w.heap.size+1) (w5.heap.size+1)] 141));have A:=(ag.out.trans (Fr.grows (B:=B) (gm:=gm) (r:=r) c (ax v.out.gm (dS v.out.lt.1)))).trans (Fr.grows (B:=B) (gm:=gm) (r:=r) (a (Ua #[T0 p (iD (L.map (·.1))).length q] 291) (Ua #[BB w5.heap.size w.heap.size (w.heap.size+1+1) (w.heap.size+1) (w5.heap.size+1)] 141)) (ax l.gm (dS E.1)));have key:Calls prog 172 #[TY T6 (((iD (L.map (·.1))).length - 1:Nat):Int),TZ (some ⟨w5.heap.size,0,none⟩),TZ (some ⟨w.heap.size,0,none⟩),TZ (some ⟨w.heap.size+1+1,0,none⟩),TZ (some ⟨w.heap.size+1,0,none⟩),TZ (some ⟨w5.heap.size+1,0,none⟩)] ((w5.alloc (Ua #[T0 p (iD (L.map (·.1))).length q] 291)).alloc (Ua #[BB w5.heap.size w.heap.size (w.heap.size+1+1) (w.heap.size+1) (w5.heap.size+1)] 141)) (dZ B gm r (cW o (n+1) L s) (T4 #[]) ((w5.alloc (Ua #[T0 p (iD (L.map (·.1))).length q] 291)).alloc (Ua #[BB w5.heap.size w.heap.size (w.heap.size+1+1) (w.heap.size+1) (w5.heap.size+1)] 141))):=by
  by_cases h0:L=[]
  ·subst h0;have e1:n=0:=by rw[<-t];rfl
   subst e1;exact EK B gm r o (iD []) (([]:List (Nat×Nat)).map (·.2)) p q f j _ _ _ _ _ 0 (by decide) (by decide) rfl s hs _ hS u
  have z:(L.map (·.1))≠[]:=by simpa using h0
  have X:iD (L.map (·.1))=dD (n+1) (L.map (·.1)) 0 []:=by unfold iD;rw[af z,bu,t]
  have hT:=(po (n+1) (L.map (·.1)) 0 [] z (by rw[bu,t];omega)).2;rw[<-X]at hT;refine yJ B gm r o (iD (L.map (·.1))) (L.map (·.2)) p q f j _ _ _ _ _ (by omega) (by rw[bu,t];omega) (n+1) L 0 _ s _ hT (fun i hi=>?_) (by rw[bu];omega) hs hS u;rw[cV,aa,cO,aa,ah hi];rfl
 have M:(((iD (L.map (·.1))).length - 1:Nat):Int)=((iD (L.map (·.1))).length:Int) - 1:=by omega
 rw[M]at key;generalize (iD (L.map (·.1))).length=tl at*;obtain⟨Y,F⟩:=aA A key;clear A key;clear u hS l a y c d M C;go_wp2_with fail;refine F.out.mono ?_;rintro e w9 ⟨rfl,H,k⟩;have k:=Y.out.trans k;obtain⟨ai,Z⟩:=aA k H;clear k H;clear F;go_wp2_with fail;go_end0;exact⟨rfl,Z.out,ai.out⟩
theorem EG:(prog.info? 28).map (fun i=>(i.zero,i.size,i.bytes))=some (some (TY T7 0),1,4):=by kernel_rfl
theorem By:(prog.info? 3).map (fun i=>(i.zero,i.size,i.bytes))=some (some (TY T6 0),1,8):=by kernel_rfl
def yG(z:Nat)(w w':Ub):Prop:=w.heap.size<=w'.heap.size/\∀i t cs,z<=i->t≠129->bK w i t cs->bK w' i t cs
theorem ja(z:Nat):StQ.Frame (yG z):=StQ.frame_of (fun w=>⟨ae _,fun _ _ _ _ _ h=>h⟩) fun h k=>⟨ax h.1 k.1,fun i t cs b a c=>k.2 i t cs b a (h.2 i t cs b a c)⟩
theorem we{z:Nat}{w w':Ub}(h:aS w w'):yG z w w':=⟨h.size,fun i t cs _ _ a=>a.below h a.lt⟩
theorem NK{z B gm r:Nat}{w w':Ub}(h:Fr B gm r w w')(d:gm<z)(c:r<z):yG z w w':=⟨h.below.size,fun i t cs e a b=>h.blk b a (by omega) (by omega)⟩
theorem Bz{z y:Nat}{w w':Ub}{e:TypeId}{size n:Nat}{v:Uc}{xs:List Uc}(f:w.ownsRow y e size v n xs)(a:w.grownBy w' v.ownBlock)(hv:∀g,v.ownBlock=some g->g<z):yG z w w':=⟨a.size,fun i t cs d c b=>b.grown a fun e=>by have:=hv i e.symm;omega⟩
def qJ(z:Nat)(t:TypeId)(u:Uc)(v:Uc)(w:Ub):Prop:=∃g,v=T0 (some ⟨g,0,none⟩) 1 1/\z<=g/\bK w g t #[u]
theorem qJ.keep{z:Nat}{t:TypeId}{u v:Uc}{w w':Ub}(h:qJ z t u v w)(b:yG z w w')(d:t≠129):qJ z t u v w':=by
 obtain⟨g,c,a,e⟩:=h;exact⟨g,c,a,b.2 g t _ a d e⟩
theorem qJ.reads{z:Nat}{t:TypeId}{u v:Uc}{w:Ub}(h:qJ z t u v w):∃A c,v=T0 A 1 c/\bh w w.heap.size 1 A 1 [u]:=by
 obtain⟨g,b,e,a⟩:=h;refine⟨_,_,b,rfl,fun _=>⟨_,rfl,a.lt,fun j x d=>?_⟩⟩;rw[iq];have:=a.cell (0+j);rw[this,cV];simpa using d
theorem sh:∀(l:List PS) (x:PS) (s:Mk),bV (l++[x]) s=(((bV l s).1).goes x.code,(bV l s).2++[(x.number,((bV l s).1).to x.code)])
 |[],x,s=>rfl
 |y::t,x,s=>by
  have ih:=sh t x (s.goes y.code);show((bV (t++[x]) (s.goes y.code)).1,(y.number,s.to y.code)::(bV (t++[x]) (s.goes y.code)).2)=_
  rw[ih];rfl
theorem sY{α:Type}[Inhabited α](l:List α)(k:Nat)(a:k<l.length):l.take (k+1)=l.take k++[l.getD k default]:=by
 rw[dy a,aa,ah a];rfl
def KdR.any(R:Ub->Ub->Prop):StQ.KdR R:=⟨fun _ _=>True,fun _ _ _ _ _=>trivial⟩
def KdR.Tj(z:Nat)(t:TypeId)(b:t≠129)(u:Uc):StQ.KdR (yG z):=⟨qJ z t u,fun _ _ _ a h=>h.keep a b⟩
structure qK(B gm r:Nat)(s s':Mk)(w5:Ub)(i1 i2 i3 d2 d3:Nat)(nv mv:Uc)(k:Nat)(U V:List Uc)(x y:Uc)(f:Nat->Bool)(a:Act)(w:Ub):Prop where
 fr:Fr B gm r w5 w
 mak:if f i1=true then iz w B gm r s' else iz w B gm r s
 nums:if f i2=true then w.ownsRow w5.heap.size 28 1 (a.tmps.getD d2 undef) (k+1) (U++[x])else w.ownsRow w5.heap.size 28 1 nv k U
 marks:if f i3=true then w.ownsRow w5.heap.size 3 1 (a.tmps.getD d3 undef) (k+1) (V++[y])else w.ownsRow w5.heap.size 3 1 mv k V
section
variable {B gm r:Nat} {s s':Mk} {w5:Ub} {i1 i2 i3 d2 d3:Nat} {nv mv:Uc} {k:Nat} {U V:List Uc} {x y:Uc}
theorem qK.next(i d:Nat)(b:([i1,i2,i3].contains i)=false)(c:([d2,d3].contains d)=false)(f:Nat->Bool)(a:Act)(v:Uc)(w:Ub)(h:qK B gm r s s' w5 i1 i2 i3 d2 d3 nv mv k U V x y f a w):qK B gm r s s' w5 i1 i2 i3 d2 d3 nv mv k U V x y (StQ.upd f i) (a.put (some d) v) w:=by
 simp at b c;refine⟨h.fr,?_,?_,?_⟩
 ·rw[StQ.upd_ne f (fun e=>b.1 e.symm)];exact h.mak
 ·rw[StQ.upd_ne f (fun e=>b.2.1 e.symm),StQ.put_far (fun e=>c.1 e)];exact h.nums
 rw[StQ.upd_ne f (fun e=>b.2.2 e.symm),StQ.put_far (fun e=>c.2 e)];exact h.marks
theorem qK.grows{f:Nat->Bool}{a:Act}{w w':Ub}(h:qK B gm r s s' w5 i1 i2 i3 d2 d3 nv mv k U V x y f a w)(b:aS w w')(c:B<=w.heap.size):qK B gm r s s' w5 i1 i2 i3 d2 d3 nv mv k U V x y f a w':=by
 refine⟨h.fr.trans (Fr.grows b c),?_,?_,?_⟩
 ·have:=h.mak;split<;>rename_i e
  ·rw[aj e]at this;exact this.grows b
  rw[af e]at this;exact this.grows b
 ·have:=h.nums;split<;>rename_i e
  ·rw[aj e]at this;exact cC b this
  rw[af e]at this;exact cC b this
 have:=h.marks;split<;>rename_i e
 ·rw[aj e]at this;exact cC b this
 rw[af e]at this;exact cC b this
theorem qK.makes{f:Nat->Bool}{a:Act}{w w':Ub}(h:qK B gm r s s' w5 i1 i2 i3 d2 d3 nv mv k U V x y f a w)(m:f i1=false)(j:i2≠i1)(i:i3≠i1){d:Nat}(g:([d2,d3].contains d)=false)(v:Uc)(c:Fr B gm r w w')(l:iz w' B gm r s'):qK B gm r s s' w5 i1 i2 i3 d2 d3 nv mv k U V x y (StQ.upd f i1) (a.put (some d) v) w':=by
 have b:=h.mak;rw[af (by rw[m];decide)]at b;simp at g;refine⟨h.fr.trans c,by rw[StQ.upd_self];exact l,?_,?_⟩
 ·rw[StQ.upd_ne f j,StQ.put_far (fun e=>g.1 e)];have:=h.nums;split<;>rename_i e
  ·rw[aj e]at this;exact c.own b this (by decide) (by decide)
  rw[af e]at this;exact c.own b this (by decide) (by decide)
 rw[StQ.upd_ne f i,StQ.put_far (fun e=>g.2 e)];have:=h.marks;split<;>rename_i e
 ·rw[aj e]at this;exact c.own b this (by decide) (by decide)
 rw[af e]at this;exact c.own b this (by decide) (by decide)
theorem qK.Tw{f:Nat->Bool}{a:Act}{w w':Ub}(h:qK B gm r s s' w5 i1 i2 i3 d2 d3 nv mv k U V x y f a w)(n:f i2=false)(i:i1≠i2)(d:i3≠i2)(g:d2≠d3)(j:d2<a.tmps.size)(m:B<=w5.heap.size)(v:Uc)(c:w.grownBy w' nv.ownBlock)(l:w'.ownsRow w5.heap.size 28 1 v (k+1) (U++[x])):qK B gm r s s' w5 i1 i2 i3 d2 d3 nv mv k U V x y (StQ.upd f i2) (a.put (some d2) v) w':=by
 have b:=h.nums;rw[af (by rw[n];decide)]at b;refine⟨h.fr.Ss (ae _) b c m,?_,?_,?_⟩
 ·rw[StQ.upd_ne f i];have:=h.mak;split<;>rename_i e
  ·rw[aj e]at this;exact this.Ss b c (by decide) (by decide)
  rw[af e]at this;exact this.Ss b c (by decide) (by decide)
 ·rw[StQ.upd_self,aj rfl,StQ.put_same j];exact l
 rw[StQ.upd_ne f d,StQ.put_far g];have:=h.marks;split<;>rename_i e
 ·rw[aj e]at this;exact mQ this b (by decide) c
 rw[af e]at this;exact mQ this b (by decide) c
theorem qK.Ty{f:Nat->Bool}{a:Act}{w w':Ub}(h:qK B gm r s s' w5 i1 i2 i3 d2 d3 nv mv k U V x y f a w)(n:f i3=false)(i:i1≠i3)(d:i2≠i3)(g:d3≠d2)(j:d3<a.tmps.size)(m:B<=w5.heap.size)(v:Uc)(c:w.grownBy w' mv.ownBlock)(l:w'.ownsRow w5.heap.size 3 1 v (k+1) (V++[y])):qK B gm r s s' w5 i1 i2 i3 d2 d3 nv mv k U V x y (StQ.upd f i3) (a.put (some d3) v) w':=by
 have b:=h.marks;rw[af (by rw[n];decide)]at b;refine⟨h.fr.Ss (ae _) b c m,?_,?_,?_⟩
 ·rw[StQ.upd_ne f i];have:=h.mak;split<;>rename_i e
  ·rw[aj e]at this;exact this.Ss b c (by decide) (by decide)
  rw[af e]at this;exact this.Ss b c (by decide) (by decide)
 ·rw[StQ.upd_ne f d,StQ.put_far g];have:=h.nums;split<;>rename_i e
  ·rw[aj e]at this;exact mQ this b (by decide) c
  rw[af e]at this;exact mQ this b (by decide) c
 rw[StQ.upd_self,aj rfl,StQ.put_same j];exact l
end
theorem ui:∀(l:List PS) (s:Mk),(bV l s).2.map (·.1)=l.map PS.number
 |[],s=>rfl
 |x::t,s=>by
  show x.number::(bV t (s.goes x.code)).2.map (·.1)=_
  rw[ui t];rfl
theorem yH(B gm r o:Nat)(l:List PS)(n:Nat)(hl:l.length=n)(hn:n<=4096)(b0:∀i,i+1<n->(l.getD i default).number<(l.getD (i+1) default).number)(s:Mk)(hs:(kR o l s).mu<=1000000)(A:Option Addr)(c:Nat)(w:Ub)(hm:iz w B gm r s)(hr:Nv w B A l):
  Calls prog 167 #[TZ (some ⟨gm,0,none⟩),T0 A n c,TY T6 o] w (dZ B gm r (kR o l s) (T4 #[]) w):=by
 obtain⟨iu,cc,cr,c1,ca⟩:=cZ EG;obtain⟨im,ct,cl,c3,co⟩:=cZ By;have hB:B<=w.heap.size:=ax hm.gm (dS hm.lt.1);have Y:=fun(W:Ub)=>JF 0 (by omega) (by omega) false W
 have e1:ny 0 false=16:=by decide
 have e2:Eo 0=0:=by decide
 rw[e1,e2]at Y;unfold kR at hs⊢;have x1:=eK o (l.length+1) (bV l (s.put [bc 32 16 0 0])).2 (bV l (s.put [bc 32 16 0 0])).1;have m1:=eP x1.ext hs;have x0:=gV l (s.put [bc 32 16 0 0]);have m0:=eP x0.ext m1;have ak:=fV (B:=B) (gm:=gm) (r:=r) (s:=s) [bc 32 16 0 0] 1 rfl #[TY T6 0,TY T9 32,TY T7 16,TY T6 0,TY T6 0] (by simp[dq,It.vals,bc]) w hm m0;generalize s.put [bc 32 16 0 0]=u at*;rw[hl]at hs⊢;have N:=fun k=>gV (l.drop k) (bV (l.take k) u).1
 generalize hX:cW o (n+1) (bV l u).2 (bV l u).1=X at*;obtain⟨HX,HL,cf,HR,aE,HM⟩:=aF hX hl b0 hr N hm;clear hX hl b0 hr N hm;clear e1 e2 x0 x1;go_enter func167,ntmps167;go_wp2_with (go_at_call 242;refine(Y _).mono ?_;rintro e w1 ⟨rfl,rfl⟩);refine ak.mono ?_;rintro e w5 ⟨rfl,bb,T⟩;have bB:B<=w5.heap.size:=ax hB T.below.size;have bx:=HR.out.below T.below;obtain⟨cb,cx,c2⟩:=aC bb T bx;clear bb T bx;clear ak;go_wp2_with fail;go_loopw [8,9,24] (fun nv mv i wr=>∃k:Nat,k<=n/\i=TY T6 k/\iz wr B gm r (bV (l.take k) u).1/\Fr B gm r w5 wr/\wr.ownsRow w5.heap.size 28 1 nv k (mI ((bV (l.take k) u).2.map (·.1)))/\wr.ownsRow w5.heap.size 3 1 mv k (sV ((bV (l.take k) u).2.map (·.2)))) (fun _ _ i _=>n - (intOf i).toNat)
 case atStart=>exact⟨0,by omega,rfl,cb.out,Fr.refl _ _ _ _,aX _ _ _ _,aX _ _ _ _⟩
 case round=>
  obtain⟨k,hk,rfl,H,J,F,G⟩:=hrel;have bq:=H.lt;by_cases bl:k<n
  ·have ea:(k:Int)<(n:Int):=by omega
   obtain⟨b,ei,rfl,hb,h0,h1⟩:=(c2.out.below J.below).at_ (k:=k) (by rw[HL.out];exact bl);have eg:=J.below.size;have es:b<wr.heap.size:=by omega
   have bO:=sY l k (by rw[HL.out];exact bl);have m:=aE.out (k+1);generalize hy:l.getD k default=x at*;obtain⟨E,D⟩:=x;simp only at h0 h1;have M:=sh (l.take k) ⟨E,D⟩ u;rw[<-bO]at M;rw[M]at m;have c6:((bV (l.take k) u).1.goes D).mu<=1000000:=by
    have q:=m.ext;have e:(bV (l.drop (k+1)) (bV (l.take (k+1)) u).1).1=(bV l u).1:=by
     have ck:∀(a b:List PS) (t:Mk),(bV b (bV a t).1).1=(bV (a++b) t).1:=by
      intro a;induction a with
      |nil=>intro b t;rfl
      |cons y a ih=>intro b t;exact ih b _
     rw[ck,fl]
    rw[M]at e;exact eP (by rw[e]at q;exact q) m1
   clear m bO;generalize (bV (l.take k) u).1=sk at*;generalize (bV (l.take k) u).2=pk at*;have b5:=fun W (hW:iz W B gm r sk)=>ky B gm r sk D c6 W hW
   obtain⟨a7,bp⟩:=ka H (Ua #[TY T7 E,TY T7 D] 113);have al:aS wr (wr.alloc (Ua #[TY T7 E,TY T7 D] 113)):=(aS.refl _).alloc _;have bA:=bK.new wr 113 #[TY T7 E,TY T7 D];have ad:=cC al F;have ai:=cC al G;have ag:=J.trans bp;have c9:∀g,u8.ownBlock=some g->g<wr.heap.size:=fun g e=>(gh F e).2.1
   have c7:∀g,u9.ownBlock=some g->g<wr.heap.size:=fun g e=>(gh G e).2.1
   have br:(wr.alloc (Ua #[TY T7 E,TY T7 D] 113)).heap.size=wr.heap.size+1:=by simp
   generalize bR:sk.to D=O at*;generalize bi:sk.goes D=sg at*;generalize hU:mI (pk.map (·.1))=U at*;generalize hV:sV (pk.map (·.2))=V at*;obtain⟨ap,ci,BA,bm,bf,b4,cd,HU,HV⟩:=ay M b5 bA ad ai ag a7 hU hV;clear M b5 bA ad ai ag a7 hU hV;clear H F G J al bp bR bi;go_wp2_with fail;have e0:(wr.alloc (Ua #[TY T7 E,TY T7 D] 113)).heap.size=wr.heap.size+1:=br;generalize wr.heap.size=z at*;generalize eq:(wr.alloc (Ua _ 113))=W1 at*;have p:=fun i d h1 h2=>qK.next (B:=B) (gm:=gm) (r:=r) (s:=sk) (s':=sg) (w5:=w5) (i1:=9) (i2:=4) (i3:=11) (d2:=32) (d3:=39) (nv:=u8) (mv:=u9) (k:=k) (U:=U) (V:=V) (x:=TY T7 E) (y:=TY T6 O) i d h1 h2
   refine StQ.wp_region_st 12 eL (yG z) (ja z) (StQ.kdS [(28,.eq u8),(29,.eq (TZ (some ⟨z,0,none⟩))),(30,.eq (TY T7 E)),(31,KdR.Tj z 28 (by decide) (TY T7 E)),(33,.eq u9),(34,.eq (TZ (some ⟨gm,0,none⟩))),(35,.eq (TZ (some ⟨z,1,none⟩))),(36,.eq (TY T7 D)),(32,KdR.any _),(39,KdR.any _),(37,.eq (TY T6 O)),(38,KdR.Tj z 3 (by decide) (TY T6 O))])
    (fun _ _ _ _ _ h1 h2=>StQ.kdS_mono h1 h2) (qK B gm r sk sg w5 9 4 11 32 39 u8 u9 k U V (TY T7 E) (TY T6 O)) ⟨b4.out.drew,cd.out.drew,bm.out,bf.out⟩ [28,29,30,31,32,33,34,35,36,37,38,39,8,9] [28,29,30,31,32,33,34,35,36,37,38,39] (by kernel_rfl) (by kernel_rfl) (by kernel_rfl) (by kernel_rfl) (by kernel_rfl) (by decide) ⟨?_,?_,?_,?_,?_,?_,?_,?_,?_,?_,?_,?_,trivial⟩ ?_
   ·exact StQ.st_eqk (ja z) 28 _ rfl rfl rfl (p 0 28 (by decide) (by decide)) (fun f a w h=>by have e8:a.eval (.tmp 8)=_:=h.was 8 (by decide) rfl;unfold execOp;simp only[e8];first|(simp[go_sem];done)|(simp[go_sem];omega)|(simp[go_sem, *];done))
   ·exact StQ.st_eqk (ja z) 29 _ rfl rfl rfl (p 1 29 (by decide) (by decide)) (fun f a w h=>by have av:a.eval (.tmp 11)=_:=h.was 11 (by decide) rfl;unfold execOp;simp only[av];first|(simp[go_sem];done)|(simp[go_sem];omega)|(simp[go_sem, *];done))
   ·exact StQ.st_eqk (ja z) 30 _ rfl rfl rfl (p 2 30 (by decide) (by decide)) (fun f a w h=>by have ba:a.eval (.tmp 29)=_:=h.Sr 29 (by decide) rfl;have a9:a.tmps[29]?.getD undef=TZ (some ⟨z,0,none⟩):=(by have q:a.tmps.getD 29 undef=TZ (some ⟨z,0,none⟩):=ba;simpa using q);unfold execOp;simp only[ba];first|(simp[go_sem,(show w.cell? ⟨z,0,none⟩=some (TY T7 E) from(h.frame.2 z _ _ (ae _) (by decide) BA.out).cell 0),a9];done)|(simp[go_sem,(show w.cell? ⟨z,0,none⟩=some (TY T7 E) from(h.frame.2 z _ _ (ae _) (by decide) BA.out).cell 0),a9];omega)|(simp[go_sem, *];done))
   ·exact StQ.st_lit 31 30 _ 28 _ rfl rfl rfl rfl (by decide) rfl (fun W=>by kernel_rfl) (fun f a W hR S=>⟨⟨_,rfl,by have:=hR.1;have e:W1.drew.heap.size=z+1:=e0;omega,cq W _⟩,we ((aS.refl W).alloc _),p 3 31 (by decide) (by decide) f a _ _ (S.grows ((aS.refl W).alloc _) (by have:=hR.1;have e:W1.drew.heap.size=z+1:=e0;omega))⟩)
   ·refine StQ.st_app 32 28 31 144 (q:=KdR.any _) rfl rfl rfl rfl w5.heap.size 28 iu _ 1 4 underlying144 cc cr c1 ca rfl (by omega) u8 k U [TY T7 E] 1 (by simp[Value.oneCell']) (by simp only[maxLen];omega) (by omega) (by decide) rfl (by decide) (fun f a W h=>?_);have L:=qJ.reads (h.kd 31 (by decide) rfl);have m:=h.state;have C:=m.nums;have v:f 4=false:=h.notYet;rw[af (by rw[v];decide)]at C;refine⟨C,m.fr.below.size,L,fun v' w' g1 g2 g3=>⟨trivial,Bz C g2 c9,?_⟩⟩;exact m.Tw v (by decide) (by decide) (by decide) (by rw[h.size];exact(by decide:32<46)) bB v' g2 g1
   ·exact StQ.st_eqk (ja z) 33 _ rfl rfl rfl (p 5 33 (by decide) (by decide)) (fun f a w h=>by have e9:a.eval (.tmp 9)=_:=h.was 9 (by decide) rfl;unfold execOp;simp only[e9];first|(simp[go_sem];done)|(simp[go_sem];omega)|(simp[go_sem, *];done))
   ·exact StQ.st_eqk (ja z) 34 _ rfl rfl rfl (p 6 34 (by decide) (by decide)) (fun f a w h=>by have e0:a.eval (.tmp 0)=_:=h.was 0 (by decide) rfl;unfold execOp;simp only[e0];first|(simp[go_sem];done)|(simp[go_sem];omega)|(simp[go_sem, *];done))
   ·exact StQ.st_eqk (ja z) 35 _ rfl rfl rfl (p 7 35 (by decide) (by decide)) (fun f a w h=>by have av:a.eval (.tmp 11)=_:=h.was 11 (by decide) rfl;unfold execOp;simp only[av];first|(simp[go_sem];done)|(simp[go_sem];omega)|(simp[go_sem, *];done))
   ·exact StQ.st_eqk (ja z) 36 _ rfl rfl rfl (p 8 36 (by decide) (by decide)) (fun f a w h=>by have b3:a.eval (.tmp 35)=_:=h.Sr 35 (by decide) rfl;have b2:a.tmps[35]?.getD undef=TZ (some ⟨z,1,none⟩):=(by have q:a.tmps.getD 35 undef=TZ (some ⟨z,1,none⟩):=b3;simpa using q);unfold execOp;simp only[b3];first|(simp[go_sem,(show w.cell? ⟨z,1,none⟩=some (TY T7 D) from(h.frame.2 z _ _ (ae _) (by decide) BA.out).cell 1),b2];done)|(simp[go_sem,(show w.cell? ⟨z,1,none⟩=some (TY T7 D) from(h.frame.2 z _ _ (ae _) (by decide) BA.out).cell 1),b2];omega)|(simp[go_sem, *];done))
   ·refine StQ.st_callv 37 #[TZ (some ⟨gm,0,none⟩),TY T7 D] rfl rfl rfl func45 (by kernel_rfl) rfl (fun f a w h=>by have e1:=h.Sr 34 (by decide) rfl;have e2:=h.Sr 36 (by decide) rfl;simp only[aQ,aJ,a8,e1,e2]) (fun f a W h=>?_);have m:=h.state;have bS:=m.mak;have v:f 9=false:=h.notYet;rw[af (by rw[v];decide)]at bS;refine(ci.out W bS).mono ?_;rintro e w' ⟨rfl,h1,h2⟩;exact⟨_,rfl,fun q hq=>by cases hq;rfl,NK h2 bq.1 bq.2,m.makes v (by decide) (by decide) (by decide) _ h2 h1⟩
   ·exact StQ.st_lit 38 37 _ 3 _ rfl rfl rfl rfl (by decide) rfl (fun W=>by kernel_rfl) (fun f a W hR S=>⟨⟨_,rfl,by have:=hR.1;have e:W1.drew.heap.size=z+1:=e0;omega,cq W _⟩,we ((aS.refl W).alloc _),p 10 38 (by decide) (by decide) f a _ _ (S.grows ((aS.refl W).alloc _) (by have:=hR.1;have e:W1.drew.heap.size=z+1:=e0;omega))⟩)
   ·refine StQ.st_app 39 33 38 86 (q:=KdR.any _) rfl rfl rfl rfl w5.heap.size 3 im _ 1 8 underlying86 ct cl c3 co rfl (by omega) u9 k V [TY T6 O] 1 (by simp[Value.oneCell']) (by simp only[maxLen];omega) (by omega) (by decide) rfl (by decide) (fun f a W h=>?_);have L:=qJ.reads (h.kd 38 (by decide) rfl);have m:=h.state;have C:=m.marks;have v:f 11=false:=h.notYet;rw[af (by rw[v];decide)]at C;refine⟨C,m.fr.below.size,L,fun v' w' g1 g2 g3=>⟨trivial,Bz C g2 c7,?_⟩⟩;exact m.Ty v (by decide) (by decide) (by decide) (by rw[h.size];exact(by decide:39<46)) bB v' g2 g1
   intro f g w' cg hS hg ⟨a,ha,S⟩;have a3:=S.nums;rw[aj (hg 4 (by omega)),ha 32]at a3;have a1:=S.marks;rw[aj (hg 11 (by omega)),ha 39]at a1;have ar:=S.mak;rw[aj (hg 9 (by omega))]at ar;have bo:=S.fr;simp only[Any.fill,bC,bL,aq,aI,aH,bg,bZ];clear hS hg S ha cg p;generalize f 8=f8,f 9=f9,f 28=ey,f 29=ef,f 30=ek,f 31=e5,f 32=e3,f 33=fb,f 34=eo,f 35=ex,f 36=em,f 37=d8,f 38=eu,f 39=d9 at*;obtain⟨ch,cu,c0,c5⟩:=aB a3 a1 ar bo;clear a3 a1 ar bo;go_wp2_with fail;go_roundw;case rel=>
    refine⟨k+1,by omega,by go_num,?_,c5.out,?_,?_⟩
    ·rw[ap.out];exact c0.out
    ·rw[ap.out];have:=ch.out;rw[<-HU.out]at this;simpa[mI]using this
    rw[ap.out];have:=cu.out;rw[<-HV.out]at this;simpa[sV]using this
   case measure=>simp[intOf];omega
  obtain rfl:n=k:=by omega
  have bW:l.take n=l:=bI (by rw[HL.out];exact ae _);rw[bW]at H F G;have am:=ui l u;have Z:(bV l u).2.length=n:=by have:=eQ List.length am;rw[bu,bu]at this;rw[this,HL.out]
  have ab:∀i,i+1<n->((bV l u).2.map (·.1)).getD i 0<((bV l u).2.map (·.1)).getD (i+1) 0:=fun i hi=>by
   have hg:∀j,j<n->(l.map PS.number).getD j 0=(l.getD j default).number:=fun j hj=>by
    rw[aa,cO,aa,ah (by rw[HL.out];exact hj)];rfl
   rw[am,hg i (by omega),hg (i+1) hi];exact cf.out i hi
  obtain⟨An,cn,rfl,dd,cp,a6⟩:=oF F;obtain⟨Am,cm,rfl,bk⟩:=fB.Sp G;have a0:=uj B gm r o (bV l u).2 n Z hn ab (bV l u).1 (by rw[HX.out];exact hs) An cn dd (by simpa[maxLen]using cp) Am cm wr H a6 bk;rw[HX.out]at a0;have bs:=cx.out.trans J;have ce:=Lib.hid bs;clear bs;clear H J F G bW am Z ab a6 bk;go_wp2_with fail;refine a0.mono ?_;rintro e w9 ⟨rfl,be,R⟩;have R:=ce.out.trans R;obtain⟨cs,c8⟩:=aA R be;clear R be;clear a0;go_wp2_with fail;go_end0;exact⟨rfl,c8.out,cs.out⟩
theorem KD:(prog.info? 220).map (fun i=>(i.zero,i.size,i.bytes))=some (some (T1 #[TY T7 0,.nilFunc]),2,16):=by kernel_rfl
theorem M9(W:Ub)(c b a:Obj)(cs:Array Uc)(t:TypeId):((((W.alloc c).alloc b).alloc a).alloc (Ua cs t)).heap[W.heap.size+1+1+1]? =some (Ua cs t (0,0)):=by
 have:=rI (W.alloc c) b a cs t;simpa using this
def sQ(B gm r a o:Nat)(c:Pl)(vs:Array Uc)(w:Ub)(e:Ending)(w':Ub):Prop:=
 ∃(v:Uc) (b:List PV) (g f d go_:Nat),e=.returned v/\b.map PV.part=cH c a/\w'.ownsRow w.heap.size 220 2 v b.length (b.flatMap PV.enc)/\(∀p∈b,kr w' B gm r g f d go_ c p)/\wM w' B gm r a o g f d go_ c vs/\Below w.heap.size w w'
theorem Eg(B gm r a o:Nat)(ha:a<5)(z:Pl)(vs:Array Uc)(bB:((dM z a).map dX.number).Nodup)(ad:∀e∈z.entries.getD a [],e.number<4294967296)(c3:(z.entries.getD a []).length<=1000)(w:Ub)(c1:gm<w.heap.size)(dk:r<w.heap.size)(hB:B<=w.heap.size)(V:jO w B z vs):
  Calls prog 100 #[TZ (some ⟨gm,0,none⟩),T1 vs,TY T6 a,TY T6 o] w (sQ B gm r a o z vs w):=by
 obtain⟨i0,bq,bb,bv,bl⟩:=cZ KD;obtain⟨Ae,ce,ba,br⟩:=V.entry ha;let m:Ub:=(((w.alloc (Ua #[TZ (some ⟨gm,0,none⟩)] 122)).alloc (Ua vs 67)).alloc (Ua #[TY T6 a] 3)).alloc (Ua #[TY T6 o] 3);have E:Below w.heap.size w m:=((((aw _ _).alloc (ae _) _).alloc (by simp) _).alloc (by simp;omega) _).alloc (by simp;omega) _;have a6:m.heap.size=w.heap.size+4:=by simp[m]
 have c:wM m B gm r a o w.heap.size (w.heap.size+1) (w.heap.size+1+1) (w.heap.size+1+1+1) z vs:=⟨(((bK.new w _ _).alloc _).alloc _).alloc _,bK.alloc (g:=w.heap.size+1) (bK.alloc (g:=w.heap.size+1) (dP w _ _ _) _) _,bK.alloc (g:=w.heap.size+1+1) (rI w _ _ _ _) _,M9 w _ _ _ _ _,V.below (E.mono hB),by omega⟩;have cp:((((w.alloc (Ua #[TZ (some ⟨gm,0,none⟩)] 122)).alloc (Ua vs 67)).alloc (Ua #[TY T6 a] 3)).alloc (Ua #[TY T6 o] 3)).cell? ⟨w.heap.size+1,2+a,none⟩=some (T0 Ae (z.entries.getD a []).length ce):=(c.bp.cell (2+a)).trans ba;have ca:((((w.alloc (Ua #[TZ (some ⟨gm,0,none⟩)] 122)).alloc (Ua vs 67)).alloc (Ua #[TY T6 a] 3)).alloc (Ua #[TY T6 o] 3)).cell? ⟨w.heap.size+1+1,0,none⟩=some (TY T6 a):=c.ba.cell 0;have av:=br.below (E.mono hB);have cn:(a:Int)<5:=by omega
 generalize ag:z.entries.getD a []=es at*;generalize hn:es.length=n at*;obtain⟨a5,b9,U,bO,HN,a7,a9,ai⟩:=aD E a6 c av hn ad bB ag;clear E a6 c av hn ad bB ag;clear V ba br;go_enter func100,ntmps100;go_wp2_with fail;have hW:((((w.alloc (Ua #[TZ (some ⟨gm,0,none⟩)] 122)).alloc (Ua vs 67)).alloc (Ua #[TY T6 a] 3)).alloc (Ua #[TY T6 o] 3))=m:=rfl;rw[hW]at*;clear hW;clear_value m;have c5:=b9.out;have an:∀(W:Ub) (v:Uc) (f:List PV),f.map PV.part=dM z a->f.length<=2000->W.ownsRow m.heap.size 220 2 v f.length (f.flatMap PV.enc)->(∀p∈f,kr W B gm r w.heap.size (w.heap.size+1) (w.heap.size+1+1) (w.heap.size+1+1+1) z p)->Below m.heap.size m W->
   Calls prog 169 #[v,.func (.func 170) #[] #[]] W fun e w'=>e=.returned (T4 #[])/\sQ B gm r a o z vs w (.returned v) w':=fun W v f h1 hl h2 h3 h4=>by
  have hs:=rF (P:=prog) Ey 2 (by omega) isAgg220 sizeOf220 PV.enc PV.SI PV.SS (fun x y=>((x.part.number:Int) - (y.part.number:Int))) (swo_num fun x:PV=>x.part.number) 170 #[] (iK func170 (by kernel_rfl) rfl) Eh f f.length rfl (by omega) W h2;refine tG hs ?_;rintro e w' ⟨rfl,l',V,hw,ho,M⟩;have hk:aU 109 W w':=aU.grown M h2 (by decide);have F:Below m.heap.size m w':=h4.grown M h4.size (fun g e=>(gh h2 e).1);have G:Below B W w':=((aw m.heap.size W).grown M h4.size (fun g e=>(gh h2 e).1)).mono (by omega);have s:l'.length=f.length:=V.length_eq;refine⟨rfl,v,l',w.heap.size,w.heap.size+1,w.heap.size+1+1,w.heap.size+1+1+1,rfl,?_,?_,fun p hq=>(h3 p (V.mem_iff.1 hq)).keep hk G,U.out.grows F (by omega),a5.out.trans (F.mono (by omega))⟩
  ·refine vX dX.number ?_ ?_ (qw a9.out)
   ·have:=V.map PV.part;rw[h1]at this;exact this.trans (gK _ _).symm
   refine me dX.number ?_ ?_
   ·rw[fQ];exact hw.imp fun h=>by omega
   rw[((V.map PV.part).map dX.number).nodup_iff,h1];exact a9.out
  rw[s];refine⟨ho.1,?_⟩;rcases ho.2 with q|⟨g,cap,b4,q1,q2,q3⟩
  ·exact .inl q
  exact .inr ⟨g,cap,b4,q1,by omega,q3⟩
 have am:=Lib.hid an;clear an;go_loopw [9,17] (fun v i wr=>∃(k:Nat) (f:List PV),k<=n/\i=TY T6 k/\f.length=k/\f.map PV.part=(es.take k).map (fun e=>dX.rules e.number e.rules)/\wr.ownsRow m.heap.size 220 2 v k (f.flatMap PV.enc)/\(∀p∈f,kr wr B gm r w.heap.size (w.heap.size+1) (w.heap.size+1+1) (w.heap.size+1+1+1) z p)/\Below m.heap.size m wr) (fun _ i _=>n - (intOf i).toNat)
 case atStart=>exact⟨0,[],by omega,rfl,rfl,rfl,aX _ _ _ _,(fun p V=>absurd V (by simp)),aw _ _⟩
 case round=>
  obtain⟨k,f,hk,rfl,L,C,A,J,u⟩:=hrel;have Y:=u.size;have c:=U.out.grows u (by omega);by_cases aE:k<n
  ·have cr:(k:Int)<(n:Int):=by omega
   obtain⟨b,cy,A',c',rfl,hb,h0,h1,a3⟩:=(bO.out.below (u.mono (by omega))).at_ (k:=k) (by rw[HN.out];exact aE);have c2:b<wr.heap.size:=by omega
   have bo:=sY es k (by rw[HN.out];exact aE);have ar:=a7.out _ (oQ (l:=es) (k:=k) (by rw[HN.out];exact aE));generalize es.getD k default=x at*;obtain⟨xn,Z⟩:=x;simp only at h0 h1 a3 ar;have cu:Z.length=Z.length:=rfl;let P:PV:=⟨.rules xn Z,164,#[TZ (some ⟨w.heap.size,0,none⟩),TZ (some ⟨wr.heap.size,0,none⟩),TZ (some ⟨w.heap.size+1+1,0,none⟩),TZ (some ⟨w.heap.size+1+1+1,0,none⟩)],ar⟩;have bm:P.enc=[TY T7 xn,.func (.func 164) #[] #[TZ (some ⟨w.heap.size,0,none⟩),TZ (some ⟨wr.heap.size,0,none⟩),TZ (some ⟨w.heap.size+1+1,0,none⟩),TZ (some ⟨w.heap.size+1+1+1,0,none⟩)]]:=rfl;have d:aS wr ((wr.alloc (Ua #[TY T7 xn,T0 A' Z.length c'] 109)).alloc (Ua P.enc.toArray 220)):=((aS.refl wr).alloc _).alloc _;have ap:aS wr (wr.alloc (Ua #[TY T7 xn,T0 A' Z.length c'] 109)):=(aS.refl wr).alloc _;have j:=cC ap A;have bA:bK ((wr.alloc (Ua #[TY T7 xn,T0 A' Z.length c'] 109)).alloc (Ua P.enc.toArray 220)) wr.heap.size 109 #[TY T7 xn,T0 A' Z.length c']:=(bK.new wr _ _).alloc _;have D:=gZ (wr.alloc (Ua #[TY T7 xn,T0 A' Z.length c'] 109)) P.enc 220 2 1 rfl;simp only[cE]at D;have t:∀W,((wr.alloc (Ua #[TY T7 xn,T0 A' Z.length c'] 109)).alloc (Ua P.enc.toArray 220)).grownBy W u9.ownBlock->(∀q∈f++[P],kr W B gm r w.heap.size (w.heap.size+1) (w.heap.size+1+1) (w.heap.size+1+1+1) z q)/\Below m.heap.size m W:=fun W M=>by
    have X:=cC d A;have a1:aU 109 wr W:=(aU.grows d).trans (aU.grown M X (by decide));have F:Below m.heap.size m W:=(u.trans (d.mono Y)).grown M (by have:=d.size;omega) (fun g e=>(gh X e).1);have G:Below m.heap.size wr W:=(d.mono Y).grown M (by have:=d.size;omega) (fun g e=>(gh X e).1);refine⟨fun q hq=>?_,F⟩;rcases bT.1 hq with h|h
    ·exact(J q h).keep a1 (G.mono (by omega))
    rw[bz]at h;subst h;exact⟨rfl,wr.heap.size,A',c',rfl,aU.grown M X (by decide) _ _ _ bA,a3.below (G.mono (by omega)),by omega,by omega⟩
   have s:(f++[P]).length=k+1:=by simp[L]
   have al:(f++[P]).map PV.part=(es.take (k+1)).map (fun e=>dX.rules e.number e.rules):=by rw[bo];simp[C,P]
   have H:(f++[P]).flatMap PV.enc=f.flatMap PV.enc++P.enc:=by simp
   generalize f++[P]=b7 at*;rw[bm]at d bA D t H;clear_value P;generalize f.flatMap PV.enc=cs at*;obtain⟨bk,bp,b6,R,U,N,a0⟩:=az s al H t c j D;clear s al H t c j D;clear J C L A bo a3 d ap bA bm u;go_wp2_with (at_builtin;go_loud (refine cU _ rfl (.tmp 21) (.tmp 26) 217 rfl m.heap.size 220 i0 _ 2 16 underlying217 bq bb bv bl rfl (by omega) u9 k cs rfl (cC ((aS.refl _).alloc _) N.out) _ (some ⟨wr.heap.size+1,0,none⟩) 1 1 _ rfl a0.out (by simp[Value.oneCell']) (by simp only[maxLen];omega) (by omega) (by simp;omega) ?_);intro v' w' g1 g2 g3);go_roundw;case rel=>
    obtain⟨k1,k2⟩:=R.out w' g2;refine⟨k+1,b7,by omega,by go_num,bk.out,bp.out,?_,k1,k2⟩;rw[b6.out];exact g1
   case measure=>simp[intOf];omega
  obtain rfl:n=k:=by omega
  have cb:es.take n=es:=bI (by rw[HN.out];exact ae _);rw[cb]at C;have ca:wr.cell? ⟨w.heap.size+1+1,0,none⟩=some (TY T6 a):=c.ba.cell 0;have la:=c.ba.lt;by_cases bN:a=2
  ·subst bN;have ca:wr.cell? ⟨w.heap.size+1+1,0,none⟩=some (TY T6 2):=ca;let P1:PV:=⟨.subs 102 (z.subs.getD 0 []),166,#[TZ (some ⟨w.heap.size,0,none⟩),TZ (some ⟨w.heap.size+1,0,none⟩),TZ (some ⟨w.heap.size+1+1+1,0,none⟩)],by show(102:Nat)<_;decide⟩;let P2:PV:=⟨.subs 117 (z.subs.getD 1 []),168,#[TZ (some ⟨w.heap.size,0,none⟩),TZ (some ⟨w.heap.size+1,0,none⟩),TZ (some ⟨w.heap.size+1+1+1,0,none⟩)],by show(117:Nat)<_;decide⟩;have O:(f++[P1,P2]).map PV.part=dM z 2:=by
    unfold dM;rw[ai.out,ew,C,aj rfl];rfl
   have H:(f++[P1,P2]).flatMap PV.enc=f.flatMap PV.enc++[TY T7 102,.func (.func 166) #[] #[TZ (some ⟨w.heap.size,0,none⟩),TZ (some ⟨w.heap.size+1,0,none⟩),TZ (some ⟨w.heap.size+1+1+1,0,none⟩)],TY T7 117,.func (.func 168) #[] #[TZ (some ⟨w.heap.size,0,none⟩),TZ (some ⟨w.heap.size+1,0,none⟩),TZ (some ⟨w.heap.size+1+1+1,0,none⟩)]]:=by
    rw[bX];rfl
   have s:(f++[P1,P2]).length=n+2:=by simp[L]
   have D:=gZ wr [TY T7 102,.func (.func 166) #[] #[TZ (some ⟨w.heap.size,0,none⟩),TZ (some ⟨w.heap.size+1,0,none⟩),TZ (some ⟨w.heap.size+1+1+1,0,none⟩)],TY T7 117,.func (.func 168) #[] #[TZ (some ⟨w.heap.size,0,none⟩),TZ (some ⟨w.heap.size+1,0,none⟩),TZ (some ⟨w.heap.size+1+1+1,0,none⟩)]] 220 2 2 rfl;have d:aS wr (wr.alloc (Ua #[TY T7 102,.func (.func 166) #[] #[TZ (some ⟨w.heap.size,0,none⟩),TZ (some ⟨w.heap.size+1,0,none⟩),TZ (some ⟨w.heap.size+1+1+1,0,none⟩)],TY T7 117,.func (.func 168) #[] #[TZ (some ⟨w.heap.size,0,none⟩),TZ (some ⟨w.heap.size+1,0,none⟩),TZ (some ⟨w.heap.size+1+1+1,0,none⟩)]] 220)):=(aS.refl wr).alloc _;have j:=cC d A;have t:∀W v',(wr.alloc (Ua #[TY T7 102,.func (.func 166) #[] #[TZ (some ⟨w.heap.size,0,none⟩),TZ (some ⟨w.heap.size+1,0,none⟩),TZ (some ⟨w.heap.size+1+1+1,0,none⟩)],TY T7 117,.func (.func 168) #[] #[TZ (some ⟨w.heap.size,0,none⟩),TZ (some ⟨w.heap.size+1,0,none⟩),TZ (some ⟨w.heap.size+1+1+1,0,none⟩)]] 220)).grownBy W u9.ownBlock->W.ownsRow m.heap.size 220 2 v' (n+2) (f.flatMap PV.enc++[TY T7 102,.func (.func 166) #[] #[TZ (some ⟨w.heap.size,0,none⟩),TZ (some ⟨w.heap.size+1,0,none⟩),TZ (some ⟨w.heap.size+1+1+1,0,none⟩)],TY T7 117,.func (.func 168) #[] #[TZ (some ⟨w.heap.size,0,none⟩),TZ (some ⟨w.heap.size+1,0,none⟩),TZ (some ⟨w.heap.size+1+1+1,0,none⟩)]])->Calls prog 169 #[v',.func (.func 170) #[] #[]] W fun e w'=>e=.returned (T4 #[])/\sQ B gm r 2 o z vs w (.returned v') w':=fun W v' M ho=>by
    have a1:aU 109 wr W:=(aU.grows d).trans (aU.grown M j (by decide));have F:Below m.heap.size m W:=(u.trans (d.mono Y)).grown M (by have:=d.size;omega) (fun g e=>(gh j e).1);have G:Below m.heap.size wr W:=(d.mono Y).grown M (by have:=d.size;omega) (fun g e=>(gh j e).1);refine am.out W v' (f++[P1,P2]) O (by omega) (by rw[s,H];exact ho) (fun q hq=>?_) F;rcases bT.1 hq with h|h
    ·exact(J q h).keep a1 (G.mono (by omega))
    simp only[aP,bQ,eW]at h;rcases h with rfl|rfl
    ·exact⟨.inl ⟨rfl,rfl⟩,rfl⟩
    exact⟨.inr ⟨rfl,rfl⟩,rfl⟩
   clear O H s J C A u c L;clear_value P1 P2;generalize f.flatMap PV.enc=cs at*;obtain⟨R,N,a0⟩:=aC t j D;clear t j D;clear d;go_wp2_with (at_builtin;go_loud (refine cU _ rfl (.tmp 31) (.tmp 36) 217 rfl m.heap.size 220 i0 _ 2 16 underlying217 bq bb bv bl rfl (by omega) u9 n cs rfl N.out _ (some ⟨wr.heap.size,0,none⟩) 2 2 _ rfl a0.out (by simp[Value.oneCell']) (by simp only[maxLen];omega) (by omega) (by simp;omega) ?_);intro v' w' g1 g2 g3;have S:=R.out w' v' g2 g1;obtain⟨A9,c9,rfl,_⟩:=cX g1;clear g1 g2 g3;have T:=Lib.hid S;clear S);refine T.out.mono ?_;rintro e w6 ⟨rfl,hM⟩;have HM:=Lib.hid hM;clear hM;clear T;go_wp2_with fail;go_ret;exact HM.out
  have O:f.map PV.part=dM z a:=by
   unfold dM;rw[ai.out,C,af bN,dL]
  have cg:((a:Int)==2)=false:=by simp;omega
  have S:=am.out wr u9 f O (by omega) (by rw[L];exact A) J u;obtain⟨A9,c9,rfl,_⟩:=cX A;have T:=Lib.hid S;clear S;clear O J C A u c L;go_wp2_with fail;refine T.out.mono ?_;rintro e w6 ⟨rfl,hM⟩;have HM:=Lib.hid hM;clear hM;clear T;go_wp2_with fail;go_ret;exact HM.out
def dX.Fit:dX->Prop
 | .rules _ l=>l.length<=1000000/\(∀x∈l,x.conds.length<=1000000)/\∀x∈l,∀c∈x.conds,uO c
 | .subs _ l=>l.length<=4096/\∀i,i+1<l.length->(l.getD i default).number<(l.getD (i+1) default).number
theorem Ky(B gm r a o k E j go_:Nat)(R:a<5)(H:Pl)(vs:Array Uc)(n:Nat)(l:List PR)(G:(dX.rules n l).Fit)(t:Nat)(A:Option Addr)(c:Nat)(s:Mk)(z:(jH (decide (a≠2)) o l s).mu<=1000000)(w:Ub)(C:iz w B gm r s)(b:wM w B gm r a o k E j go_ H vs)(q:bK w t 109 #[TY T7 n,T0 A l.length c])(x:Nu w B A l):
  Calls prog 164 #[TZ (some ⟨k,0,none⟩),TZ (some ⟨t,0,none⟩),TZ (some ⟨j,0,none⟩),TZ (some ⟨go_,0,none⟩)] w (dZ B gm r (jH (decide (a≠2)) o l s) (T4 #[]) w):=by
 obtain⟨v,u,y⟩:=G;have i:=Ei B gm r (decide (a≠2)) o l v u y s z A c w C x;have M:w.cell? ⟨k,0,none⟩=some (TZ (some ⟨gm,0,none⟩)):=b.bb.cell 0;have L:w.cell? ⟨j,0,none⟩=some (TY T6 a):=b.ba.cell 0;have O:w.cell? ⟨go_,0,none⟩=some (TY T6 o):=b.bo.cell 0;have T:w.cell? ⟨t,1,none⟩=some (T0 A l.length c):=q.cell 1;have lb:=b.bb.lt;have N:=b.ba.lt;have U:=b.bo.lt;have le:=q.lt;have F:(!decide ((a:Int)=2))=decide (a≠2):=by
  by_cases h:a=2
  ·subst h;rfl
  rw[aK (by omega:¬(a:Int)=2),bM h];rfl
 have D:((a:Int) != 2)=decide (a≠2):=by
  by_cases h:a=2
  ·subst h;rfl
  rw[bM h];simp;omega
 generalize decide (a≠2)=wide at*;generalize l.length=S at*;have g:=Lib.hid i;clear i;clear C b q x v u y z;go_enter func164,ntmps164;go_wp2_with fail;refine g.out.mono ?_;rintro e J ⟨rfl,d,f⟩;obtain⟨m,p⟩:=aA d f;clear d f;clear g;go_wp2_with fail;go_end0;exact⟨rfl,m.out,p.out⟩
theorem Kz(B gm r a o k l y go_:Nat)(d:Pl)(vs:Array Uc)(z:(dX.subs 102 (d.subs.getD 0 [])).Fit)(s:Mk)(v:(kR o (d.subs.getD 0 []) s).mu<=1000000)(w:Ub)(x:iz w B gm r s)(b:wM w B gm r a o k l y go_ d vs):
  Calls prog 166 #[TZ (some ⟨k,0,none⟩),TZ (some ⟨l,0,none⟩),TZ (some ⟨go_,0,none⟩)] w (dZ B gm r (kR o (d.subs.getD 0 []) s) (T4 #[]) w):=by
 obtain⟨t,q⟩:=z;obtain⟨A,c,hv,u⟩:=b.pm.sub (m:=0) (by omega);have j:=yH B gm r o (d.subs.getD 0 []) _ rfl t q s v A c w x u;have E:w.cell? ⟨k,0,none⟩=some (TZ (some ⟨gm,0,none⟩)):=b.bb.cell 0;have F:w.cell? ⟨go_,0,none⟩=some (TY T6 o):=b.bo.cell 0;have H:w.cell? ⟨l,7,none⟩=some (T0 A (d.subs.getD 0 []).length c):=(b.bp.cell 7).trans hv;have lb:=b.bb.lt;have J:=b.bo.lt;have D:=b.bp.lt;generalize kR o (d.subs.getD 0 []) s=X at*;generalize (d.subs.getD 0 []).length=G at*;have i:=Lib.hid j;clear j;clear x b u t q v hv;go_enter func166,ntmps166;go_wp2_with fail;refine i.out.mono ?_;rintro e C ⟨rfl,f,g⟩;obtain⟨n,p⟩:=aA f g;clear f g;clear i;go_wp2_with fail;go_end0;exact⟨rfl,n.out,p.out⟩
theorem KA(B gm r a o k l y go_:Nat)(d:Pl)(vs:Array Uc)(z:(dX.subs 117 (d.subs.getD 1 [])).Fit)(s:Mk)(v:(kR o (d.subs.getD 1 []) s).mu<=1000000)(w:Ub)(x:iz w B gm r s)(b:wM w B gm r a o k l y go_ d vs):
  Calls prog 168 #[TZ (some ⟨k,0,none⟩),TZ (some ⟨l,0,none⟩),TZ (some ⟨go_,0,none⟩)] w (dZ B gm r (kR o (d.subs.getD 1 []) s) (T4 #[]) w):=by
 obtain⟨t,q⟩:=z;obtain⟨A,c,hv,u⟩:=b.pm.sub (m:=1) (by omega);have j:=yH B gm r o (d.subs.getD 1 []) _ rfl t q s v A c w x u;have E:w.cell? ⟨k,0,none⟩=some (TZ (some ⟨gm,0,none⟩)):=b.bb.cell 0;have F:w.cell? ⟨go_,0,none⟩=some (TY T6 o):=b.bo.cell 0;have H:w.cell? ⟨l,8,none⟩=some (T0 A (d.subs.getD 1 []).length c):=(b.bp.cell 8).trans hv;have lb:=b.bb.lt;have J:=b.bo.lt;have D:=b.bp.lt;generalize kR o (d.subs.getD 1 []) s=X at*;generalize (d.subs.getD 1 []).length=G at*;have i:=Lib.hid j;clear j;clear x b u t q v hv;go_enter func168,ntmps168;go_wp2_with fail;refine i.out.mono ?_;rintro e C ⟨rfl,f,g⟩;obtain⟨n,p⟩:=aA f g;clear f g;clear i;go_wp2_with fail;go_end0;exact⟨rfl,n.out,p.out⟩
theorem GP(B gm r a o f g d go_:Nat)(x:a<5)(i:Pl)(vs:Array Uc)(p:PV)(q:p.part.Fit)(s:Mk)(t:(p.part.Sw (decide (a≠2)) o s).mu<=1000000)(w:Ub)(u:iz w B gm r s)(k:wM w B gm r a o f g d go_ i vs)(m:kr w B gm r f g d go_ i p):
  Calls prog p.fn p.caps w (dZ B gm r (p.part.Sw (decide (a≠2)) o s) (T4 #[]) w):=by
 obtain⟨part,C,caps,z⟩:=p;unfold kr at m;cases part with
 |rules n l=>
  obtain⟨b,y,A,c,e,j,v,_⟩:=m;simp only at b e;subst b e;exact Ky B gm r a o f g d go_ x i vs n l q y A c s t w u k j v
 |subs n l=>
  obtain⟨b,e⟩:=m;simp only at b e;subst e;rcases b with⟨b,j⟩|⟨b,j⟩
  ·subst b j;exact Kz B gm r a o f g d go_ i vs q s t w u k
  subst b j;exact KA B gm r a o f g d go_ i vs q s t w u k
theorem KB{w:Ub}{B gm r d e c go_:Nat}{g:Pl}{p:PV}(b:kr w B gm r d e c go_ g p)(args:Array Uc)(W:Ub):(callFunc p.fn args).run prog W=.ok (.enter p.fn args) W:=by
 obtain⟨part,j,caps,i⟩:=p;unfold kr at b;cases part with
 |rules n l=>
  obtain⟨a,_⟩:=b;simp only at a;subst a;exact iK (f:=164) func164 (by kernel_rfl) rfl args W
 |subs n l=>
  obtain⟨a,_⟩:=b;simp only at a;rcases a with⟨a,_⟩|⟨a,_⟩
  ·subst a;exact iK (f:=166) func166 (by kernel_rfl) rfl args W
  subst a;exact iK (f:=168) func168 (by kernel_rfl) rfl args W
theorem vW:∀(l:List dX) (x:dX) (s:Mk),cM (l++[x]) s=(((cM l s).1).mark,(cM l s).2++[(x.number,((cM l s).1).marks+1)])
 |[],x,s=>rfl
 |y::t,x,s=>by
  have ih:=vW t x s.mark;show((cM (t++[x]) s.mark).1,(y.number,s.marks+1)::(cM (t++[x]) s.mark).2)=_
  rw[ih];rfl
theorem yh:∀(a b:List dX) (t:Mk),(cM b (cM a t).1).1=(cM (a++b) t).1
 |[],b,t=>rfl
 |y::a,b,t=>yh a b t.mark
structure M8(pl:Pl):Prop where
 fit:∀a,a<5->∀x∈dM pl a,x.Fit/\x.number<4294967296
 nodup:∀a,a<5->((dM pl a).map dX.number).Nodup
 few:∀a,a<5->(pl.entries.getD a []).length<=1000
theorem M8.SZ{b:Pl}(h:M8 b){a:Nat}(c:a<5):∀e∈b.entries.getD a [],e.number<4294967296:=fun e d=>by
 have:=(h.fit a c (.rules e.number e.rules) (by unfold dM;exact AD _ (bt.2 ⟨e,d,rfl⟩))).2;exact this
theorem M8.len{b:Pl}(h:M8 b){a:Nat}(c:a<5):(cH b a).length<=1002:=by
 have d:(cH b a).length=(dM b a).length:=(gK _ _).length_eq;have e:=h.few a c;rw[d];unfold dM;rw[bw,bu];split
 ·show _+2<=_;omega
 show _+0<=_;omega
theorem Kx{α β:Type}[Inhabited α](N:List α)(M:List β)(z:β)(k:Nat)(b:k<N.length)(a:k<M.length):(N.zip M).drop k=(N.getD k default,M.getD k z)::(N.zip M).drop (k+1):=by
 rw[dm (by rw[List.length_zip];omega),List.getElem_zip];congr 2
 ·rw[aa,ah b];rfl
 rw[aa,ah a];rfl
theorem yi{w:Ub}{A:Option Addr}{n:Nat}{c:List PV}(h:fB w 220 2 A n (c.flatMap PV.enc))(g:c.length=n){k:Nat}(d:k<n):∃b a,A=some ⟨b,a,none⟩/\b<w.heap.size/\w.cell? ⟨b,a+k*2,none⟩=some (TY T7 ((c.getD k default).part.number:Nat))/\w.cell? ⟨b,a+k*2+1,none⟩=some (.func (.func (c.getD k default).fn) #[] (c.getD k default).caps):=by
 obtain⟨b,a,j,i,e⟩:=yI (f:=PV.enc) (by omega) PV.SI h.reads g (by omega);exact⟨b,a,j,i,e k d 0 _ rfl,e k d 1 _ rfl⟩
theorem Ef(wide:Bool)(o:Nat)(l:List (dX×Nat))(s:Mk):fY s (F6 wide o l s):=oJ.doG_ext wide o l s
theorem qy(B gm r a:Nat)(ha:a<5)(c:Pl)(t:M8 c)(vs:Array Uc)(s:Mk)(hs:(fA c a s).mu<=1000000)(w:Ub)(hm:iz w B gm r s)(hp:jO w B c vs):
  Calls prog 50 #[TZ (some ⟨gm,0,none⟩),T1 vs,TY T6 a] w (dZ B gm r (fA c a s) (T4 #[]) w):=by
 obtain⟨iu,fb,f0,gg,e9⟩:=cZ EG;obtain⟨im,f4,fs,gn,fu⟩:=cZ By;have fz:=hm.lt;have fv:B<=w.heap.size:=ax hm.gm (dS fz.1);obtain⟨D,u⟩:=ka hm (Ua vs 67);have bA:=bK.new w 67 vs;have d3:=hp.below u.below;have hJ:=hs;unfold fA at hs⊢;have ai:=qw (t.nodup a ha);have ft:=t.len ha;have ag:∀x∈cH c a,x.Fit/\x.number<4294967296:=fun x hx=>t.fit a ha x (nh.1 hx)
 generalize hX:F6 (decide (a≠2)) (s.to c.dflt) ((cH c a).zip ((cM (cH c a) (s.goes c.dflt)).2.map (·.2))) (cW (s.to c.dflt) ((cH c a).length+1) (cM (cH c a) (s.goes c.dflt)).2 (cM (cH c a) (s.goes c.dflt)).1)=X at*;have m3:(cW (s.to c.dflt) ((cH c a).length+1) (cM (cH c a) (s.goes c.dflt)).2 (cM (cH c a) (s.goes c.dflt)).1).mu<=1000000:=eP (by rw[<-hX];exact Ef _ _ _ _) hs;have m2:=eP (eK (s.to c.dflt) ((cH c a).length+1) (cM (cH c a) (s.goes c.dflt)).2 (cM (cH c a) (s.goes c.dflt)).1).ext m3;have m1:(s.goes c.dflt).mu<=1000000:=eP (iZ _ _).ext m2;have e1:=ky B gm r s c.dflt m1 _ D;generalize s.goes c.dflt=p at*;generalize s.to c.dflt=o at*;obtain⟨d0,_,f8⟩:=hp.dflt;have cd:(w.alloc (Ua vs 67)).cell? ⟨w.heap.size,0,none⟩=some (TY T7 c.dflt):=(bA.cell 0).trans d0;have eo:=fun(W:Ub) h1 h2 h3 h4=>Eg B gm r a o ha c vs (t.nodup a ha) (t.SZ ha) (t.few a ha) W h1 h2 h3 h4
 obtain⟨hz,gl,BA,g0,HX,f6,c3,cx,hK⟩:=ay D u bA d3 hX eo ag ai t;clear D u bA d3 hX eo ag ai t;clear hm hp d0;go_enter func50,ntmps50;go_wp2_with fail;refine e1.mono ?_;rintro e w1 ⟨rfl,ar,y⟩;have b0:=ar.lt;have b1:=y.blk BA.out (by decide) (by omega) (by omega);have eq:=g0.out.below y.below;have y:=gl.out.trans y;have c9:B<=w1.heap.size:=ax fv y.below.size;have ch:=f6.out w1 b0.1 b0.2 c9 eq;have hB:=b1.lt;obtain⟨eu,fn⟩:=aA ar y;clear ar y;clear e1 eq;go_wp2_with (refine dv rfl 67 (.tmp 4) rfl w.heap.size rfl 67 vs (0,0) _ b1 underlying67 rfl (by rw[f8];kernel_rfl) ?_);refine ch.mono ?_;rintro e w3 ⟨v,ps,gb,gp,ga,go_,rfl,bl,et,E,d8,a7⟩;have c2:=eu.out.grows a7;have hl:=c2.lt;have d6:=fn.out.trans (Fr.grows (B:=B) (gm:=gm) (r:=r) a7 c9);have hc:=a7.size;have a1:ps.length=(cH c a).length:=by rw[<-bl,bu]
 have bv:∀k,k<ps.length->(cH c a).getD k default=(ps.getD k default).part:=fun k hk=>by
  rw[<-bl,aa,cO,aa,ah hk];rfl
 obtain⟨Ap,cp,rfl,eg⟩:=fB.Sp et;generalize e4:ps.length=n at*;have aE:=fun k=>yh ((cH c a).take k) ((cH c a).drop k) p
 simp only[fl]at aE;have ca:=fun k=>iZ ((cH c a).drop k) (cM ((cH c a).take k) p).1
 generalize hN:cH c a=N at*;have hv:n<=1002:=by omega
 obtain⟨bo,gs,gc,g6,ej,ge,cf,en,ea⟩:=ay c2 d6 d8 E eg bl bv aE ca;obtain⟨g,c0⟩:=aA a1 e4;clear c2 d6 d8 E eg bl bv aE ca a1 e4;clear ch et a7 b1;go_wp2_with fail;go_loopw [8,9,25] (fun nv mv i wr=>∃k:Nat,k<=n/\i=TY T6 k/\iz wr B gm r (cM (N.take k) p).1/\Fr B gm r w3 wr/\wr.ownsRow w3.heap.size 28 1 nv k (mI ((cM (N.take k) p).2.map (·.1)))/\wr.ownsRow w3.heap.size 3 1 mv k (sV ((cM (N.take k) p).2.map (·.2)))) (fun _ _ i _=>n - (intOf i).toNat)
 case atStart=>exact⟨0,by omega,rfl,bo.out,Fr.refl _ _ _ _,aX _ _ _ _,aX _ _ _ _⟩
 case round=>
  obtain⟨k,hk,rfl,f,d,L,R⟩:=hrel;have b8:=f.lt;have f7:=d.below.size;have bq:B<=w3.heap.size:=by omega
  by_cases l:k<n
  ·have fi:(k:Int)<(n:Int):=by omega
   have q:=ej.out.keep (d.Su bo.out (by decide) (by decide));obtain⟨b,fx,rfl,hb,h0,h1⟩:=yi q c0.out l;have bi:=sY N k (by rw[<-g.out];exact l);rw[cf.out k l]at bi;have F:=(ea.out (k+1)).ext;rw[en.out (k+1)]at F;generalize ps.getD k default=P at*;obtain⟨Pp,Pf,Pc,Pk⟩:=P;simp only at h0 h1 bi;have ba:=vW (N.take k) Pp p;rw[<-bi]at ba;rw[ba]at F;have gt:((cM (N.take k) p).1.mark).mu<=1000000:=eP F m2;generalize (cM (N.take k) p).1=sk at*;generalize (cM (N.take k) p).2=pk at*;generalize Pp.number=xn at*;have J:aS wr ((wr.alloc (Ua #[TY T7 xn,.func (.func Pf) #[] Pc] 220)).alloc (Ua #[TY T7 xn] 28)):=((aS.refl wr).alloc _).alloc _;have cg:=cC J L;have br:=cC J R;have bB:=f.grows J;have b5:=d.trans (Fr.grows (B:=B) (gm:=gm) (r:=r) J (by omega));have ct:=gZ (wr.alloc (Ua #[TY T7 xn,.func (.func Pf) #[] Pc] 220)) [TY T7 xn] 28 1 1 rfl;simp only[cE]at ct;have a0:=fun W hW=>ku B gm r sk gt W hW
   have hU:mI ((pk++[(xn,sk.marks+1)]).map (·.1))=mI (pk.map (·.1))++[TY T7 xn]:=by simp[mI]
   have hV:sV ((pk++[(xn,sk.marks+1)]).map (·.2))=sV (pk.map (·.2))++[TY T6 (sk.marks+1:Nat)]:=by simp[sV]
   generalize mI (pk.map (·.1))=U at*;generalize sV (pk.map (·.2))=V at*;generalize sk.marks+1=mk at*;obtain⟨cs,HU,HV,cv,C,dk,dg,ey,fq⟩:=ay ba hU hV a0 cg br bB b5 ct;clear ba hU hV a0 cg br bB b5 ct;clear J f L R d F bi q;go_wp2_with (at_builtin;go_loud (refine cU _ rfl (.tmp 29) (.tmp 32) 144 rfl w3.heap.size 28 iu _ 1 4 underlying144 fb f0 gg e9 rfl (by omega) u8 k U rfl C.out _ (some ⟨wr.heap.size+1,0,none⟩) 1 1 _ rfl fq.out (by simp[Value.oneCell']) (by simp only[maxLen];omega) (by omega) (by simp;omega) ?_);intro v' w' g1 g2 g3;have ad:=dg.out.Ss C.out g2 (by decide) (by decide);have T:=ey.out.Ss (ae _) C.out g2 bq;have ak:=mQ dk.out C.out (by decide) g2;clear g2 g3;have G:=Lib.hid ad;have a4:=Lib.hid T;have bf:=Lib.hid ak;have bp:=Lib.hid g1;clear ad T ak g1);refine(cv.out _ G.out).mono ?_;rintro e w5 ⟨rfl,ds,bb⟩;have ci:=bb.own G.out bp.out (by decide) (by decide);have b3:=bb.own G.out bf.out (by decide) (by decide);have am:=a4.out.trans bb;have hG:=am.below.size;have a2:aS w5 (w5.alloc (Ua #[TY T6 mk] 3)):=(aS.refl w5).alloc _;have bS:=cC a2 ci;have cb:=cC a2 b3;have an:=ds.grows a2;have m:=am.trans (Fr.grows (B:=B) (gm:=gm) (r:=r) a2 (by omega));have bW:=gZ w5 [TY T6 mk] 3 1 1 rfl;obtain⟨dd,A,av,cy,ex⟩:=aG bS cb an m bW;clear bS cb an m bW;clear ds bb ci b3 am a2 G a4 bf bp;go_wp2_with (at_builtin;go_loud (refine cU _ rfl (.tmp 34) (.tmp 37) 86 rfl w3.heap.size 3 im _ 1 8 underlying86 f4 fs gn fu rfl (by omega) u9 k V rfl A.out _ (some ⟨w5.heap.size,0,none⟩) 1 1 _ rfl ex.out (by simp[Value.oneCell']) (by simp only[maxLen];omega) (by omega) (by simp;omega) ?_);intro v2 w' g1 g2 g3;have ad:=av.out.Ss A.out g2 (by decide) (by decide);have T:=cy.out.Ss (ae _) A.out g2 bq;have ak:=mQ dd.out A.out (by decide) g2;clear g2 g3;have G:=Lib.hid ad;have a4:=Lib.hid T;have bf:=Lib.hid ak;have bp:=Lib.hid g1;clear ad T ak g1);go_roundw;case rel=>
    refine⟨k+1,by omega,by go_num,?_,a4.out,?_,?_⟩
    ·rw[cs.out];exact G.out
    ·rw[cs.out,HU.out];exact bf.out
    rw[cs.out,HV.out];exact bp.out
   case measure=>simp[intOf];omega
  obtain rfl:n=k:=by omega
  have er:N.take n=N:=bI (by rw[g.out];exact ae _);rw[er]at f L R;have d2:=pg N p;have z:(cM N p).2.length=n:=by rw[mY];exact g.out.symm
  have bs:∀i,i+1<n->((cM N p).2.map (·.1)).getD i 0<((cM N p).2.map (·.1)).getD (i+1) 0:=fun i hi=>by
   have a1:=g.out;have hg:∀j,j<n->(N.map dX.number).getD j 0=(N.getD j default).number:=fun j hj=>by
    rw[aa,cO,aa,ah (by omega)];rfl
   rw[d2,hg i (by omega),hg (i+1) hi];have:=gP.1 cx.out i (i+1) (by omega) (by omega) (by omega);rw[aa,ah (by omega),aa,ah (by omega)];exact this
  obtain⟨An,cn,rfl,g4,fy,c8⟩:=oF L;obtain⟨Am,cm,rfl,cr⟩:=fB.Sp R;rw[<-g.out]at m3 HX;have es:=uj B gm r o (cM N p).2 n z (by have:=g.out;omega) bs (cM N p).1 m3 An cn g4 (by simpa[maxLen]using fy) Am cm wr f c8 cr;generalize hS:cW o (n+1) (cM N p).2 (cM N p).1=S at*;have ed:((cM N p).2.map (·.2)).length=n:=by rw[bu,z]
  generalize ec:(cM N p).2.map (·.2)=M at*;have al:=gs.out.trans d;obtain⟨a6,fd,ap,HS,hI,cu,eh⟩:=az al cr f hS ec d ed;clear al cr f hS ec d ed;clear L R er d2 z bs c8 b8;go_wp2_with fail;refine es.mono ?_;rintro e w6 ⟨rfl,an,m⟩;have bR:=fd.out.keep (m.Su ap.out (by decide) (by decide));have b4:=ej.out.keep ((cu.out.Su bo.out (by decide) (by decide)).trans (m.Su ap.out (by decide) (by decide)));have bN:=cu.out.trans m;have m:=a6.out.trans m;obtain⟨av,cy,dp,d9,e5⟩:=aG an m bR b4 bN;clear an m bR b4 bN;clear es ap a6 cu;go_wp2_with fail;go_loopw [47] (fun i wr=>∃(k:Nat) (st:Mk),k<=n/\i=TY T6 k/\F6 (decide (a≠2)) o ((N.zip M).drop k) st=X/\iz wr B gm r st/\Fr B gm r w6 wr) (fun i _=>n - (intOf i).toNat)
  case atStart=>exact⟨0,S,by omega,rfl,HX.out,av.out,Fr.refl _ _ _ _⟩
  case round=>
   obtain⟨k,st,hk,rfl,H,f,d⟩:=hrel;have b8:=f.lt;have f7:=d.below.size;by_cases l:k<n
   ·have fi:(k:Int)<(n:Int):=by omega
    have q:=d9.out.keep (d.Su av.out (by decide) (by decide));obtain⟨b,fx,rfl,hb,h0,h1⟩:=yi q c0.out l;have bx:=dp.out.keep (d.Su av.out (by decide) (by decide));obtain⟨bm,om,rfl,id,ei⟩:=bx.reads.TH (by omega);have hf:=ei k l;have c1:=Kx N M 0 k (by rw[<-g.out];exact l) (by rw[eh.out];exact l);rw[cf.out k l]at c1;rw[c1]at H;have a5:ps.getD k default∈ps:=oQ (by rw[c0.out];exact l);have E:=(g6.out _ a5);have b2:=c3.out (ps.getD k default).part (by rw[<-ge.out];exact bt.2 ⟨_,a5,rfl⟩);generalize ps.getD k default=P at*;generalize M.getD k 0=mk at*;have Z:F6 (decide (a≠2)) o ((N.zip M).drop (k+1)) (P.part.Sw (decide (a≠2)) o (st.put [du mk]))=X:=H;have cl:(P.part.Sw (decide (a≠2)) o (st.put [du mk])).mu<=1000000:=eP (by rw[<-Z];exact Ef _ _ _ _) hs;have d1:(st.put [du mk]).mu<=1000000:=eP (mN _ _ _ _).ext cl;obtain⟨D,u⟩:=ka f (Ua #[TY T7 P.part.number,.func (.func P.fn) #[] P.caps] 220);have bA:=bK.new wr 220 #[TY T7 P.part.number,.func (.func P.fn) #[] P.caps];have O:=kv B gm r st mk d1 _ D;have ab:=fun W h1 h2 h3=>GP B gm r a o gb gp ga go_ ha c vs P b2.1 (st.put [du mk]) cl W h1 h2 h3
    have hC:=fun args W=>KB E args W
    have bO:=e5.out.trans (d.trans u);have b9:=d.trans u;generalize P.part.Sw (decide (a≠2)) o (st.put [du mk])=S3 at*;generalize st.put [du mk]=S2 at*;have gA:=P.part.number;generalize ef:P.part.number=pn at*;generalize d5:P.fn=pf at*;generalize e2:P.caps=pc at*;have cc:=E;obtain⟨e0,co,ek,e3,d4,BA,hO,hT,hQ⟩:=ay cc ab Z bO b9 bA ef d5 e2;have h6:=Lib.hid a5;clear cc ab Z bO b9 bA ef d5 e2 a5;clear D H c1 f d u q bx ei cl d1 gA b2 E;go_wp2_with fail;refine O.mono ?_;rintro e w7 ⟨rfl,dl,be⟩;have b7:=be.blk BA.out (by decide) (by omega) (by omega);have k1:w7.cell? ⟨wr.heap.size,1,none⟩=some (.func (.func pf) #[] pc):=b7.cell 1;have h9:=b7.lt;have Y:=e3.out.trans be;have ce:=d4.out.trans be;have ev:=co.out w7 dl (gc.out.fr Y) (e0.out.fr bo.out Y);obtain⟨em,el⟩:=aA ce ev;clear ce ev;clear O dl be b7 Y;go_wp2_with fail;refine el.out.mono ?_;rintro e w8 ⟨rfl,e6,a9⟩;have a9:=em.out.trans a9;obtain⟨f9,f3⟩:=aA e6 a9;clear e6 a9;clear el k1;go_wp2_with fail;go_roundw;case rel=>exact⟨k+1,S3,by omega,by go_num,ek.out,f9.out,f3.out⟩
    case measure=>simp[intOf];omega
   obtain rfl:n=k:=by omega
   have d7:(N.zip M).drop n=[]:=kj (by rw[List.length_zip,eh.out,<-g.out];omega);rw[d7]at H;have F:st=X:=H;subst F;have al:=cy.out.trans d;obtain⟨ap,a6⟩:=aA f al;clear f al;clear d d7;go_wp2_with fail;go_end0;exact⟨rfl,ap.out,a6.out⟩
theorem GN(B gm r:Nat)(b:Pl)(hx:b.x32=false)(al:M8 b)(vs:Array Uc)(s:Mk)(T:(nP b s).mu<=1000000)(w:Ub)(U:iz w B gm r s)(hp:jO w B b vs):
  Calls prog 49 #[TZ (some ⟨gm,0,none⟩),T1 vs] w (dZ B gm r (nP b s) (T4 #[]) w):=by
 have ak:=U.lt;have bk:B<=w.heap.size:=ax U.gm (dS ak.1);obtain⟨q,A⟩:=ka U (Ua vs 67);have Z:=bK.new w 67 vs;have R:=hp;obtain⟨d0,d1,an⟩:=hp.dflt;rw[hx]at d1;have hG:nP b s=fA b 0 ((((s.goes b.dflt).put [bc 21 4294967295 (s.to b.dflt) 0]).goes 2147483648).put [bc 69 1073741824 (((s.goes b.dflt).put [bc 21 4294967295 (s.to b.dflt) 0]).to 2147483648) 0]):=by unfold nP;simp only[hx];rw[aj trivial]
 rw[hG]at T⊢;have c:=fun(a:Nat) (ha:a<5) (t:Mk) (ht:(fA b a t).mu<=1000000) W h1 h2=>qy B gm r a ha b al vs t ht W h1 h2
 have cd:(w.alloc (Ua vs 67)).cell? ⟨w.heap.size,0,none⟩=some (TY T7 b.dflt):=(Z.cell 0).trans d0;have a7:w.heap.size<(w.alloc (Ua vs 67)).heap.size:=by simp
 have S:((s.goes b.dflt).put [bc 21 4294967295 (s.to b.dflt) 0]).mu<=1000000:=by
  refine eP ?_ T;exact(fY.goes _ _).trans ((fY.put _ _).trans (eB b 0 _).ext)
 have O:=ky B gm r s b.dflt (eP (fY.put _ _) S) _ q;have p:=fun W J=>fV (B:=B) (gm:=gm) (r:=r) (s:=s.goes b.dflt) [bc 21 4294967295 (s.to b.dflt) 0] 1 rfl #[TY T6 0,TY T9 21,TY T7 4294967295,TY T6 (s.to b.dflt:Nat),TY T6 0] (by simp[dq,It.vals,bc]) W J S
 generalize (s.goes b.dflt).put [bc 21 4294967295 (s.to b.dflt) 0]=j at*;generalize s.goes b.dflt=s0 at*;generalize s.to b.dflt=o at*;have v:((j.goes 2147483648).put [bc 69 1073741824 (j.to 2147483648) 0]).mu<=1000000:=eP (eB b 0 _).ext T;have d:=fun W J=>ky B gm r j 2147483648 (eP (fY.put _ _) v) W J
 have k:=fun W J=>fV (B:=B) (gm:=gm) (r:=r) (s:=j.goes 2147483648) [bc 69 1073741824 (j.to 2147483648) 0] 1 rfl #[TY T6 0,TY T9 69,TY T7 1073741824,TY T6 (j.to 2147483648:Nat),TY T6 0] (by simp[dq,It.vals,bc]) W J v
 have n:=c 0 (by omega) _ T;generalize (j.goes 2147483648).put [bc 69 1073741824 (j.to 2147483648) 0]=s3 at*;generalize j.goes 2147483648=s2 at*;generalize j.to 2147483648=o2 at*;replace d:∀W,iz W B gm r j->Calls prog 45 #[TZ (some ⟨gm,0,none⟩),TY T7 2147483648] W (dZ B gm r s2 (TY T6 o2) W):=d;replace n:∀W,iz W B gm r s3->jO W B b vs->Calls prog 50 #[TZ (some ⟨gm,0,none⟩),T1 vs,TY T6 0] W (dZ B gm r (fA b 0 s3) (T4 #[]) W):=n;generalize G:fA b 0 s3=X at*;obtain⟨bb,av,BA,ad,E,F,u,a2,bN⟩:=ay q A Z R p d k n G;clear q A Z R p d k n G;clear U hp d0 c hG;go_enter func49,ntmps49;go_wp2_with fail;refine O.mono ?_;rintro e w1 ⟨rfl,M,l⟩;have b1:=l.blk BA.out (by decide) (by omega) (by omega);have l:=av.out.trans l;have be:=b1.lt;have H:=E.out w1 M;obtain⟨B1,ag⟩:=aA b1 l;clear b1 l;clear O M;go_wp2_with fail;refine H.mono ?_;rintro e w2 ⟨rfl,C,i⟩;have V:=i.blk B1.out (by decide) (by omega) (by omega);have i:=ag.out.trans i;have bp:=V.lt;have c1:w2.cell? ⟨w.heap.size,1,none⟩=some (T2 false):=(V.cell 1).trans d1;clear H d1;have N:=F.out w2 C;obtain⟨B2,a0⟩:=aA V i;clear V i;clear C;go_wp2_with fail;refine N.mono ?_;rintro e w3 ⟨rfl,L,g⟩;have Y:=g.blk B2.out (by decide) (by omega) (by omega);have g:=a0.out.trans g;have bl:=Y.lt;have x:=u.out w3 L;obtain⟨B3,a1⟩:=aA Y g;clear Y g;clear N L;go_wp2_with fail;refine x.mono ?_;rintro e w4 ⟨rfl,y,f⟩;have b4:=f.blk B3.out (by decide) (by omega) (by omega);have f:=a1.out.trans f;have bq:=b4.lt;have D:=a2.out w4 y (ad.out.below f.below);have am:=Lib.hid f;clear f;clear x y;go_wp2_with (refine dv rfl 67 (.tmp 3) rfl w.heap.size rfl 67 vs (0,0) _ b4 underlying67 rfl (by rw[an];kernel_rfl) ?_);refine D.mono ?_;rintro e w5 ⟨rfl,z,m⟩;have m:=am.out.trans m;obtain⟨ab,ap⟩:=aA z m;clear z m;clear D;go_wp2_with fail;go_end0;exact⟨rfl,ab.out,ap.out⟩
theorem GO(B gm r:Nat)(b:Pl)(hx:b.x32=true)(a7:M8 b)(vs:Array Uc)(s:Mk)(hs:(nP b s).mu<=1000000)(w:Ub)(hm:iz w B gm r s)(hp:jO w B b vs):
  Calls prog 49 #[TZ (some ⟨gm,0,none⟩),T1 vs] w (dZ B gm r (nP b s) (T4 #[]) w):=by
 have a6:=hm.lt;have b8:B<=w.heap.size:=ax hm.gm (dS a6.1);obtain⟨x,J⟩:=ka hm (Ua vs 67);have bA:=bK.new w 67 vs;have ak:=hp;obtain⟨d0,d1,V⟩:=hp.dflt;rw[hx]at d1;have hG:nP b s=fA b 1 ((fA b 0 ((((s.goes b.dflt).put [bc 21 4294967295 (s.to b.dflt) 0]).mark).put [bc 69 1073741824 (((s.goes b.dflt).put [bc 21 4294967295 (s.to b.dflt) 0]).marks+1) 0])).put [du (((s.goes b.dflt).put [bc 21 4294967295 (s.to b.dflt) 0]).marks+1)]):=by unfold nP;simp only[hx];rw[af (by simp)]
 rw[hG]at hs⊢;have c:=fun(a:Nat) (ha:a<5) (t:Mk) (ht:(fA b a t).mu<=1000000) W h1 h2=>qy B gm r a ha b a7 vs t ht W h1 h2
 have cd:(w.alloc (Ua vs 67)).cell? ⟨w.heap.size,0,none⟩=some (TY T7 b.dflt):=(bA.cell 0).trans d0;have bN:w.heap.size<(w.alloc (Ua vs 67)).heap.size:=by simp
 have al:((s.goes b.dflt).put [bc 21 4294967295 (s.to b.dflt) 0]).mu<=1000000:=by
  refine eP ?_ hs;exact(fY.mark _).trans ((fY.put _ _).trans ((eB b 0 _).ext.trans ((fY.put _ _).trans (eB b 1 _).ext)))
 have ai:=ky B gm r s b.dflt (eP (fY.put _ _) al) _ x;have v:=fun W z=>fV (B:=B) (gm:=gm) (r:=r) (s:=s.goes b.dflt) [bc 21 4294967295 (s.to b.dflt) 0] 1 rfl #[TY T6 0,TY T9 21,TY T7 4294967295,TY T6 (s.to b.dflt:Nat),TY T6 0] (by simp[dq,It.vals,bc]) W z al
 generalize (s.goes b.dflt).put [bc 21 4294967295 (s.to b.dflt) 0]=d at*;generalize s.goes b.dflt=s0 at*;generalize s.to b.dflt=o at*;have m4:=eP (eB b 1 _).ext hs;have m3:=eP (fY.put _ _) m4;have m2:=eP (eB b 0 _).ext m3;have m1:=eP (fY.put _ _) m2;have N:=fun W z=>ku B gm r d m1 W z
 have n:=fun W z=>fV (B:=B) (gm:=gm) (r:=r) (s:=d.mark) [bc 69 1073741824 (d.marks+1) 0] 1 rfl #[TY T6 0,TY T9 69,TY T7 1073741824,TY T6 (d.marks+1:Nat),TY T6 0] (by simp[dq,It.vals,bc]) W z m2
 have u:=c 0 (by omega) _ m3;have j:=fun W z=>kv B gm r (fA b 0 (d.mark.put [bc 69 1073741824 (d.marks+1) 0])) (d.marks+1) m4 W z
 have f:=c 1 (by omega) _ hs;generalize ((fA b 0 (d.mark.put [bc 69 1073741824 (d.marks+1) 0])).put [du (d.marks+1)])=s5 at*;generalize (fA b 0 (d.mark.put [bc 69 1073741824 (d.marks+1) 0]))=s4 at*;generalize (d.mark.put [bc 69 1073741824 (d.marks+1) 0])=s3 at*;generalize d.mark=s2 at*;generalize d.marks+1=mk at*;replace u:∀W,iz W B gm r s3->jO W B b vs->Calls prog 50 #[TZ (some ⟨gm,0,none⟩),T1 vs,TY T6 0] W (dZ B gm r s4 (T4 #[]) W):=u;replace f:∀W,iz W B gm r s5->jO W B b vs->Calls prog 50 #[TZ (some ⟨gm,0,none⟩),T1 vs,TY T6 1] W (dZ B gm r (fA b 1 s5) (T4 #[]) W):=f;generalize Y:fA b 1 s5=X at*;obtain⟨bS,bk,BA,G,R,a9,A,bp,y⟩:=ay x J bA ak v N n u j;obtain⟨T,cr⟩:=aA f Y;clear x J bA ak v N n u j f Y;clear hm hp d0 c hG;go_enter func49,ntmps49;go_wp2_with fail;refine ai.mono ?_;rintro e w1 ⟨rfl,ad,p⟩;have b1:=p.blk BA.out (by decide) (by omega) (by omega);have p:=bk.out.trans p;have bW:=b1.lt;have Z:=R.out w1 ad;obtain⟨B1,a1⟩:=aA b1 p;clear b1 p;clear ai ad;go_wp2_with fail;refine Z.mono ?_;rintro e w2 ⟨rfl,L,m⟩;have b2:=m.blk B1.out (by decide) (by omega) (by omega);have m:=a1.out.trans m;have cf:=b2.lt;have c1:w2.cell? ⟨w.heap.size,1,none⟩=some (T2 true):=(b2.cell 1).trans d1;clear Z d1;have ag:=a9.out w2 L;obtain⟨B2,bm⟩:=aA b2 m;clear b2 m;clear L;go_wp2_with fail;refine ag.mono ?_;rintro e w3 ⟨rfl,ab,k⟩;have b3:=k.blk B2.out (by decide) (by omega) (by omega);have k:=bm.out.trans k;have b9:=b3.lt;have C:=A.out w3 ab;obtain⟨B3,bo⟩:=aA b3 k;clear b3 k;clear ag ab;go_wp2_with fail;refine C.mono ?_;rintro e w4 ⟨rfl,D,g⟩;have b4:=g.blk B3.out (by decide) (by omega) (by omega);have g:=bo.out.trans g;have cg:=b4.lt;have M:=bp.out w4 D (G.out.below g.below);have am:=b4;obtain⟨bb,B4⟩:=aA g b4;clear g b4;clear C D;go_wp2_with (refine dv rfl 67 (.tmp 3) rfl w.heap.size rfl 67 vs (0,0) _ am underlying67 rfl (by rw[V];kernel_rfl) ?_);clear am;refine M.mono ?_;rintro e w5 ⟨rfl,F,l⟩;have b5:=l.blk B4.out (by decide) (by omega) (by omega);have l:=bb.out.trans l;have cs:=b5.lt;have H:=y.out w5 F;obtain⟨B5,be⟩:=aA b5 l;clear b5 l;clear M F;go_wp2_with fail;refine H.mono ?_;rintro e w6 ⟨rfl,S,i⟩;have b6:=i.blk B5.out (by decide) (by omega) (by omega);have i:=be.out.trans i;have ci:=b6.lt;have O:=T.out w6 S (G.out.below i.below);have U:=b6;have bf:=Lib.hid i;clear i;clear H S b6;go_wp2_with (refine dv rfl 67 (.tmp 3) rfl w.heap.size rfl 67 vs (0,0) _ U underlying67 rfl (by rw[V];kernel_rfl) ?_);clear U;refine O.mono ?_;rintro e w7 ⟨rfl,E,q⟩;have q:=bf.out.trans q;obtain⟨ba,a5⟩:=aA E q;clear E q;clear O;go_wp2_with fail;go_end0;exact⟨rfl,ba.out,a5.out⟩
theorem Kw(B gm r:Nat)(a:Pl)(b:M8 a)(vs:Array Uc)(s:Mk)(e:(nP a s).mu<=1000000)(w:Ub)(d:iz w B gm r s)(c:jO w B a vs):
  Calls prog 49 #[TZ (some ⟨gm,0,none⟩),T1 vs] w (dZ B gm r (nP a s) (T4 #[]) w):=by
 cases h:a.x32 with
 |false=>exact GN B gm r a h b vs s e w d c
 |true=>exact GO B gm r a h b vs s e w d c
def aT(k:Nat):Nat:=[0,2,3,4].getD k 0
def ns:Nat->Mk
 |0=>⟨[bc 32 4 0 0],0,[]⟩
 |k+1=>rV (aT k) (ns k)
theorem sO:∀k,(ns k).marks=k
 |0=>rfl
 |k+1=>by show(ns k).marks+1=_;rw[sO k]
theorem JC:∀k,(ns k).mu=2*k+1
 |0=>rfl
 |k+1=>by
  show(((ns k).mark).put _).mu=_
  rw[ij,rC,JC k];simp;omega
def GL(k:Nat):List (Int×Uc):=(List.range k).map fun j=>((aT j:Int),Value.int T6 ((j+1:Nat):Int))
def Ku(n:Int):Uc:=TY T6 n
theorem M4:GMap.Keys prog 3 Ku:=GMap.keys_int 3 T6 underlying3
theorem M5(k:Nat)(a:k<4):GMap.put (GL k) (aT k:Int) (TY T6 ((k+1:Nat):Int))=GL (k+1):=by
 obtain rfl|rfl|rfl|rfl:k=0\/k=1\/k=2\/k=3:=by omega
 all_goals rfl
theorem Bf(k j:Nat)(a:k<=4)(b:j<k):GMap.look (GL k) (aT j:Int)=some (TY T6 ((j+1:Nat):Int)):=by
 obtain rfl|rfl|rfl|rfl:k=1\/k=2\/k=3\/k=4:=by omega
 all_goals
  obtain rfl|rfl|rfl|rfl:j=0\/j=1\/j=2\/j=3:=by omega
  all_goals first|rfl|omega
theorem Qh(k:Nat)(a:k<4):aT k<5/\aT k≠1:=by
 obtain rfl|rfl|rfl|rfl:k=0\/k=1\/k=2\/k=3:=by omega
 all_goals decide
theorem GM(a:Nat)(c:a<5)(d:a≠1):∃n b i,fW a=#[.string n,TY T7 (tokenN a:Nat),T2 b,TY T6 i]:=by
 obtain rfl|rfl|rfl|rfl:a=0\/a=2\/a=3\/a=4:=by omega
 all_goals exact⟨_,_,_,rfl⟩
theorem Fr.TC{B gm r:Nat}{w w':Ub}(h:Fr B gm r w w'){g:Nat}{l:List (Int×Uc)}(a:GMap.Row w g Ku l)(c:g≠gm)(b:g≠r):GMap.Row w' g Ku l:=
 a.of_heap (h.keep g a.lt c b fun cs fr e=>by
  unfold GMap.Row at a;rw[a]at e;injection e with e
  cases e)
def oP(b:Pl)(a:Mk):Nat->Mk
 |0=>a
 |k+1=>gM b (aT k) (k+1) (oP b a k)
theorem Kv(a:Pl):jI a=oP a (((ns 4).goes 2147483648).put [bc 5 0 ((ns 4).to 2147483648) 0]) 4:=rfl
def CA:Mk:=((ns 4).goes 2147483648).put [bc 5 0 ((ns 4).to 2147483648) 0]
theorem M6(b:Pl)(a m:Nat)(s:Mk):fY s (gM b a m s):=by
 unfold gM;simp only;split
 ·exact(fY.put _ _).trans ((fY.put _ _).trans (re b _).ext)
 exact(fY.put _ _).trans ((fY.put _ _).trans (eB b a _).ext)
theorem yg(a:Pl)(s:Mk):∀j k,k<=j->fY (oP a s k) (oP a s j)
 |0,k,h=>by
  obtain rfl:k=0:=by omega
  exact fY.refl _
 |j+1,k,h=>by
  by_cases e:k=j+1
  ·subst e;exact fY.refl _
  exact(yg a s j k (by omega)).trans (M6 a _ _ _)
theorem Bg(s:Mk)(c:Nat):∀l:List Nat,l7 s (l++[c])=l7 s l++[du (lookM s.blocks c),bc 6 c 0 0]
 |[]=>rfl
 |x::t=>by
  show du _::bc 6 x 0 0::l7 s (t++[c])=_
  rw[Bg s c t];rfl
theorem Bh(s:Mk):∀l:List Nat,(l7 s l).length=2*l.length
 |[]=>rfl
 |x::t=>by
  show(l7 s t).length+1+1=_
  rw[Bh s t,aM];omega
def sP(s:Mk)(l:List Nat):Mk:=⟨s.l++l7 s l,s.marks,s.blocks⟩
theorem M7(s:Mk):sP s []=s:=by unfold sP l7;rw[dL]
theorem Bi(s:Mk)(l:List Nat)(c:Nat):sP s (l++[c])=((sP s l).put [du (lookM s.blocks c)]).put [bc 6 c 0 0]:=by
 unfold sP Mk.put;rw[Bg];simp
theorem Pb(s:Mk)(l:List Nat):(sP s l).mu=s.mu+2*l.length:=by
 unfold sP Mk.mu;simp only[bw,Bh];omega
structure F8(w W:Ub)(pl:Pl)(vs:Array Uc)(s:Mk)(k gt:Nat):Prop where
 below:Below w.heap.size w W
 mak:iz W w.heap.size (w.heap.size+2) (w.heap.size+1) s
 plan:bK W w.heap.size 67 vs
 tok:GMap.Row W gt Ku (GL k)
 gt:w.heap.size+2<gt
theorem F8.fr{w W b:Ub}{c:Pl}{vs:Array Uc}{s s':Mk}{k d:Nat}(h:F8 w W c vs s k d)(a:Fr w.heap.size (w.heap.size+2) (w.heap.size+1) W b)(e:iz b w.heap.size (w.heap.size+2) (w.heap.size+1) s'):F8 w b c vs s' k d:=
 ⟨h.below.trans a.below,e,a.blk h.plan (by decide) (by omega) (by omega),a.TC h.tok (by have:=h.gt;omega) (by have:=h.gt;omega),h.gt⟩
theorem F8.grows{w W d:Ub}{c:Pl}{vs:Array Uc}{s:Mk}{k b:Nat}(h:F8 w W c vs s k b)(a:aS W d):F8 w d c vs s k b:=
 ⟨h.below.trans (a.mono h.below.size),h.mak.grows a,h.plan.below a h.plan.lt,h.tok.below a h.tok.lt,h.gt⟩
theorem F8.alloc{w W:Ub}{a:Pl}{vs:Array Uc}{s:Mk}{k b:Nat}(h:F8 w W a vs s k b)(o:Obj):F8 w (W.alloc o) a vs s k b:=
 h.grows ((aS.refl W).alloc o)
theorem Ee{w:Ub}{B size n g:Nat}{t:TypeId}{v:Uc}{xs:List Uc}{κ:Type}{enc:κ->Uc}{l:List (κ×Uc)}(f:w.ownsRow B t size v n xs)(b:GMap.Row w g enc l):v.ownBlock≠some g:=fun e=>by
 rcases f.2 with⟨rfl,_⟩|⟨c,cap,d,rfl,i,a,_⟩
 ·simp[Value.ownBlock]at e
 obtain rfl:c=g:=by simpa[Value.ownBlock]using e
 unfold GMap.Row at b;rw[b]at a;injection a with a
 cases a
theorem F8.put{w W d:Ub}{g:Pl}{vs:Array Uc}{s:Mk}{k i b:Nat}(h:F8 w W g vs s k b)(j:GMap.Row d b Ku (GL i))(a:W.grownBy d (some b)):F8 w d g vs s i b:=by
 have c:=h.gt;obtain⟨v,l,f⟩:=h.mak.at_;refine⟨h.below.grown a h.below.size (fun k e=>by cases e;omega),⟨⟨v,l.grown a (fun e=>by have:=dK e;omega),f.kept a (.inr (Ee f h.tok))⟩,h.mak.row.grown a (fun e=>by have:=dK e;omega),h.mak.gm,h.mak.r⟩,h.plan.grown a (fun e=>by have:=dK e;omega),j,c⟩
theorem CB(f:Pl)(fa:M8 f)(a2:Qu f)(hq:Rx (fun c=>c<4294967296) f)(vs:Array Uc)(w:Ub)(hp:jO w w.heap.size f vs):
  Calls prog 16 #[T1 vs] w fun e w'=>∃(b:List Nat) (v:Uc),e=.returned v/\(∀c∈b,c<4294967296)/\b.length<=25100/\w'.ownsRow w.heap.size 129 5 v (iH f b).length (dq (iH f b))/\Below w.heap.size w w':=by
 have im:=@run_makeMap (prog);have f4:(oP f CA 4).mu<=25100:=Cz a2;have cl:=bK.new w 67 vs;generalize cs:w.alloc (Ua vs 67)=W1 at*;have c6:W1.heap.size=w.heap.size+1:=by rw[<-cs];simp
 have b4:Below w.heap.size w W1:=by rw[<-cs];exact(aw _ w).alloc (ae _) _
 have a4:=GMap.Row.new W1 p7;rw[c6]at a4;have ak:=cl.alloc (.map #[] 0);generalize cr:W1.alloc (.map _ 0)=W2 at*;have fq:W2.heap.size=w.heap.size+2:=by rw[<-cr];simp[c6]
 have cm:Below w.heap.size w W2:=by rw[<-cr];exact b4.alloc (by omega) _
 have a7:=bK.new W2 125 #[T0 none 0 0,TY T6 0,.map (some (w.heap.size+1))];rw[fq]at a7;have ck:iz (W2.alloc (Ua #[T0 none 0 0,TY T6 0,.map (some (w.heap.size+1))] 125)) w.heap.size (w.heap.size+2) (w.heap.size+1) ⟨[],0,[]⟩:=
  ⟨⟨T0 none 0 0,a7,aX _ _ _ _⟩,a4.alloc _,by omega,by omega⟩
 have bm:=ak.alloc (Ua #[T0 none 0 0,TY T6 0,.map (some (w.heap.size+1))] 125);have ei:Below w.heap.size w (W2.alloc (Ua #[T0 none 0 0,TY T6 0,.map (some (w.heap.size+1))] 125)):=cm.alloc (by omega) _;have a1:=fV [bc 32 4 0 0] 1 rfl #[TY T6 0,TY T9 32,TY T7 4,TY T6 0,TY T6 0] (by simp[dq,It.vals,bc]) _ ck (by decide);subst cr;subst cs;simp only[cE]at a1;obtain⟨b9,hh,hu,g6,e8,he,cu,hB,b2⟩:=ay f4 cl b4 a4 ak cm a7 ck bm;obtain⟨cu,bx,HQ,hQ,e4,HP⟩:=aF ei a1 hq a2 fa hp;clear f4 cl b4 a4 ak cm a7 ck bm ei a1 hq a2 fa hp;go_enter func16,ntmps16;go_wp2_with fail;refine bx.out.mono ?_;rintro e w3 ⟨rfl,c5,cf⟩;have M:=cu.out.trans cf.below;have e1:F8 w ((w3.alloc (.map #[] 0)).alloc (Ua #[TY T6 0,TY T6 2,TY T6 3,TY T6 4] 3)) f vs (ns 0) 0 w3.heap.size:=
  ⟨(M.alloc M.size _).alloc (by have:=M.size;simp;omega) _,(c5.grows ((aS.refl w3).alloc _)).grows ((aS.refl _).alloc _),((cf.blk b2.out (by decide) (by omega) (by omega)).alloc _).alloc _,(GMap.Row.new w3 Ku).alloc _,by have:=c5.lt.1;omega⟩
 have b8:=bK.new (w3.alloc (.map #[] 0)) 3 #[TY T6 0,TY T6 2,TY T6 3,TY T6 4];rw[cE]at b8;clear c5 cf M bx hh hu g6 e8 he cu hB b2 c6 fq;obtain⟨cv,ft⟩:=aA e1 b8;clear e1 b8;go_wp2_with fail;generalize ic:w3.heap.size=H at*;have hV:w.heap.size+2<H:=cv.out.gt;have ff:∀k,k<=4->(ns k).mu<=1000000:=fun k hk=>by rw[JC];omega
 go_loopw [23] (fun ce wr=>∃k:Nat,ce=TY T6 k/\k<=4/\F8 w wr f vs (ns k) k H/\bK wr (H+1) 3 #[TY T6 0,TY T6 2,TY T6 3,TY T6 4]) (fun ce _=>4 - (intOf ce).toNat)
 case atStart=>exact⟨0,rfl,by omega,cv.out,ft.out⟩
 case round=>
  obtain⟨k,rfl,hk,E,hL⟩:=hrel;clear cv ft;by_cases ek:k<4
  ·have ec:wr.cell? ⟨H+1,k,none⟩=some (TY T6 (aT k:Nat)):=(hL.cell k).trans (by
     obtain rfl|rfl|rfl|rfl:k=0\/k=1\/k=2\/k=3:=by omega
     all_goals rfl)
   have io:=hL.lt;have h0:(k:Int)<4:=by omega
   obtain⟨d3,gg⟩:=Qh k ek;obtain⟨nm,bb,ii,ab⟩:=GM (aT k) d3 gg;have J:=fun W=>Le (aT k) d3 W
   simp only[ab]at J;have d2:=M5 k ek;have ad:=Bf (k+1) k (by omega) (by omega);have an:ns (k+1)=((ns k).mark).put [bc 21 (tokenN (aT k)) (k+1) 0]:=by
    show rV (aT k) (ns k)=_
    unfold rV;rw[sO]
   have bi:=ff (k+1) (by omega);rw[an]at bi;have bo:(ns k).mark.mu<=1000000:=eP (fY.put _ _) bi;have co:=fun W hW=>ku w.heap.size (w.heap.size+2) (w.heap.size+1) (ns k) bo W hW
   rw[sO]at co;have l:=fun W hW=>fV (B:=w.heap.size) (gm:=w.heap.size+2) (r:=w.heap.size+1) (s:=(ns k).mark) [bc 21 (tokenN (aT k)) (k+1) 0] 1 rfl #[TY T6 0,TY T9 21,TY T7 (tokenN (aT k):Nat),TY T6 (k+1:Nat),TY T6 0] (by simp[dq,It.vals,bc]) W hW bi
   rw[<-an]at l;generalize aT k=a at*;generalize tokenN a=tn at*;obtain⟨HI,HL,a5,hi,C,hD,hd⟩:=az E hL J co l d2 ad;clear E hL J co l d2 ad;clear bi bo an ab;go_wp2_with fail;refine(a5.out wr).mono ?_;rintro e w4 ⟨rfl,et⟩;have c4:aS wr w4:=et;have F:=(HI.out.grows c4).alloc (Ua #[.string nm,TY T7 tn,T2 bb,TY T6 ii] 132);have d0:=(HL.out.below c4 HL.out.lt).alloc (Ua #[.string nm,TY T7 tn,T2 bb,TY T6 ii] 132);have e7:=bK.new w4 132 #[.string nm,TY T7 tn,T2 bb,TY T6 ii];clear et c4 HI HL;have ir:w.heap.size+2<w4.heap.size:=by have:=F.mak.lt.1;simp at this;have:=F.tok.lt;simp at this;omega
   obtain⟨T,g4,hl⟩:=aC F d0 e7;clear F d0 e7;go_wp2_with fail;refine(hi.out _ T.out.mak).mono ?_;rintro e w5 ⟨rfl,u,G⟩;have A:=T.out.fr G u;have e3:=G.blk g4.out (by decide) (by omega) (by omega);have a9:=G.blk hl.out (by decide) (by omega) (by omega);have ef:H≠w4.heap.size:=fun e=>by
    have R:=A.tok;unfold GMap.Row at R;unfold bK at a9;rw[e,a9]at R;injection R with R
    cases R
   have cn:=A.tok;clear u G;obtain⟨bf,ho,hv⟩:=aC A e3 a9;clear A e3 a9;go_wp2_with (refine GMap.wpList_put rfl 130 (.tmp 32) (.tmp 33) (.tmp 35) rfl 3 M4 underlying130 H (GL k) (a:Int) (TY T6 (k+1:Nat)) rfl rfl rfl cn ?_;intro w6 R h2;rw[hD.out]at R;have f3:=bf.out.put R h2;have ds:=ho.out.grown h2 (fun e=>by have:=dK e;omega);have c1:=hv.out.grown h2 (fun e=>ef (dK e).symm);have h8:w6.cell? ⟨w4.heap.size,1,none⟩=some (TY T7 tn):=c1.cell 1;have hJ:=c1.lt;have d:=GMap.run_look R M4 130 3 underlying130 (a:Int) (TY T6 0) (by kernel_rfl);rw[hd.out]at d;replace d:(Instr.lookup 130 (.map (some H)) (TY T6 a) false).run prog w6=.ok (TY T6 (k+1:Nat)) w6:=d;have ey:=Lib.hid f3;have g5:=Lib.hid ds;clear R h2 f3 ds c1);refine(C.out _ ey.out.mak).mono ?_;rintro e w7 ⟨rfl,d6,ct⟩;have U:=ey.out.fr ct d6;have fb:=ct.blk g5.out (by decide) (by omega) (by omega);clear d6 ct;obtain⟨a6,hA⟩:=aA U fb;clear U fb;go_wp2_with fail;go_roundw;case rel=>exact⟨k+1,by go_num,by omega,a6.out,hA.out⟩
   case measure=>simp[intOf];omega
  obtain rfl:k=4:=by omega
  have u:(CA).mu<=1000000:=ax (Bk (yg f CA 4 0 (by omega))) (ax b9.out (by omega));have f6:=ky w.heap.size (w.heap.size+2) (w.heap.size+1) (ns 4) 2147483648 (eP (fY.put _ _) u) wr E.mak;have l:=fun W hW=>fV (B:=w.heap.size) (gm:=w.heap.size+2) (r:=w.heap.size+1) (s:=(ns 4).goes 2147483648) [bc 5 0 ((ns 4).to 2147483648) 0] 1 rfl #[TY T6 0,TY T9 5,TY T7 0,TY T6 ((ns 4).to 2147483648:Nat),TY T6 0] (by simp[dq,It.vals,bc]) W hW u
  generalize eh:(ns 4).to 2147483648=o at*;have hC:=Lib.hid eh;clear u hL eh;obtain⟨HI,el,C⟩:=aC E f6 l;clear E f6 l;go_wp2_with fail;refine el.out.mono ?_;rintro e w4 ⟨rfl,d4,e0⟩;have F:=HI.out.fr e0 d4;clear d4 e0 HI;have T:=Lib.hid F;clear F;go_wp2_with fail;refine(C.out _ T.out.mak).mono ?_;rintro e w5 ⟨rfl,u,G⟩;rw[<-hC.out]at u;have A:F8 w w5 f vs (oP f CA 0) 4 H:=T.out.fr G u;have Z:=Lm (some H) w5;have V:=EW w5.heap.size H (GL 4) (w5.alloc (Ua #[.map (some H)] 130)) (by simp) ((bK.new w5 130 #[.map (some H)]).cell 0) (A.tok.alloc _) (by decide) (by decide) (by decide);clear u G T el C;obtain⟨bf,Y,aE⟩:=aC A Z V;clear A Z V;go_wp2_with fail;refine Y.out.mono ?_;rintro e w6 ⟨rfl,rfl⟩;go_wp2_with fail;refine aE.out.mono ?_;rintro e w7 ⟨A7,c7,hg,rfl,bq,ag,f1⟩;have hz:hg=[0,2,3,4]:=bq.trans (List.mergeSort_of_pairwise (by decide));subst hz;have U:=(bf.out.alloc (Ua #[.map (some H)] 130)).grows f1;clear f1 bf Y aE bq;obtain⟨g7,f0,es,g8,rfl,f7,d7⟩:=ag.2 (by decide);have h9:=U.tok.lt;obtain⟨a6,hr,gr⟩:=aC U f7 d7;clear U f7 d7;clear ag;go_wp2_with fail;have bO:=fun t ht W R h2=>Kw w.heap.size (w.heap.size+2) (w.heap.size+1) f e4.out vs t ht W R h2
  have bS:=fun a ha t ht W R h2=>qy w.heap.size (w.heap.size+2) (w.heap.size+1) a ha f e4.out vs t ht W R h2
  have b0:∀j,j<=4->(oP f CA j).mu<=1000000:=fun j hj=>ax (Bk (yg f CA 4 j hj)) (ax b9.out (by omega))
  have O:∀W',Fr w.heap.size (w.heap.size+2) (w.heap.size+1) w7 W'->W'.heap[g7]? =some (Ua es 3 g8):=fun W' hf=>hf.Su a6.out.mak (t:=3) (by decide) (by decide) _ _ _ hr.out
  obtain⟨fi,ev,fz,N⟩:=aB bO bS b0 O;clear bO bS b0 O;go_loopw [56] (fun b7 wr=>∃j:Nat,b7=TY T6 j/\j<=4/\F8 w wr f vs (oP f CA j) 4 H/\Fr w.heap.size (w.heap.size+2) (w.heap.size+1) w7 wr) (fun b7 _=>4 - (intOf b7).toNat)
  case atStart=>exact⟨0,rfl,by omega,a6.out,Fr.refl _ _ _ _⟩
  case round=>
   obtain⟨j,rfl,hj,E,hF⟩:=hrel;by_cases bW:j<4
   ·have ec:wr.cell? ⟨g7,f0+j,none⟩=some (TY T6 (aT j:Nat)):=by
      simp only[World.cell?,N.out wr hF];refine gr.out j _ ?_;obtain rfl|rfl|rfl|rfl:j=0\/j=1\/j=2\/j=3:=by omega
      all_goals rfl
    have ad:=Bf 4 j (by omega) bW;have d:=GMap.run_look E.tok M4 130 3 underlying130 (aT j:Int) (TY T6 0) (by kernel_rfl);rw[ad]at d;have hU:g7<wr.heap.size:=dw (N.out wr hF);have id:(j:Int)<4:=by omega
    replace d:(Instr.lookup 130 (.map (some H)) (TY T6 (aT j:Nat)) false).run prog wr=.ok (TY T6 (j+1:Nat)) wr:=d;have n:(gM f (aT j) (j+1) (oP f CA j)).mu<=1000000:=fz.out (j+1) (by omega);have c0:gM f (aT j) (j+1) (oP f CA j)=if aT j=0 then nP f (((oP f CA j).put [du (j+1)]).put [bc 32 0 0 0])else fA f (aT j) (((oP f CA j).put [du (j+1)]).put [bc 32 0 0 0]):=rfl
    have ci:(((oP f CA j).put [du (j+1)]).put [bc 32 0 0 0]).mu<=1000000:=by
     rw[c0]at n;split at n
     ·exact eP (re f _).ext n
     exact eP (eB f _ _).ext n
    have a0:=kv w.heap.size (w.heap.size+2) (w.heap.size+1) (oP f CA j) (j+1) (eP (fY.put _ _) ci) wr E.mak;have l:=fun W hW=>fV (B:=w.heap.size) (gm:=w.heap.size+2) (r:=w.heap.size+1) (s:=(oP f CA j).put [du (j+1)]) [bc 32 0 0 0] 1 rfl #[TY T6 0,TY T9 32,TY T7 0,TY T6 0,TY T6 0] (by simp[dq,It.vals,bc]) W hW ci
    have J:oP f CA (j+1)=gM f (aT j) (j+1) (oP f CA j):=rfl;rw[c0]at J n;generalize ((oP f CA j).put [du (j+1)]).put [bc 32 0 0 0]=s2 at*;generalize (oP f CA j).put [du (j+1)]=s1 at*;have hy:=Qh j bW;generalize aT j=a at*;obtain⟨HI,HF,b3,C,a5,fv⟩:=aF E hF a0 l J n;clear E hF a0 l J n;clear c0 ci ad;go_wp2_with fail;refine b3.out.mono ?_;rintro e w8 ⟨rfl,f9,cd⟩;have d1:=HI.out.fr cd f9;have eq:=HF.out.trans cd;clear f9 cd HI HF;obtain⟨cx,e9⟩:=aA d1 eq;clear d1 eq;go_wp2_with fail;refine(C.out _ cx.out.mak).mono ?_;rintro e w9 ⟨rfl,d8,b5⟩;have q:=cx.out.fr b5 d8;have ba:=e9.out.trans b5;have y:jO w9 w.heap.size f vs:=HP.out.below q.below;have ap:=q.plan;have n:=fv.out;have d5:=(HP.out.dflt).2.2;have hN:=ap.lt;clear d8 b5 cx e9 fv;by_cases bk:a=0
    ·subst bk;rw[aj rfl]at n;have X:=fi.out s2 n w9 q.mak y;have L:=a5.out;rw[aj rfl]at L;obtain⟨D,al,eu,b6,dd,ca⟩:=aF q ba y ap X L;clear q ba y ap X L;go_wp2_with (refine dv rfl 67 (.tmp 1) rfl w.heap.size rfl 67 vs (0,0) _ b6.out underlying67 rfl (by rw[d5];kernel_rfl) ?_);refine dd.out.mono ?_;rintro e cy ⟨rfl,i,g⟩;rw[<-ca.out]at i;have z:=D.out.fr g i;have m:=al.out.trans g;clear i g D al;obtain⟨av,x⟩:=aA z m;clear z m;go_wp2_with fail;go_roundw;case rel=>exact⟨j+1,by go_num,by omega,av.out,x.out⟩
     case measure=>simp[intOf];omega
    have g0:((a:Int)==0)=false:=by simp;omega
    rw[af bk]at n;have X:=ev.out a hy.1 s2 n w9 q.mak y;have L:=a5.out;rw[af bk]at L;clear bk;obtain⟨D,al,eu,b6,dd,ca⟩:=aF q ba y ap X L;clear q ba y ap X L;go_wp2_with (refine dv rfl 67 (.tmp 1) rfl w.heap.size rfl 67 vs (0,0) _ b6.out underlying67 rfl (by rw[d5];kernel_rfl) ?_);refine dd.out.mono ?_;rintro e cy ⟨rfl,i,g⟩;rw[<-ca.out]at i;have z:=D.out.fr g i;have m:=al.out.trans g;clear i g D al;obtain⟨av,x⟩:=aA z m;clear z m;go_wp2_with fail;go_roundw;case rel=>exact⟨j+1,by go_num,by omega,av.out,x.out⟩
    case measure=>simp[intOf];omega
   obtain rfl:j=4:=by omega
   have hG:oP f CA 4=jI f:=(Kv f).symm;rw[hG]at E;obtain⟨_,_,_,hb⟩:=E.mak.ptr;have hc:=E.mak.lt;have cb:=Bd.head HQ.out;have am:(jI f).mu<=25100:=by rw[<-hG];exact b9.out
   have er:(jI f).blocks.length<=25100:=ax (D6 f).cnt (ax (wa _) am);obtain⟨DM,ea,e5⟩:=Lo (E.mak.row.alloc (Ua #[.map (some (w.heap.size+1))] 123)) cb.2 (fun p hp=>cb.1 p hp) (by omega);have Z:=callsIn_wide.1 (Od Fence.wide 3 trivial rfl (some (w.heap.size+1)) wr);have V:=Fx wr.heap.size (w.heap.size+1) DM (wr.alloc (Ua #[.map (some (w.heap.size+1))] 123)) (by simp) ((bK.new wr 123 #[.map (some (w.heap.size+1))]).cell 0) _ ea (by omega);rw[e5]at V;have ej:iz wr w.heap.size (w.heap.size+2) (w.heap.size+1) (sP (jI f) []):=by rw[M7];exact E.mak
   have e2:=E.below;clear E hF cb ea e5 hG;generalize fu:jI f=sH at*;have hm:=Lib.hid fu;clear fu;obtain⟨Y,aE,fs,ex,em,c8⟩:=aF Z V am er ej e2;clear Z V am er ej e2;go_wp2_with fail;refine Y.out.mono ?_;rintro e w8 ⟨rfl,rfl⟩;go_wp2_with fail;refine aE.out.mono ?_;rintro e w9 ⟨A9,n9,c9,b,rfl,X,gp,bR,ar,f8⟩;have ed:=Lib.hid bR;clear bR;have de:aS wr w9:=((aS.refl wr).alloc _).trans f8;have q:=em.out.grows de;have bp:=c8.out.trans (de.mono c8.out.size);clear f8 de em c8 Y aE;have iu:n9<=25100:=ax gp ex.out;obtain⟨c2,D,ez⟩:=aC ar q bp;clear ar q bp;go_wp2_with fail;go_loopw [86] (fun cp wr=>∃j:Nat,cp=TY T6 j/\j<=n9/\iz wr w.heap.size (w.heap.size+2) (w.heap.size+1) (sP sH (b.take j))/\Fr w.heap.size (w.heap.size+2) (w.heap.size+1) w9 wr) (fun cp _=>n9 - (intOf cp).toNat)
   case atStart=>exact⟨0,rfl,by omega,D.out,Fr.refl _ _ _ _⟩
   case round=>
    obtain⟨j,rfl,hj,hM,hF⟩:=hrel;obtain⟨_,fy,_,hb⟩:=hM.ptr;have hc:=hM.lt;by_cases hR:j<n9
    ·obtain⟨g9,e6,hH,ip,rfl,ch,b1⟩:=(c2.out.keep (hF.Su D.out (t:=28) (by decide) (by decide))).2 (by omega);have ec:wr.cell? ⟨g9,e6+j,none⟩=some (TY T7 (b.getD j 0:Nat)):=by
      simp only[World.cell?,ch];refine b1 j _ ?_;unfold vw;rw[cO,ah (by omega),aa,ah (by omega)];rfl
     have hO:g9<wr.heap.size:=dw ch;have c3:b.take (j+1)=b.take j++[b.getD j 0]:=by
      rw[dy (by omega),aa,ah (by omega)];rfl
     have d:=GMap.run_look hM.row JD 123 3 underlying123 (b.getD j 0:Int) (TY T6 0) (by kernel_rfl);have f5:(sP sH (b.take j)).blocks=sH.blocks:=rfl;rw[f5,uV]at d;have S:(sP sH (b.take (j+1))).mu<=1000000:=by
      rw[Pb,bJ];have:=fs.out;have:=ex.out;omega
     rw[c3,Bi]at S;have en:sP sH (b.take (j+1))=((sP sH (b.take j)).put [du (lookM sH.blocks (b.getD j 0))]).put [bc 6 (b.getD j 0) 0 0]:=by rw[c3,Bi]
     generalize b.getD j 0=cc at*;generalize lookM sH.blocks cc=mk at*;have a0:=kv w.heap.size (w.heap.size+2) (w.heap.size+1) (sP sH (b.take j)) mk (eP (fY.put _ _) S) wr hM;have l:=fun W hW=>fV (B:=w.heap.size) (gm:=w.heap.size+2) (r:=w.heap.size+1) (s:=(sP sH (b.take j)).put [du mk]) [bc 6 cc 0 0] 1 rfl #[TY T6 0,TY T9 6,TY T7 cc,TY T6 0,TY T6 0] (by simp[dq,It.vals,bc]) W hW S
     rw[<-en]at l;replace d:(Instr.lookup 123 (.map (some (w.heap.size+1))) (TY T7 cc) false).run prog wr=.ok (TY T6 mk) wr:=d;have h7:(j:Int)<(n9:Nat):=by omega
     clear en f5 S c3 ch b1 fy;obtain⟨HM,HF,b3,C⟩:=aB hM hF a0 l;clear hM hF a0 l;go_wp2_with fail;refine b3.out.mono ?_;rintro e cy ⟨rfl,i,g⟩;have m:=HF.out.trans g;clear g HM HF;have bN:=C.out cy i;obtain⟨x,f2⟩:=aA m bN;clear m bN;clear i;go_wp2_with fail;refine f2.out.mono ?_;rintro e ia ⟨rfl,bs,bl⟩;have br:=x.out.trans bl;clear bl x;obtain⟨eg,fx⟩:=aA br bs;clear br bs;go_wp2_with fail;go_roundw;case rel=>exact⟨j+1,by go_num,by omega,fx.out,eg.out⟩
     case measure=>simp[intOf];omega
    obtain rfl:j=n9:=by omega
    obtain⟨v,fd,cg⟩:=hM.at_;have h6:wr.cell? ⟨w.heap.size+2,0,none⟩=some v:=fd.cell 0;have d9:=ez.out.trans hF.below;rw[bI (by omega)]at cg;clear hM fd hF fy;obtain⟨g1,hn⟩:=aA cg d9;clear cg d9;go_wp2_with fail;go_ret;exact⟨b,v,rfl,ed.out,by omega,by unfold iH;rw[hm.out];exact g1.out,hn.out⟩
end
end Go.Proofs.YtfammloeljmplaaGreatDoor
