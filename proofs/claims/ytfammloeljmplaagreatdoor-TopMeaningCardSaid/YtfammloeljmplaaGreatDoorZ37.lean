/- Contracts of norm's rules and of groups; conditions: each lemma's own. -/
import Derived.StringKeys
import Derived.Test.YtfammloeljmplaaGreatDoorZ22
import Derived.Test.YtfammloeljmplaaGreatDoorZ29
import Derived.Test.YtfammloeljmplaaGreatDoorZ30
import Derived.Test.YtfammloeljmplaaGreatDoorZ32
import Derived.Test.YtfammloeljmplaaGreatDoorZ35
import Derived.Test.YtfammloeljmplaaGreatDoorZ36
open Go.Value renaming int->TY,pointer->TZ,slice->T0,agg->T1,bool->T2,tuple->T4
open Go.IntKind renaming i64->T6,u32->T7,u64->T8
open Go.Obj renaming cells->Ua
open Go renaming World->Ub,Value->Uc
namespace Go.Proofs.YtfammloeljmplaaGreatDoor
open Go.Proofs.Tryz
set_option maxRecDepth 100000
set_option maxHeartbeats 8000000
set_option linter.unusedVariables false
set_option linter.unusedSimpArgs false
section
open Go.RowKit
theorem Ls(n:Nf):∃(a c:Int) (e d b:Int),QI n=T4 #[T1 #[TY T6 a,TY T6 c,TY T8 e,TY T8 d],TY T6 b]:=by
 cases n<;>exact⟨_,_,_,_,_,rfl⟩
theorem CQ(c:Cd)(hc:c.Ok)(w:Ub):Calls prog 132 #[T1 c.vals.toArray] w (fJ (gd c) w):=by
 obtain⟨l,b,m,n⟩:=c;have hm:=hc.mask;have hv:=hc.val;simp only at hm hv;have i:=fun W=>oG ⟨l,b,m,n⟩ W
 have t:=((aw w.heap.size w).alloc (ae _) (Ua #[TY T6 l,TY T6 b,TY T8 m,TY T8 n] 162)).alloc (by simp) (Ua da 162);have z:=(bK.new w 162 #[TY T6 l,TY T6 b,TY T8 m,TY T8 n]).alloc (Ua da 162);have b1:bK ((w.alloc (Ua #[TY T6 l,TY T6 b,TY T8 m,TY T8 n] 162)).alloc (Ua da 162)) (w.heap.size+1) 162 da:=dP w _ _ _;have x:((w.alloc (Ua #[TY T6 l,TY T6 b,TY T8 m,TY T8 n] 162)).alloc (Ua da 162)).heap.size=w.heap.size+2:=by simp
 have c0:=z.cell 0;have c1:=z.cell 1;have c2:=z.cell 2;have c3:=z.cell 3;simp only[ao]at c0 c1 c2 c3;replace i:∀W,TV 203 #[T1 #[TY T6 l,TY T6 b,TY T8 m,TY T8 n]] W (T2 (fS ⟨l,b,m,n⟩)):=i;show Calls prog _ #[T1 #[TY T6 l,TY T6 b,TY T8 m,TY T8 n]] w _
 cases M:fS ⟨l,b,m,n⟩with
 |false=>
  rw[M]at i;have Y:gd ⟨l,b,m,n⟩=.never:=by unfold gd;rw[M];rfl
  rw[Y];have X:∀W,TV 215 #[T2 false] W (T4 #[T1 #[TY T6 0,TY T6 0,TY T8 0,TY T8 0],TY T6 2]):=fun W=>td false W
  obtain⟨H,B0,B1,a0,F,a7⟩:=aF t z b1 x i X;clear t z b1 x i X;clear M Y hm hv hc;go_enter func132,ntmps132;go_wp2_with fail;refine(F.out _).mono ?_;rintro e w5 ⟨rfl,j⟩;have E:=B1.out.below j (by first|(simp;done)|(simp;omega));have d:=H.out.trans (j.mono (by first|(simp;done)|(simp;omega)));have J:=E.lt;obtain⟨B5,r⟩:=aA E d;clear E d;clear j c0 c1 c2 c3;go_wp2_with fail;refine(a7.out _).mono ?_;rintro e w6 ⟨rfl,o⟩;have N:=B5.out.below o J;have A:=r.out.trans (o.mono (by omega));have bx:=N.lt;obtain⟨B6,Z⟩:=aA N A;clear N A;clear o;go_wp2_with (refine aR rfl 162 (.tmp 2) (.tmp 8) rfl (w.heap.size+1) _ rfl rfl 162 _ B6.out (by kernel_rfl) rfl (by simp[Value.oneCell']) ?_;intro w7 b7 G);have L:=Z.out.grown G (by omega) (fun k e=>by cases e;omega);exact aO (bH (p:=2) (q:=3) (ty:=162) rfl _ _ (w.heap.size+1) _ _ _ _ _ rfl rfl b7 underlying162 rfl (by kernel_rfl)) rfl (dU rfl L)
 |true=>
  rw[M]at i;have B:=M;unfold fS at B;obtain⟨h1,h2,h3,h4,_⟩:=aN B;simp only at h3 h4;have u:=fun W=>Lu l b m n hm hv h3 h4 M W
  obtain⟨x0,x1,x2,x3,x4,C⟩:=Ls (gd ⟨l,b,m,n⟩);unfold fJ at u;rw[C]at u;have V:=Hy b h3 h4;have U:=Hx b h3 h4;generalize gd ⟨l,b,m,n⟩=nq at*;obtain⟨H,B0,B1,a0,F,bo,a3,bf,bi⟩:=ay t z b1 x i C u V U;clear t z b1 x i C u V U;clear M B hm hv hc h1 h2;go_enter func132,ntmps132;go_wp2_with fail;refine(F.out _).mono ?_;rintro e w5 ⟨rfl,j⟩;have E:=B1.out.below j (by first|(simp;done)|(simp;omega));have D:=B0.out.below j (by first|(simp;done)|(simp;omega));have d:=H.out.trans (j.mono (by first|(simp;done)|(simp;omega)));have J:=E.lt;have d1:=D.cell 1;simp only[ao]at d1;have d1:w5.drew.cell? ⟨w.heap.size,1,none⟩=some (TY T6 b):=d1;obtain⟨B5,r,a4⟩:=aC E d D;clear E d D;clear j c0 c1 c2 c3;go_wp2_with fail;refine Any.wp_region_tailD 8 eL (nQ [(10,.Tn),(11,.eq (TZ (some ⟨w.heap.size,1,none⟩))),(12,.eq (TY T6 b)),(13,.eq (.func (.func (y5 b)) #[] #[])),(14,.eq (T1 #[TY T6 l,TY T6 b,TY T8 m,TY T8 n])),(15,.eq (T4 #[T1 #[TY T6 x0,TY T6 x1,TY T8 x2,TY T8 x3],TY T6 x4])),(16,.eq (T1 #[TY T6 x0,TY T6 x1,TY T8 x2,TY T8 x3])),(17,.eq (TY T6 x4))]) (fun _ _=>True) trivial [10,11,12,13,14,15,16,17,3] [10,11,12,13,14,15,16,17] (by kernel_rfl) (by kernel_rfl) (by kernel_rfl) (by kernel_rfl) (by kernel_rfl) (by decide) ⟨?_,?_,?_,?_,?_,?_,?_,?_,trivial⟩ ?_
  ·refine Any.st_j ?_;exact Any.st_callv 10 _ (.plain rfl) rfl rfl func216 (by kernel_rfl) rfl (fun a w h=>by simp only[aQ,aJ,a8]<;>rfl) (fun W hW=>(Lt W).mono (fun e w' h=>by obtain⟨rfl,rfl⟩:=h;exact⟨_,rfl,⟨_,rfl,cq W _⟩,(aS.refl W).alloc _⟩))
  ·refine Any.st_j ?_;exact Any.st_old1 11 1 _ _ (.plain rfl) rfl (by decide) rfl (fun a w h=>by unfold execOp;simp only[h];first|(simp[go_sem];done)|(simp[go_sem];omega)|(simp[go_sem, *];done)) (fun _ _=>rfl)
  ·refine Any.st_j ?_;exact Any.sx_load_at 12 11 _ _ _ (.plain rfl) rfl rfl (by decide) rfl (by assumption) (fun w h=>by simp[go_sem,h]) rfl
  ·refine Any.st_j ?_;refine Any.sx_fit 13 (.plain rfl) rfl (fun a W h=>?_);obtain⟨g,e1,bq⟩:=h.at 10 (by decide);have e2:a.eval (.tmp 12)=TY T6 b:=h.eqv 12 (by decide) rfl;have s:=gy bq 330 3 262 underlying330 underlying3 b .nilFunc (WalkArith.wf_i64 (by omega)) (by kernel_rfl);rw[bi.out]at s;refine⟨_,?_,rfl⟩;unfold execOp;simp only[e1,e2,aY,s,bd];rfl
  ·refine Any.st_j ?_;exact Any.st_load_row 14 1 _ w.heap.size 162 _ _ (.plain rfl) rfl rfl (by decide) rfl a4.out underlying162 rfl (by kernel_rfl) rfl
  ·refine Any.st_j ?_;exact NZ 15 13 (y5 b) #[y6 l b m n] (.plain rfl) rfl rfl (by decide) rfl bf.out (fun a W h=>by have e1:a.eval (.tmp 14)=_:=h.eqv 14 (by decide) rfl;simp only[aQ,aJ,a8,e1];rfl) (fun W hW=>(a3.out W).mono (fun e w' h=>⟨_,h.1,rfl,h.2⟩))
  ·refine Any.st_j ?_;exact Any.sx_one 16 15 _ _ (.plain rfl) rfl (by decide) rfl (fun a w h=>by unfold execOp;simp only[h];first|(simp[go_sem];done)|(simp[go_sem];omega)|(simp[go_sem, *];done)) rfl
  ·refine Any.st_j ?_;exact Any.sx_one 17 15 _ _ (.plain rfl) rfl (by decide) rfl (fun a w h=>by unfold execOp;simp only[h];first|(simp[go_sem];done)|(simp[go_sem];omega)|(simp[go_sem, *];done)) rfl
  intro f w6 y v;have a9:=v 10 rfl;have ag:f 11=TZ (some ⟨w.heap.size,1,none⟩):=v 11 rfl;have ad:f 12=TY T6 b:=v 12 rfl;have O:f 13=.func (.func (y5 b)) #[] #[]:=v 13 rfl;have R:f 14=T1 #[TY T6 l,TY T6 b,TY T8 m,TY T8 n]:=v 14 rfl;have S:f 15=T4 #[T1 #[TY T6 x0,TY T6 x1,TY T8 x2,TY T8 x3],TY T6 x4]:=v 15 rfl;have T:f 16=T1 #[TY T6 x0,TY T6 x1,TY T8 x2,TY T8 x3]:=v 16 rfl;have ab:f 17=TY T6 x4:=v 17 rfl;simp only[Any.fill,bC,bL,aq,aI,aH,bg,bZ,ag,ad,O,R,S,T,ab];have bO:w5.heap.size<=w6.heap.size:=y.size;have N:=B5.out.drew.below y J;have o:Below w.heap.size w w6:=r.out.drew.trans (y.mono (show w.heap.size<=w5.heap.size by omega));generalize f 10=bA at*;clear v a9 ag ad O R S T ab y;obtain⟨B6,a5⟩:=aA N o;clear N o;go_wp2_with (refine aR rfl 162 (.tmp 2) (.tmp 16) rfl (w.heap.size+1) _ rfl rfl 162 _ B6.out (by kernel_rfl) rfl (by simp[Value.oneCell']) ?_;intro w7 b7 G);have L:=a5.out.grown G (by omega) (fun k e=>by cases e;omega);exact aO (bH (p:=2) (q:=3) (ty:=162) rfl _ _ (w.heap.size+1) _ _ _ _ _ rfl rfl b7 underlying162 rfl (by kernel_rfl)) rfl (dU bo.out.symm L)
theorem Lr(x:Int)(w:Ub):TW 307 #[TY T8 x] w (T2 false):=by
 go_enter func307,ntmps307;go_wp2_with fail;go_ret;exact⟨iL (by simp),rfl⟩
theorem su(x y:Int)(w:Ub):TW 220 #[TY T8 x,TY T8 y] w (TY T6 (fT x y)):=by
 have b:=fun x W=>Lr x W
 unfold fT;by_cases a:x<y
 ·rw[aj a];go_enter func220,ntmps220;go_wp2_with (go_at_call 307;refine(b _ _).mono ?_;rintro e c ⟨rfl,rfl⟩);go_ret;exact⟨rfl,rfl⟩
 by_cases d:y<x
 ·rw[af a,aj d];go_enter func220,ntmps220;go_wp2_with (go_at_call 307;refine(b _ _).mono ?_;rintro e c ⟨rfl,rfl⟩);go_ret;exact⟨rfl,rfl⟩
 rw[af a,af d];go_enter func220,ntmps220;go_wp2_with (go_at_call 307;refine(b _ _).mono ?_;rintro e c ⟨rfl,rfl⟩);go_ret;exact⟨rfl,rfl⟩
theorem sw(x y:Int)(w:Ub):TW 39 #[TY T7 x,TY T7 y] w (TY T6 (fT x y)):=by
 have b:=fun x W=>BU x W
 unfold fT;by_cases a:x<y
 ·rw[aj a];go_enter func39,ntmps39;go_wp2_with (go_at_call 94;refine(b _ _).mono ?_;rintro e c ⟨rfl,rfl⟩);go_ret;exact⟨rfl,rfl⟩
 by_cases d:y<x
 ·rw[af a,aj d];go_enter func39,ntmps39;go_wp2_with (go_at_call 94;refine(b _ _).mono ?_;rintro e c ⟨rfl,rfl⟩);go_ret;exact⟨rfl,rfl⟩
 rw[af a,af d];go_enter func39,ntmps39;go_wp2_with (go_at_call 94;refine(b _ _).mono ?_;rintro e c ⟨rfl,rfl⟩);go_ret;exact⟨rfl,rfl⟩
def lg:List Int->Int
 |[]=>0
 |x::t=>if x=0 then lg t else x
theorem ur:∀(l:List Int) (k:Nat),(∀j,j<k->l.getD j 0=0)->lg (l.drop k)=lg l
 |l,0,_=>by simp
 |[],k+1,_=>by simp
 |x::t,k+1,h=>by
  have a:x=0:=h 0 (by omega);rw[bg,ur t k fun j b=>by simpa using h (j+1) (by omega)];subst a;simp[lg]
theorem QH(l:List Int)(R:l.length<=1000)(A:Option Addr)(c B:Nat)(w:Ub)(H:bh w B 1 A l.length (l.map (Value.int T6))):TW 218 #[T0 A l.length c] w (TY T6 (lg l)):=by
 have p:=ur l;generalize C:l.length=n at*;generalize hv:lg l=v at*;obtain⟨y,o,S⟩:=aC C p hv;clear C p hv;go_enter func218,ntmps218;go_wp2_with fail;go_loop [8] (fun i=>∃k:Nat,k<=n/\i=TY T6 k/\∀j,j<k->l.getD j 0=0) (fun i=>n - (intOf i).toNat)
 case atStart=>exact⟨0,by omega,rfl,fun j D=>absurd D (by omega)⟩
 case round=>
  obtain⟨k,N,rfl,a⟩:=hrel;by_cases f:k<n
  ·obtain⟨b,G,rfl,M,u⟩:=bh.Tu H (by omega);have L:=u k f;have J:(k:Int)<(n:Int):=by omega
   have d:=o.out k a;have m:l.drop k=l.getD k 0::l.drop (k+1):=by
    rw[dm (show k<l.length by rw[y.out];exact f),aa,ah (show k<l.length by rw[y.out];exact f)];rfl
   rw[m]at d;generalize s:l.getD k 0=x at*;by_cases e0:x=0
   ·subst e0;obtain⟨g,F,E⟩:=aC a s d;clear a s d;clear u m;go_wp2_with fail;go_round;case rel=>exact⟨k+1,by omega,by go_num,fun j D=>if e:j=k then by rw[e];exact F.out else g.out j (by omega)⟩
    case measure=>simp[intOf];omega
   have O:(x != 0)=true:=by simpa using e0
   have r:x=v:=by
    rw[show lg (x::l.drop (k+1))=x by unfold lg;rw[af e0]]at d;exact d
   obtain⟨g,F,E,t⟩:=aB a s d r;clear a s d r;clear u m;go_wp2_with fail;go_ret;exact⟨qM t.out,rfl⟩
  obtain rfl:n=k:=by omega
  have d:=o.out n a;rw[iQ (by rw[y.out];exact ae _)]at d;have q:(0:Int)=v:=d;obtain⟨g,E,z⟩:=aC a d q;clear a d q;go_wp2_with fail;go_ret;exact⟨qM z.out,rfl⟩
theorem Lp(a b:Cd):lg [fT a.arg b.arg,fT a.op b.op,fT a.mask b.mask,fT a.val b.val]=tS a b:=by
 unfold tS;simp only[lg];generalize fT a.arg b.arg=p;generalize fT a.op b.op=q;generalize fT a.mask b.mask=r;generalize fT a.val b.val=s;by_cases e:p=0<;>by_cases c:q=0<;>by_cases f:r=0<;>by_cases d:s=0<;>simp[e,c,f,d]
def NY(w w':Ub):Prop:=Below w.heap.size w w'/\w.drawn<=w'.drawn
theorem di:StQ.Frame NY:=StQ.frame_of (fun w=>⟨aw _ _,ae _⟩) fun h k=>⟨h.1.trans (k.1.mono h.1.size),ax h.2 k.2⟩
def KdR.TD(size n:Nat)(xs:List Uc):StQ.KdR NY:=⟨fun v w=>∃A c,v=T0 A n c/\bh w w.heap.size size A n xs,fun v w w' h ⟨A,c,e,r⟩=>⟨A,c,e,aS.reads h.1 r⟩⟩
theorem Fc{w:Ub}{g:Nat}{t:TypeId}{xs:List Uc}(h:bK w g t xs.toArray):bh w w.heap.size 1 (some ⟨g,0,none⟩) xs.length xs:=by
 refine⟨by simp,fun _=>⟨_,rfl,h.lt,fun j x a=>?_⟩⟩;rw[iq];have:=h.cell (0+j);rw[this,cV];simpa using a
theorem Lq:qE prog 134 #[] Cd.vals tS:=fun a b w=>by
 show Calls prog 134 #[T1 a.vals.toArray,T1 b.vals.toArray] w fun e w'=>e=.returned (TY T6 (tS a b))/\Below w.heap.size w w'/\w.drawn<=w'.drawn
 rw[<-Lp];obtain⟨a0,a1,a2,a3⟩:=a;obtain⟨n,b1,o,m⟩:=b;simp only;show Calls prog _ #[T1 #[TY T6 a0,TY T6 a1,TY T8 a2,TY T8 a3],T1 #[TY T6 n,TY T6 b1,TY T8 o,TY T8 m]] w _
 have C:=((aw w.heap.size w).alloc (ae _) (Ua #[TY T6 a0,TY T6 a1,TY T8 a2,TY T8 a3] 162)).alloc (by simp) (Ua #[TY T6 n,TY T6 b1,TY T8 o,TY T8 m] 162);have B:=(bK.new w 162 #[TY T6 a0,TY T6 a1,TY T8 a2,TY T8 a3]).alloc (Ua #[TY T6 n,TY T6 b1,TY T8 o,TY T8 m] 162);have y:bK ((w.alloc (Ua #[TY T6 a0,TY T6 a1,TY T8 a2,TY T8 a3] 162)).alloc (Ua #[TY T6 n,TY T6 b1,TY T8 o,TY T8 m] 162)) (w.heap.size+1) 162 #[TY T6 n,TY T6 b1,TY T8 o,TY T8 m]:=dP w _ _ _;have l:=B.lt;have k:=y.lt;have ad:w.drawn<=((w.alloc (Ua #[TY T6 a0,TY T6 a1,TY T8 a2,TY T8 a3] 162)).alloc (Ua #[TY T6 n,TY T6 b1,TY T8 o,TY T8 m] 162)).drawn:=ae _;have Y:=B.cell 0;have M:=B.cell 1;have F:=B.cell 2;have N:=B.cell 3;have d0:=y.cell 0;have J:=y.cell 1;have d2:=y.cell 2;have d3:=y.cell 3;simp only[ao]at Y M F N d0 J d2 d3;generalize hV:lg [fT a0 n,fT a1 b1,fT (a2:Nat) (o:Nat),fT (a3:Nat) (m:Nat)]=V;obtain⟨X,HV,ar⟩:=aC C hV ad;clear C hV ad;clear B y;go_enter func134,ntmps134;go_wp2_with fail;generalize ((w.alloc (Ua _ 162)).alloc (Ua _ 162))=r at*;have Y:r.drew.cell? ⟨w.heap.size,0,none⟩=some (TY T6 a0):=Y;have M:r.drew.cell? ⟨w.heap.size,1,none⟩=some (TY T6 a1):=M;have F:r.drew.cell? ⟨w.heap.size,2,none⟩=some (TY T8 a2):=F;have N:r.drew.cell? ⟨w.heap.size,3,none⟩=some (TY T8 a3):=N;have d0:r.drew.cell? ⟨w.heap.size+1,0,none⟩=some (TY T6 n):=d0;have J:r.drew.cell? ⟨w.heap.size+1,1,none⟩=some (TY T6 b1):=J;have d2:r.drew.cell? ⟨w.heap.size+1,2,none⟩=some (TY T8 o):=d2;have d3:r.drew.cell? ⟨w.heap.size+1,3,none⟩=some (TY T8 m):=d3;have l:w.heap.size<r.drew.heap.size:=l;have k:w.heap.size+1<r.drew.heap.size:=k;generalize hz:w.heap.size=z at*;have HZ:=Lib.hid hz;clear hz;have j:∀(i d:Nat),True->True->∀(f:Nat->Bool) (a:Act) (v:Uc) (w:Ub),True->True:=fun _ _ _ _ _ _ _ _ h=>h
 refine StQ.wp_region_st 23 eL NY di (StQ.kdS [(5,.eq (TZ (some ⟨z,0,none⟩))),(6,.eq (TY T6 a0)),(7,.eq (TZ (some ⟨z+1,0,none⟩))),(8,.eq (TY T6 n)),(9,.eq (TY T6 (fT a0 n))),(10,.eq (TZ (some ⟨z,1,none⟩))),(11,.eq (TY T6 a1)),(12,.eq (TZ (some ⟨z+1,1,none⟩))),(13,.eq (TY T6 b1)),(14,.eq (TY T6 (fT a1 b1))),(15,.eq (TZ (some ⟨z,2,none⟩))),(16,.eq (TY T8 a2)),(17,.eq (TZ (some ⟨z+1,2,none⟩))),(18,.eq (TY T8 o)),(19,.eq (TY T6 (fT (a2:Nat) (o:Nat)))),(20,.eq (TZ (some ⟨z,3,none⟩))),(21,.eq (TY T8 a3)),(22,.eq (TZ (some ⟨z+1,3,none⟩))),(23,.eq (TY T8 m)),(24,.eq (TY T6 (fT (a3:Nat) (m:Nat)))),(25,KdR.TD 1 4 [TY T6 (fT a0 n),TY T6 (fT a1 b1),TY T6 (fT (a2:Nat) (o:Nat)),TY T6 (fT (a3:Nat) (m:Nat))]),(26,.eq (TY T6 V)),(4,.eq (TY T6 V))])
  (fun _ _ _ _ _ h1 h2=>StQ.kdS_mono h1 h2) (fun _ _ _=>True) trivial [5,6,7,8,9,10,11,12,13,14,15,16,17,18,19,20,21,22,23,24,25,26,4] [5,6,7,8,9,10,11,12,13,14,15,16,17,18,19,20,21,22,23,24,25,26,4] (by kernel_rfl) (by kernel_rfl) (by kernel_rfl) (by kernel_rfl) (by kernel_rfl) (by decide) ⟨?_,?_,?_,?_,?_,?_,?_,?_,?_,?_,?_,?_,?_,?_,?_,?_,?_,?_,?_,?_,?_,?_,?_,trivial⟩ ?_
 ·exact StQ.st_eqk di 5 _ rfl rfl rfl (j 0 5 (by decide) (by decide)) (fun f a w h=>by have e2:a.eval (.tmp 2)=_:=h.was 2 (by decide) rfl;unfold execOp;simp only[e2];first|(simp[go_sem];done)|(simp[go_sem];omega)|(simp[go_sem, *];done))
 ·exact StQ.st_eqk di 6 _ rfl rfl rfl (j 1 6 (by decide) (by decide)) (fun f a w h=>by have e5:a.eval (.tmp 5)=_:=h.Sr 5 (by decide) rfl;have k5:a.tmps[5]?.getD undef=TZ (some ⟨z,0,none⟩):=(by have q:a.tmps.getD 5 undef=TZ (some ⟨z,0,none⟩):=e5;simpa using q);unfold execOp;simp only[e5];first|(simp[go_sem,(show w.cell? ⟨z,0,none⟩=some (TY T6 a0) from(h.frame.1.cell (p:=⟨z,0,none⟩) l).trans Y),k5];done)|(simp[go_sem,(show w.cell? ⟨z,0,none⟩=some (TY T6 a0) from(h.frame.1.cell (p:=⟨z,0,none⟩) l).trans Y),k5];omega)|(simp[go_sem, *];done))
 ·exact StQ.st_eqk di 7 _ rfl rfl rfl (j 2 7 (by decide) (by decide)) (fun f a w h=>by have x:a.eval (.tmp 3)=_:=h.was 3 (by decide) rfl;unfold execOp;simp only[x];first|(simp[go_sem];done)|(simp[go_sem];omega)|(simp[go_sem, *];done))
 ·exact StQ.st_eqk di 8 _ rfl rfl rfl (j 3 8 (by decide) (by decide)) (fun f a w h=>by have e7:a.eval (.tmp 7)=_:=h.Sr 7 (by decide) rfl;have k7:a.tmps[7]?.getD undef=TZ (some ⟨z+1,0,none⟩):=(by have q:a.tmps.getD 7 undef=TZ (some ⟨z+1,0,none⟩):=e7;simpa using q);unfold execOp;simp only[e7];first|(simp[go_sem,(show w.cell? ⟨z+1,0,none⟩=some (TY T6 n) from(h.frame.1.cell (p:=⟨z+1,0,none⟩) k).trans d0),k7];done)|(simp[go_sem,(show w.cell? ⟨z+1,0,none⟩=some (TY T6 n) from(h.frame.1.cell (p:=⟨z+1,0,none⟩) k).trans d0),k7];omega)|(simp[go_sem, *];done))
 ·refine StQ.st_callv 9 #[TY T6 a0,TY T6 n] rfl rfl rfl func219 (by kernel_rfl) rfl (fun f a w h=>by have e1:=h.Sr 6 (by decide) rfl;have e2:=h.Sr 8 (by decide) rfl;simp only[aQ,aJ,a8,e1,e2]) (fun f a W h=>(nD a0 n W).mono (fun e w' s=>by obtain⟨rfl,rfl⟩:=s;exact⟨_,rfl,fun q u=>by cases u;rfl,di.refl _,trivial⟩))
 ·exact StQ.st_eqk di 10 _ rfl rfl rfl (j 5 10 (by decide) (by decide)) (fun f a w h=>by have e2:a.eval (.tmp 2)=_:=h.was 2 (by decide) rfl;unfold execOp;simp only[e2];first|(simp[go_sem];done)|(simp[go_sem];omega)|(simp[go_sem, *];done))
 ·exact StQ.st_eqk di 11 _ rfl rfl rfl (j 6 11 (by decide) (by decide)) (fun f a w h=>by have U:a.eval (.tmp 10)=_:=h.Sr 10 (by decide) rfl;have T:a.tmps[10]?.getD undef=TZ (some ⟨z,1,none⟩):=(by have q:a.tmps.getD 10 undef=TZ (some ⟨z,1,none⟩):=U;simpa using q);unfold execOp;simp only[U];first|(simp[go_sem,(show w.cell? ⟨z,1,none⟩=some (TY T6 a1) from(h.frame.1.cell (p:=⟨z,1,none⟩) l).trans M),T];done)|(simp[go_sem,(show w.cell? ⟨z,1,none⟩=some (TY T6 a1) from(h.frame.1.cell (p:=⟨z,1,none⟩) l).trans M),T];omega)|(simp[go_sem, *];done))
 ·exact StQ.st_eqk di 12 _ rfl rfl rfl (j 7 12 (by decide) (by decide)) (fun f a w h=>by have x:a.eval (.tmp 3)=_:=h.was 3 (by decide) rfl;unfold execOp;simp only[x];first|(simp[go_sem];done)|(simp[go_sem];omega)|(simp[go_sem, *];done))
 ·exact StQ.st_eqk di 13 _ rfl rfl rfl (j 8 13 (by decide) (by decide)) (fun f a w h=>by have Z:a.eval (.tmp 12)=_:=h.Sr 12 (by decide) rfl;have ag:a.tmps[12]?.getD undef=TZ (some ⟨z+1,1,none⟩):=(by have q:a.tmps.getD 12 undef=TZ (some ⟨z+1,1,none⟩):=Z;simpa using q);unfold execOp;simp only[Z];first|(simp[go_sem,(show w.cell? ⟨z+1,1,none⟩=some (TY T6 b1) from(h.frame.1.cell (p:=⟨z+1,1,none⟩) k).trans J),ag];done)|(simp[go_sem,(show w.cell? ⟨z+1,1,none⟩=some (TY T6 b1) from(h.frame.1.cell (p:=⟨z+1,1,none⟩) k).trans J),ag];omega)|(simp[go_sem, *];done))
 ·refine StQ.st_callv 14 #[TY T6 a1,TY T6 b1] rfl rfl rfl func219 (by kernel_rfl) rfl (fun f a w h=>by have e1:=h.Sr 11 (by decide) rfl;have e2:=h.Sr 13 (by decide) rfl;simp only[aQ,aJ,a8,e1,e2]) (fun f a W h=>(nD a1 b1 W).mono (fun e w' s=>by obtain⟨rfl,rfl⟩:=s;exact⟨_,rfl,fun q u=>by cases u;rfl,di.refl _,trivial⟩))
 ·exact StQ.st_eqk di 15 _ rfl rfl rfl (j 10 15 (by decide) (by decide)) (fun f a w h=>by have e2:a.eval (.tmp 2)=_:=h.was 2 (by decide) rfl;unfold execOp;simp only[e2];first|(simp[go_sem];done)|(simp[go_sem];omega)|(simp[go_sem, *];done))
 ·exact StQ.st_eqk di 16 _ rfl rfl rfl (j 11 16 (by decide) (by decide)) (fun f a w h=>by have D:a.eval (.tmp 15)=_:=h.Sr 15 (by decide) rfl;have R:a.tmps[15]?.getD undef=TZ (some ⟨z,2,none⟩):=(by have q:a.tmps.getD 15 undef=TZ (some ⟨z,2,none⟩):=D;simpa using q);unfold execOp;simp only[D];first|(simp[go_sem,(show w.cell? ⟨z,2,none⟩=some (TY T8 a2) from(h.frame.1.cell (p:=⟨z,2,none⟩) l).trans F),R];done)|(simp[go_sem,(show w.cell? ⟨z,2,none⟩=some (TY T8 a2) from(h.frame.1.cell (p:=⟨z,2,none⟩) l).trans F),R];omega)|(simp[go_sem, *];done))
 ·exact StQ.st_eqk di 17 _ rfl rfl rfl (j 12 17 (by decide) (by decide)) (fun f a w h=>by have x:a.eval (.tmp 3)=_:=h.was 3 (by decide) rfl;unfold execOp;simp only[x];first|(simp[go_sem];done)|(simp[go_sem];omega)|(simp[go_sem, *];done))
 ·exact StQ.st_eqk di 18 _ rfl rfl rfl (j 13 18 (by decide) (by decide)) (fun f a w h=>by have ai:a.eval (.tmp 17)=_:=h.Sr 17 (by decide) rfl;have ab:a.tmps[17]?.getD undef=TZ (some ⟨z+1,2,none⟩):=(by have q:a.tmps.getD 17 undef=TZ (some ⟨z+1,2,none⟩):=ai;simpa using q);unfold execOp;simp only[ai];first|(simp[go_sem,(show w.cell? ⟨z+1,2,none⟩=some (TY T8 o) from(h.frame.1.cell (p:=⟨z+1,2,none⟩) k).trans d2),ab];done)|(simp[go_sem,(show w.cell? ⟨z+1,2,none⟩=some (TY T8 o) from(h.frame.1.cell (p:=⟨z+1,2,none⟩) k).trans d2),ab];omega)|(simp[go_sem, *];done))
 ·refine StQ.st_callv 19 #[TY T8 a2,TY T8 o] rfl rfl rfl func220 (by kernel_rfl) rfl (fun f a w h=>by have e1:=h.Sr 16 (by decide) rfl;have e2:=h.Sr 18 (by decide) rfl;simp only[aQ,aJ,a8,e1,e2]) (fun f a W h=>(su (a2:Nat) (o:Nat) W).mono (fun e w' s=>by obtain⟨rfl,rfl⟩:=s;exact⟨_,rfl,fun q u=>by cases u;rfl,di.refl _,trivial⟩))
 ·exact StQ.st_eqk di 20 _ rfl rfl rfl (j 15 20 (by decide) (by decide)) (fun f a w h=>by have e2:a.eval (.tmp 2)=_:=h.was 2 (by decide) rfl;unfold execOp;simp only[e2];first|(simp[go_sem];done)|(simp[go_sem];omega)|(simp[go_sem, *];done))
 ·exact StQ.st_eqk di 21 _ rfl rfl rfl (j 16 21 (by decide) (by decide)) (fun f a w h=>by have H:a.eval (.tmp 20)=_:=h.Sr 20 (by decide) rfl;have E:a.tmps[20]?.getD undef=TZ (some ⟨z,3,none⟩):=(by have q:a.tmps.getD 20 undef=TZ (some ⟨z,3,none⟩):=H;simpa using q);unfold execOp;simp only[H];first|(simp[go_sem,(show w.cell? ⟨z,3,none⟩=some (TY T8 a3) from(h.frame.1.cell (p:=⟨z,3,none⟩) l).trans N),E];done)|(simp[go_sem,(show w.cell? ⟨z,3,none⟩=some (TY T8 a3) from(h.frame.1.cell (p:=⟨z,3,none⟩) l).trans N),E];omega)|(simp[go_sem, *];done))
 ·exact StQ.st_eqk di 22 _ rfl rfl rfl (j 17 22 (by decide) (by decide)) (fun f a w h=>by have x:a.eval (.tmp 3)=_:=h.was 3 (by decide) rfl;unfold execOp;simp only[x];first|(simp[go_sem];done)|(simp[go_sem];omega)|(simp[go_sem, *];done))
 ·exact StQ.st_eqk di 23 _ rfl rfl rfl (j 18 23 (by decide) (by decide)) (fun f a w h=>by have L:a.eval (.tmp 22)=_:=h.Sr 22 (by decide) rfl;have G:a.tmps[22]?.getD undef=TZ (some ⟨z+1,3,none⟩):=(by have q:a.tmps.getD 22 undef=TZ (some ⟨z+1,3,none⟩):=L;simpa using q);unfold execOp;simp only[L];first|(simp[go_sem,(show w.cell? ⟨z+1,3,none⟩=some (TY T8 m) from(h.frame.1.cell (p:=⟨z+1,3,none⟩) k).trans d3),G];done)|(simp[go_sem,(show w.cell? ⟨z+1,3,none⟩=some (TY T8 m) from(h.frame.1.cell (p:=⟨z+1,3,none⟩) k).trans d3),G];omega)|(simp[go_sem, *];done))
 ·refine StQ.st_callv 24 #[TY T8 a3,TY T8 m] rfl rfl rfl func220 (by kernel_rfl) rfl (fun f a w h=>by have e1:=h.Sr 21 (by decide) rfl;have e2:=h.Sr 23 (by decide) rfl;simp only[aQ,aJ,a8,e1,e2]) (fun f a W h=>(su (a3:Nat) (m:Nat) W).mono (fun e w' s=>by obtain⟨rfl,rfl⟩:=s;exact⟨_,rfl,fun q u=>by cases u;rfl,di.refl _,trivial⟩))
 ·refine StQ.st_kd 25 rfl rfl rfl fun f a w h=>?_
  have e9:=h.Sr 9 (by decide) rfl;have an:=h.Sr 14 (by decide) rfl;have ap:=h.Sr 19 (by decide) rfl;have am:=h.Sr 24 (by decide) rfl;have hb:∀W,(Instr.buildSlice 86 4 #[(0,TY T6 (fT a0 n)),(1,TY T6 (fT a1 b1)),(2,TY T6 (fT (a2:Nat) (o:Nat))),(3,TY T6 (fT (a3:Nat) (m:Nat)))]).run prog W=.ok (T0 (some ⟨W.heap.size,0,none⟩) 4 4) (W.alloc (Ua ([TY T6 (fT a0 n),TY T6 (fT a1 b1),TY T6 (fT (a2:Nat) (o:Nat)),TY T6 (fT (a3:Nat) (m:Nat))]:List Uc).toArray 3)):=fun W=>by kernel_rfl
  unfold Oper.wp execOp;simp only[aQ,aJ,a8,e9,an,ap,am,aY,hb w,bd];exact⟨_,rfl,⟨_,_,rfl,Fc (bK.new w 3 _)⟩,⟨(aw _ w).alloc (ae _) _,ae _⟩,trivial⟩
 ·refine StQ.st_kd 26 rfl rfl rfl fun f a w h=>?_
  obtain⟨A,c,e1,hr⟩:=h.kd 25 (by decide) rfl;unfold Oper.wp;rw[Any.exec_call rfl func218 (by kernel_rfl) rfl];simp only[aQ,aJ,a8,e1];refine(QH [fT a0 n,fT a1 b1,fT (a2:Nat) (o:Nat),fT (a3:Nat) (m:Nat)] (by simp) A c _ w hr).mono ?_;rintro e w' ⟨rfl,rfl⟩;exact⟨_,rfl,by show _=_;rw[HV.out],di.refl _,trivial⟩
 ·exact StQ.st_eqk di 4 _ rfl rfl rfl (j 22 4 (by decide) (by decide)) (fun f a w h=>by have av:a.eval (.tmp 26)=_:=h.Sr 26 (by decide) rfl;unfold execOp;simp only[av];first|(simp[go_sem];done)|(simp[go_sem];omega)|(simp[go_sem, *];done))
 intro f g w6 t hS _ _;have h4:f 4=TY T6 V:=hS 22 _ 4 (by decide) rfl rfl _ rfl;simp only[Any.fill,bC,bL,aq,aI,aH,bg,bZ];rw[h4];have O:Below z w w6:=X.out.drew.trans (t.1.mono (by rw[<-HZ.out];exact X.out.size));have S:w.drawn<=w6.drawn:=ax ar.out (ax (tH _) t.2);generalize f 5=f5,f 6=f6,f 7=f7,f 8=f8,f 9=f9,f 10=bW,f 11=bo,f 12=bl,f 13=b8,f 14=bA,f 15=br,f 16=bk,f 17=bm,f 18=bR,f 19=bS,f 20=b5,f 21=bf,f 22=bB,f 23=bq,f 24=bp,f 25=bx,f 26=bO at*;clear hS t j;obtain⟨al,ak⟩:=aA O S;clear O S;go_wp2_with fail;go_ret;exact⟨rfl,by rw[HZ.out];exact al.out,ak.out⟩
theorem tc:(prog.info? 162).map (fun i=>(i.zero,i.size,i.bytes))=some (some (T1 #[TY T6 0,TY T6 0,TY T8 0,TY T8 0]),4,32):=by kernel_rfl
theorem nH{w:Ub}{B:Nat}{e:TypeId}{size n:Nat}{v:Uc}{xs:List Uc}(h:w.ownsRow B e size v n xs){g:Nat}(a:v.ownBlock=some g):B<=g:=by
 rcases h.2 with⟨rfl,_⟩|⟨d,cap,b,rfl,c,f,_⟩
 ·simp[Value.ownBlock]at a
 obtain rfl:d=g:=by simpa[Value.ownBlock]using a
 exact c
theorem iE(W:Ub)(g i:Nat)(v:Uc):W.grownBy (W.setCell ⟨g,i,none⟩ v) (some g):=
 ⟨rfl,rfl,rfl,by simp[World.setCell],fun k b a=>cK W ⟨g,i,none⟩ v k (fun e=>a (by rw[e]))⟩
theorem aU.Sv{t e:TypeId}{w w':Ub}{g:Nat}{cs:Array Uc}(f:w.grownBy w' (some g))(h:bK w g e cs)(a:e≠t):aU t w w':=fun b d fr c=>by
 refine(f.block b (dw c) fun q=>?_).trans c;injection q with q
 subst q;unfold bK at h;rw[c]at h;injection h with h
 injection h with _ h;exact a h.symm
theorem kA{f:FuncId}{a:Func}(d:prog.funcs[f]? =some a)(g:(a.name== "runtime.NumGoroutine")=false)(c:a.body.isNone=false)(args:Array Uc)(w:Ub):(callFunc f args).run prog w=.ok (.enter f args) w:=by
 have b:¬a.name= "runtime.NumGoroutine" :=by simpa using g
 unfold callFunc;simp[d,b];intro e;rw[e]at c;cases c
def vl(q:Option Rl)(w:Ub)(e:Ending)(w':Ub):Prop:=Below w.heap.size w w'/\match q with
 |none=>e=.returned (T4 #[T1 #[.string ⟨#[]⟩,TY T6 0,TY T6 0,T0 none 0 0],T2 false])
 |some x=>∃A c,e=.returned (T4 #[T1 #[.string x.name,TY T6 x.kind,TY T6 x.num,T0 A x.conds.length c],T2 true])/\fB w' 162 4 A x.conds.length (cR x.conds)
theorem CP(r:Rl)(n:Nat)(hn:r.conds.length=n)(hl:n<=1000)(a1:∀c∈r.conds,c.Ok)(A:Option Addr)(c B:Nat)(w:Ub)(t:B<=w.heap.size)(hr:bh w B 4 A n (cR r.conds)):
  Calls prog 82 #[T1 #[.string r.name,TY T6 r.kind,TY T6 r.num,T0 A n c]] w (vl (iT r) w):=by
 obtain⟨ic,cm,cv,de,cr⟩:=cZ tc;have O:iT r=(dT gd r.conds).map fun l=>{r with conds:=dE (j9 l)}:=rfl
 have ba:=zk gd r.conds;have R:=zl gd r.conds;have Y:=fun k acc=>nK gd r.conds k (acc:=acc)
 have ag:∀k,k<n->(r.conds.getD k default).Ok:=fun k hk=>a1 _ (by
  rw[aa,ah (by rw[hn];exact hk)];exact bj _)
 obtain⟨s,f,z,G⟩:=r;simp only at hn hr O ba R Y ag;simp only;generalize hN:iT ⟨s,f,z,G⟩=N at*;have bs:((w.alloc (Ua #[.string s,TY T6 f,TY T6 z,T0 A n c] 80)).alloc (Ua #[.string ⟨#[]⟩,TY T6 0,TY T6 0,T0 none 0 0] 80)).heap.size=w.heap.size+2:=by simp
 have b0:=(bK.new w 80 #[.string s,TY T6 f,TY T6 z,T0 A n c]).alloc (Ua #[.string ⟨#[]⟩,TY T6 0,TY T6 0,T0 none 0 0] 80);have b4:((w.alloc (Ua #[.string s,TY T6 f,TY T6 z,T0 A n c] 80)).alloc (Ua #[.string ⟨#[]⟩,TY T6 0,TY T6 0,T0 none 0 0] 80)).rangeAt w.heap.size 1 [TY T6 f,TY T6 z]:=fun j v hv=>by
  rw[b0.cell];match j,hv with
  |0,hv=>simpa using hv
  |1,hv=>simpa using hv
 have bx:=hn;have cy:=t;clear t;obtain⟨HN,bl,HR,d8,X,ch,a2,bB,bO⟩:=ay hn bx hr a1 O ba R Y ag;have HN:=Lib.hid hN;clear hn bx hr a1 O ba R Y ag hN;go_enter func82,ntmps82;go_wp2_with (refine wpList_load_mid rfl _ (.tmp 11) rfl w.heap.size 1 rfl _ _ b4 underlying43 rfl (by kernel_rfl) ?_;simp only[Act.put,aq,aI,aH]);refine uf fun W3 _ k1 k2 bo _=>?_
 clear b4 bs b0;obtain⟨cx,K1,K2⟩:=aC bo k1 k2;clear bo k1 k2;go_loopw [17] (fun a5 wr=>∃(k:Nat) (acc:List Cd) (v:Uc),k<=n/\a5=TY T6 k/\dT gd (G.take k)=some acc/\Below w.heap.size w wr/\bK wr (w.heap.size+1) 80 #[.string ⟨#[]⟩,TY T6 0,TY T6 0,T0 none 0 0]/\bK wr (w.heap.size+2) 80 #[.string s,TY T6 f,TY T6 z,v]/\wr.ownsRow w.heap.size 162 4 v acc.length (cR acc)) (fun a5 _=>n - (intOf a5).toNat)
 case atStart=>exact⟨0,[],_,by omega,rfl,rfl,cx.out,K1.out,K2.out,aX _ _ _ _⟩
 case round=>
  obtain⟨k,acc,v,hk,rfl,o,t,b1,m,D⟩:=hrel;have d5:=bB.out k acc o;by_cases a4:k<n
  ·have d4:(k:Int)<(n:Int):=by omega
   have hx:=bO.out k a4;have V:=ch.out k (by rw[bl.out];exact a4);rw[o]at V;simp only at V;obtain⟨b,an,rfl,hb,L⟩:=(HR.out.below (t.mono cy)).SG a4;generalize G.getD k default=x at*;obtain⟨xa,xo,xm,xv⟩:=x;have a:=fun W=>CQ ⟨xa,xo,xm,xv⟩ hx W
   have L:wr.rangeAt b (an+k*4) [TY T6 xa,TY T6 xo,TY T8 xm,TY T8 xv]:=L;have T:aS wr (wr.alloc (Ua #[TY T6 xa,TY T6 xo,TY T8 xm,TY T8 xv] 162)):=(aS.refl _).alloc _;cases hq:gd ⟨xa,xo,xm,xv⟩with
   |never=>
    rw[hq]at a V;replace a:∀W,TV 132 #[T1 #[TY T6 xa,TY T6 xo,TY T8 xm,TY T8 xv]] W (T4 #[T1 #[TY T6 0,TY T6 0,TY T8 0,TY T8 0],TY T6 2]):=a;clear hq hx;obtain⟨E,ad,C,F,H,HO,HU,av⟩:=aD a T t b1 m D V o;clear a T t b1 m D V o;go_wp2_with (refine wpList_load_mid rfl _ (.tmp 19) rfl b (an+k*4) rfl _ _ L underlying162 rfl (by kernel_rfl) ?_;simp only[Act.put,aq,aI,aH]);refine(E.out _).mono ?_;rintro e w5 ⟨rfl,J⟩;have d:aS wr (w5.alloc (Ua #[TY T6 0,TY T6 0,TY T8 0,TY T8 0] 162)):=(ad.out.trans J).alloc _;have b1:=F.out.below d F.out.lt;have m:=H.out.below d H.out.lt;have D:=cC d HO.out;have t:=C.out.trans (d.mono C.out.size);clear J d L;have cc:N=none:=by rw[X.out,a2.out (k+1) HU.out];rfl
    obtain⟨C,F,c0⟩:=aC t b1 cc;clear t b1 cc;clear m D;go_wp2_with (refine aR rfl 80 (.tmp 2) (.tmp 29) rfl (w.heap.size+1) _ rfl rfl 80 _ F.out (by kernel_rfl) rfl (by simp[Value.oneCell']) ?_;intro w6 b6 U);have ct:=C.out.grown U C.out.size (fun k e=>by cases e;omega);refine aO (bH (p:=2) (q:=3) (ty:=80) rfl _ _ (w.heap.size+1) _ _ _ _ _ rfl rfl b6 underlying80 rfl (by kernel_rfl)) rfl ?_;unfold vl;rw[c0.out];exact⟨ct,rfl⟩
   |always=>
    rw[hq]at a V;replace a:∀W,TV 132 #[T1 #[TY T6 xa,TY T6 xo,TY T8 xm,TY T8 xv]] W (T4 #[T1 #[TY T6 0,TY T6 0,TY T8 0,TY T8 0],TY T6 1]):=a;clear hq hx;obtain⟨E,ad,C,F,H,HO,HU,av⟩:=aD a T t b1 m D V o;clear a T t b1 m D V o;go_wp2_with (refine wpList_load_mid rfl _ (.tmp 19) rfl b (an+k*4) rfl _ _ L underlying162 rfl (by kernel_rfl) ?_;simp only[Act.put,aq,aI,aH]);refine(E.out _).mono ?_;rintro e w5 ⟨rfl,J⟩;have d:aS wr (w5.alloc (Ua #[TY T6 0,TY T6 0,TY T8 0,TY T8 0] 162)):=(ad.out.trans J).alloc _;have b1:=F.out.below d F.out.lt;have m:=H.out.below d H.out.lt;have D:=cC d HO.out;have t:=C.out.trans (d.mono C.out.size);clear J d L;obtain⟨C,F,H,HO⟩:=aB t b1 m D;clear t b1 m D;go_wp2_with fail;go_roundw;case rel=>exact⟨k+1,acc,v,by omega,by go_num,HU.out,C.out,F.out,H.out,HO.out⟩
    case measure=>simp[intOf];omega
   |asks y=>
    rw[hq]at a V;replace a:∀W,TV 132 #[T1 #[TY T6 xa,TY T6 xo,TY T8 xm,TY T8 xv]] W (T4 #[T1 #[TY T6 y.arg,TY T6 y.op,TY T8 y.mask,TY T8 y.val],TY T6 0]):=a;clear hq hx;obtain⟨E,ad,C,F,H,HO,HU,av⟩:=aD a T t b1 m D V o;clear a T t b1 m D V o;go_wp2_with (refine wpList_load_mid rfl _ (.tmp 19) rfl b (an+k*4) rfl _ _ L underlying162 rfl (by kernel_rfl) ?_;simp only[Act.put,aq,aI,aH]);refine(E.out _).mono ?_;rintro e w5 ⟨rfl,J⟩;have d:aS wr (w5.alloc (Ua #[TY T6 y.arg,TY T6 y.op,TY T8 y.mask,TY T8 y.val] 162)):=(ad.out.trans J).alloc _;have b1:=F.out.below d F.out.lt;have m:=H.out.below d H.out.lt;have D:=cC d HO.out;have t:=C.out.trans (d.mono C.out.size);clear J d L;have ar:=m.cell 3;have bq:=m.frozen 3;simp only[ao]at ar;have bi:v.ownBlock≠some (w.heap.size+2):=cY D m (by decide);have b1:=b1.alloc (Ua #[TY T6 y.arg,TY T6 y.op,TY T8 y.mask,TY T8 y.val] 162);have m:=m.alloc (Ua #[TY T6 y.arg,TY T6 y.op,TY T8 y.mask,TY T8 y.val] 162);have D:=cC ((aS.refl _).alloc (Ua #[TY T6 y.arg,TY T6 y.op,TY T8 y.mask,TY T8 y.val] 162)) D;have t:=t.alloc t.size (Ua #[TY T6 y.arg,TY T6 y.op,TY T8 y.mask,TY T8 y.val] 162);have br:bh ((w5.alloc (Ua #[TY T6 y.arg,TY T6 y.op,TY T8 y.mask,TY T8 y.val] 162)).alloc (Ua #[TY T6 y.arg,TY T6 y.op,TY T8 y.mask,TY T8 y.val] 162)) (w5.heap.size+2) 4 (some ⟨w5.heap.size+1,0,none⟩) 1 [TY T6 y.arg,TY T6 y.op,TY T8 y.mask,TY T8 y.val]:=by
     have:=gZ (w5.alloc (Ua #[TY T6 y.arg,TY T6 y.op,TY T8 y.mask,TY T8 y.val] 162)) [TY T6 y.arg,TY T6 y.op,TY T8 y.mask,TY T8 y.val] 162 4 1 rfl;rwa [cE]at this
    have bk:v.ownBlock≠some (w.heap.size+1):=cY D b1 (by decide);have ab:=fun g e=>(nH D (g:=g) e)
    have d0:acc.length<=1000:=by omega
    obtain⟨C,F,H,HO,cn,c1,ap,cl⟩:=aD t b1 m D bk bi ab br;clear t b1 m D bk bi ab br;go_wp2_with (at_builtin;go_loud (refine cU _ rfl (.tmp 33) (.tmp 35) 78 rfl w.heap.size 162 ic _ 4 32 underlying78 cm cv de cr rfl (by omega) v acc.length (cR acc) rfl HO.out _ _ 1 _ [TY T6 y.arg,TY T6 y.op,TY T8 y.mask,TY T8 y.val] rfl cl.out (by simp[Value.oneCell']) (by simp only[maxLen];omega) (by omega) C.out.size ?_);intro v' w7 h1 h2 _;obtain⟨A9,c9,rfl,_⟩:=cX h1;have bA:=F.out.grown h2 (fun e=>cn.out e.symm);have M:=H.out.grown h2 (fun e=>c1.out e.symm);have b5:=C.out.grown h2 C.out.size (fun k e=>ap.out k e);have cb:=M.cell 3;have d2:=M.frozen 3;simp only[ao]at cb;have bS:=Lib.hid h1;have c4:=Lib.hid bA;have bf:=Lib.hid M;have dd:=Lib.hid b5;clear h1 h2 bA M b5);go_roundw;case rel=>
     refine⟨k+1,acc++[y],T0 A9 (acc.length+1) c9,by omega,by go_num,HU.out,dd.out.setCell (p:=⟨w.heap.size+2,3,none⟩) (by show w.heap.size<=w.heap.size+2;omega) _,c4.out.grown (iE _ _ _ _) (by simp),?_,?_⟩
     ·have:=bf.out.set_ 3 (T0 A9 (acc.length+1) c9);simpa using this
     have h:=bS.out.kept (iE w7 (w.heap.size+2) 3 (T0 A9 (acc.length+1) c9)) (.inr (cY bS.out bf.out (by decide)));rw[oC,show cR [y]=[TY T6 y.arg,TY T6 y.op,TY T8 y.mask,TY T8 y.val] from rfl];simpa using h
    case measure=>simp[intOf];omega
  obtain rfl:n=k:=by omega
  rw[bI (by rw[bl.out];exact ae _)]at o;have b8:N=some ⟨s,f,z,dE (j9 acc)⟩:=by rw[X.out,o];rfl
  have ar:=m.cell 3;have bq:=m.frozen 3;simp only[ao]at ar;have Z:=rF (P:=prog) Ex 4 (by omega) isAgg162 sizeOf162 Cd.vals Cd.Sn (fun x u V=>yt [x] u (by simpa[cR]using V)) tS Oa 134 #[] (kA func134 (by kernel_rfl) rfl) Lq acc acc.length rfl (by omega) wr D;have bp:v.ownBlock≠some (w.heap.size+1):=cY D b1 (by decide);have bR:v.ownBlock≠some (w.heap.size+2):=cY D m (by decide);have ab:=fun g e=>nH D (g:=g) e
  have S:Calls prog 133 #[v,.func (.func 134) #[] #[]] wr fun e w'=>e=.returned (T4 #[])/\w'.ownsRow w.heap.size 162 4 v acc.length (cR (j9 acc))/\wr.grownBy w' v.ownBlock:=by
   refine tG Z ?_;rintro e w' ⟨rfl,l',hp,cp,bv,ck⟩;rw[Ir hp cp]at bv;exact⟨rfl,bv,ck⟩
  clear Z D o;obtain⟨c2,F,H,b3,bW,ap,C,ak⟩:=aD b8 b1 m bp bR ab t S;clear b8 b1 m bp bR ab t S;go_wp2_with fail;refine ak.out.mono ?_;rintro e w5 ⟨rfl,bm,d⟩;have b1:=F.out.grown d (fun e=>b3.out e.symm);have m:=H.out.grown d (fun e=>bW.out e.symm);have t:=C.out.grown d C.out.size (fun k e=>ap.out k e);have c3:=m.cell 3;simp only[ao]at c3;have cu:(j9 acc).length=acc.length:=by unfold j9;exact kP _
  have ai:=Fq cu (by omega) w5 bm;clear ar bq d bm;obtain⟨F,H,C,aE⟩:=aB b1 m t ai;clear b1 m t ai;go_wp2_with fail;refine aE.out.mono ?_;rintro e w6 ⟨A6,c6,rfl,al,U⟩;have b1:=F.out.grown U (fun e=>b3.out e.symm);have m:=H.out.grown U (fun e=>bW.out e.symm);have t:=C.out.grown U C.out.size (fun k e=>ap.out k e);have M:=m;have cs:=m.cell 3;have ef:=m.frozen 3;simp only[ao]at cs;have b1:=b1.grown (iE w6 (w.heap.size+2) 3 (T0 A6 (dE (j9 acc)).length c6)) (by simp);have m:=m.set_ 3 (T0 A6 (dE (j9 acc)).length c6);have t:=t.setCell (p:=⟨w.heap.size+2,3,none⟩) (by show w.heap.size<=w.heap.size+2;omega) (T0 A6 (dE (j9 acc)).length c6);have al:=al.keep (aU.SB (i:=3) M (by decide) (T0 A6 (dE (j9 acc)).length c6));simp only[aq,aI,aH]at m;obtain⟨F,H,C,cg⟩:=aB b1 m t al;clear b1 m t al;clear M U;go_wp2_with (first
   |(refine dv rfl 80 (.tmp 4) rfl (w.heap.size+2) rfl 80 #[.string s,TY T6 f,TY T6 z,T0 A6 (dE (j9 acc)).length c6] (0,0) _ H.out underlying80 rfl (by kernel_rfl) ?_)
   |(refine aR rfl 80 (.tmp 2) (.tmp 46) rfl (w.heap.size+1) #[.string s,TY T6 f,TY T6 z,T0 A6 (dE (j9 acc)).length c6] rfl rfl 80 _ F.out (by kernel_rfl) rfl (by simp[Value.oneCell']) ?_;intro w7 b7 bN))
  have c7:=C.out.grown bN C.out.size (fun k e=>by cases e;omega);have ci:=cg.out.keep (aU.Sv bN F.out (by decide));refine aO (bH (p:=2) (q:=3) (ty:=80) rfl _ _ (w.heap.size+1) _ _ _ _ _ rfl rfl b7 underlying80 rfl (by kernel_rfl)) rfl ?_;unfold vl;rw[c2.out];exact⟨c7,A6,c6,rfl,ci⟩
def Dc(q:Option PR)(w:Ub)(e:Ending)(w':Ub):Prop:=Below w.heap.size w w'/\match q with
 |none=>e=.returned (T4 #[T1 #[T0 none 0 0,TY T7 0],T2 false])
 |some x=>∃A c,e=.returned (T4 #[T1 #[T0 A x.conds.length c,TY T7 x.code],T2 true])/\fB w' 162 4 A x.conds.length (cR x.conds)
theorem FC(r:PR)(n:Nat)(hn:r.conds.length=n)(hl:n<=1000)(Z:∀c∈r.conds,c.Ok)(A:Option Addr)(c B:Nat)(w:Ub)(j:B<=w.heap.size)(hr:bh w B 4 A n (cR r.conds)):
  Calls prog 87 #[T1 #[T0 A n c,TY T7 r.code]] w (Dc (gG r) w):=by
 obtain⟨ic,bB,b8,cm,bR⟩:=cZ tc;have E:gG r=(dT gq r.conds).map fun l=>⟨l,r.code⟩:=rfl
 have am:=zk gq r.conds;have F:=zl gq r.conds;have L:=fun k acc=>nK gq r.conds k (acc:=acc)
 have O:∀k,k<n->(r.conds.getD k default).Ok:=fun k hk=>Z _ (by
  rw[aa,ah (by rw[hn];exact hk)];exact bj _)
 obtain⟨u,i⟩:=r;simp only at hn hr E am F L O;simp only;generalize hN:gG ⟨u,i⟩=N at*;have a5:((w.alloc (Ua #[T0 A n c,TY T7 i] 111)).alloc (Ua #[T0 none 0 0,TY T7 0] 111)).heap.size=w.heap.size+2:=by simp
 have b0:=(bK.new w 111 #[T0 A n c,TY T7 i]).alloc (Ua #[T0 none 0 0,TY T7 0] 111);have a6:=hn;have cb:=j;clear j;obtain⟨HN,a0,HR,c2,J,bv,ab,a9,ba⟩:=ay hn a6 hr Z E am F L O;have HN:=Lib.hid hN;clear hn a6 hr Z E am F L O hN;go_enter func87,ntmps87;go_wp2_with fail;refine uf fun W3 _ k1 k2 a2 _=>?_
 clear a5 b0;obtain⟨b9,K1,K2⟩:=aC a2 k1 k2;clear a2 k1 k2;go_loopw [15] (fun ai wr=>∃(k:Nat) (acc:List Cd) (v:Uc),k<=n/\ai=TY T6 k/\dT gq (u.take k)=some acc/\Below w.heap.size w wr/\bK wr (w.heap.size+1) 111 #[T0 none 0 0,TY T7 0]/\bK wr (w.heap.size+2) 111 #[v,TY T7 i]/\wr.ownsRow w.heap.size 162 4 v acc.length (cR acc)) (fun ai _=>n - (intOf ai).toNat)
 case atStart=>exact⟨0,[],_,by omega,rfl,rfl,b9.out,K1.out,K2.out,aX _ _ _ _⟩
 case round=>
  obtain⟨k,acc,v,hk,rfl,d,j,b1,s,o⟩:=hrel;have cx:=a9.out k acc d;by_cases ag:k<n
  ·have cv:(k:Int)<(n:Int):=by omega
   have hx:=ba.out k ag;have R:=bv.out k (by rw[a0.out];exact ag);rw[d]at R;simp only at R;obtain⟨b,U,rfl,hb,C⟩:=(HR.out.below (j.mono cb)).SG ag;generalize u.getD k default=x at*;obtain⟨xa,xo,Y,xv⟩:=x;have a:=fun W=>FD ⟨xa,xo,Y,xv⟩ hx W
   have C:wr.rangeAt b (U+k*4) [TY T6 xa,TY T6 xo,TY T8 Y,TY T8 xv]:=C;have H:aS wr (wr.alloc (Ua #[TY T6 xa,TY T6 xo,TY T8 Y,TY T8 xv] 162)):=(aS.refl _).alloc _;cases hq:gq ⟨xa,xo,Y,xv⟩with
   |never=>
    rw[hq]at a R;replace a:∀W,TV 141 #[T1 #[TY T6 xa,TY T6 xo,TY T8 Y,TY T8 xv]] W (T4 #[T1 #[TY T6 0,TY T6 0,TY T8 0,TY T8 0],TY T6 2]):=a;clear hq hx;obtain⟨m,M,t,D,G,T,HU,X⟩:=aD a H j b1 s o R d;clear a H j b1 s o R d;go_wp2_with (refine wpList_load_mid rfl _ (.tmp 17) rfl b (U+k*4) rfl _ _ C underlying162 rfl (by kernel_rfl) ?_;simp only[Act.put,aq,aI,aH]);refine(m.out _).mono ?_;rintro e w5 ⟨rfl,z⟩;have f:aS wr (w5.alloc (Ua #[TY T6 0,TY T6 0,TY T8 0,TY T8 0] 162)):=(M.out.trans z).alloc _;have b1:=D.out.below f D.out.lt;have s:=G.out.below f G.out.lt;have o:=cC f T.out;have j:=t.out.trans (f.mono t.out.size);clear z f C;have bo:N=none:=by rw[J.out,ab.out (k+1) HU.out];rfl
    obtain⟨t,D,cc⟩:=aC j b1 bo;clear j b1 bo;clear s o;go_wp2_with (refine aR rfl 111 (.tmp 2) (.tmp 27) rfl (w.heap.size+1) _ rfl rfl 111 _ D.out (by kernel_rfl) rfl (by simp[Value.oneCell']) ?_;intro w6 b6 ca);have b4:=t.out.grown ca t.out.size (fun k e=>by cases e;omega);refine aO (bH (p:=2) (q:=3) (ty:=111) rfl _ _ (w.heap.size+1) _ _ _ _ _ rfl rfl b6 underlying111 rfl (by kernel_rfl)) rfl ?_;unfold Dc;rw[cc.out];exact⟨b4,rfl⟩
   |always=>
    rw[hq]at a R;replace a:∀W,TV 141 #[T1 #[TY T6 xa,TY T6 xo,TY T8 Y,TY T8 xv]] W (T4 #[T1 #[TY T6 0,TY T6 0,TY T8 0,TY T8 0],TY T6 1]):=a;clear hq hx;obtain⟨m,M,t,D,G,T,HU,X⟩:=aD a H j b1 s o R d;clear a H j b1 s o R d;go_wp2_with (refine wpList_load_mid rfl _ (.tmp 17) rfl b (U+k*4) rfl _ _ C underlying162 rfl (by kernel_rfl) ?_;simp only[Act.put,aq,aI,aH]);refine(m.out _).mono ?_;rintro e w5 ⟨rfl,z⟩;have f:aS wr (w5.alloc (Ua #[TY T6 0,TY T6 0,TY T8 0,TY T8 0] 162)):=(M.out.trans z).alloc _;have b1:=D.out.below f D.out.lt;have s:=G.out.below f G.out.lt;have o:=cC f T.out;have j:=t.out.trans (f.mono t.out.size);clear z f C;obtain⟨t,D,G,T⟩:=aB j b1 s o;clear j b1 s o;go_wp2_with fail;go_roundw;case rel=>exact⟨k+1,acc,v,by omega,by go_num,HU.out,t.out,D.out,G.out,T.out⟩
    case measure=>simp[intOf];omega
   |asks y=>
    rw[hq]at a R;replace a:∀W,TV 141 #[T1 #[TY T6 xa,TY T6 xo,TY T8 Y,TY T8 xv]] W (T4 #[T1 #[TY T6 y.arg,TY T6 y.op,TY T8 y.mask,TY T8 y.val],TY T6 0]):=a;clear hq hx;obtain⟨m,M,t,D,G,T,HU,X⟩:=aD a H j b1 s o R d;clear a H j b1 s o R d;go_wp2_with (refine wpList_load_mid rfl _ (.tmp 17) rfl b (U+k*4) rfl _ _ C underlying162 rfl (by kernel_rfl) ?_;simp only[Act.put,aq,aI,aH]);refine(m.out _).mono ?_;rintro e w5 ⟨rfl,z⟩;have f:aS wr (w5.alloc (Ua #[TY T6 y.arg,TY T6 y.op,TY T8 y.mask,TY T8 y.val] 162)):=(M.out.trans z).alloc _;have b1:=D.out.below f D.out.lt;have s:=G.out.below f G.out.lt;have o:=cC f T.out;have j:=t.out.trans (f.mono t.out.size);clear z f C;have b3:=s.cell 0;have c0:=s.frozen 0;simp only[ao]at b3;have av:v.ownBlock≠some (w.heap.size+2):=cY o s (by decide);have b1:=b1.alloc (Ua #[TY T6 y.arg,TY T6 y.op,TY T8 y.mask,TY T8 y.val] 162);have s:=s.alloc (Ua #[TY T6 y.arg,TY T6 y.op,TY T8 y.mask,TY T8 y.val] 162);have o:=cC ((aS.refl _).alloc (Ua #[TY T6 y.arg,TY T6 y.op,TY T8 y.mask,TY T8 y.val] 162)) o;have j:=j.alloc j.size (Ua #[TY T6 y.arg,TY T6 y.op,TY T8 y.mask,TY T8 y.val] 162);have a4:bh ((w5.alloc (Ua #[TY T6 y.arg,TY T6 y.op,TY T8 y.mask,TY T8 y.val] 162)).alloc (Ua #[TY T6 y.arg,TY T6 y.op,TY T8 y.mask,TY T8 y.val] 162)) (w5.heap.size+2) 4 (some ⟨w5.heap.size+1,0,none⟩) 1 [TY T6 y.arg,TY T6 y.op,TY T8 y.mask,TY T8 y.val]:=by
     have:=gZ (w5.alloc (Ua #[TY T6 y.arg,TY T6 y.op,TY T8 y.mask,TY T8 y.val] 162)) [TY T6 y.arg,TY T6 y.op,TY T8 y.mask,TY T8 y.val] 162 4 1 rfl;rwa [cE]at this
    have aE:v.ownBlock≠some (w.heap.size+1):=cY o b1 (by decide);have a1:=fun g e=>(nH o (g:=g) e)
    have cp:acc.length<=1000:=by omega
    obtain⟨t,D,G,T,bN,cd,bS,bA⟩:=aD j b1 s o aE av a1 a4;clear j b1 s o aE av a1 a4;go_wp2_with (at_builtin;go_loud (refine cU _ rfl (.tmp 31) (.tmp 33) 78 rfl w.heap.size 162 ic _ 4 32 underlying78 bB b8 cm bR rfl (by omega) v acc.length (cR acc) rfl T.out _ _ 1 _ [TY T6 y.arg,TY T6 y.op,TY T8 y.mask,TY T8 y.val] rfl bA.out (by simp[Value.oneCell']) (by simp only[maxLen];omega) (by omega) t.out.size ?_);intro v' w7 h1 h2 _;obtain⟨A9,c9,rfl,_⟩:=cX h1;have a7:=D.out.grown h2 (fun e=>bN.out e.symm);have S:=G.out.grown h2 (fun e=>cd.out e.symm);have bf:=t.out.grown h2 t.out.size (fun k e=>bS.out k e);have bm:=S.cell 0;have cs:=S.frozen 0;simp only[ao]at bm;have bb:=Lib.hid h1;have cf:=Lib.hid a7;have ar:=Lib.hid S;have cl:=Lib.hid bf;clear h1 h2 a7 S bf);go_roundw;case rel=>
     refine⟨k+1,acc++[y],T0 A9 (acc.length+1) c9,by omega,by go_num,HU.out,cl.out.setCell (p:=⟨w.heap.size+2,0,none⟩) (by show w.heap.size<=w.heap.size+2;omega) _,cf.out.grown (iE _ _ _ _) (by simp),?_,?_⟩
     ·have:=ar.out.set_ 0 (T0 A9 (acc.length+1) c9);simpa using this
     have h:=bb.out.kept (iE w7 (w.heap.size+2) 0 (T0 A9 (acc.length+1) c9)) (.inr (cY bb.out ar.out (by decide)));rw[oC,show cR [y]=[TY T6 y.arg,TY T6 y.op,TY T8 y.mask,TY T8 y.val] from rfl];simpa using h
    case measure=>simp[intOf];omega
  obtain rfl:n=k:=by omega
  rw[bI (by rw[a0.out];exact ae _)]at d;have bi:N=some ⟨acc,i⟩:=by rw[J.out,d];rfl
  obtain⟨A6,c6,rfl,a3⟩:=fB.Sp o;have be:∀(w7:Ub),wr.grownBy w7 (some (w.heap.size+1))->aU 162 wr w7:=fun w7 V=>aU.Sv V b1 (by decide)
  obtain⟨ce,D,G,t,bs,b5⟩:=aF bi b1 s j a3 be;clear bi b1 s j a3 be;clear o d;go_wp2_with (first
   |(refine dv rfl 111 (.tmp 4) rfl (w.heap.size+2) rfl 111 #[T0 A6 acc.length c6,TY T7 i] (0,0) _ G.out underlying111 rfl (by kernel_rfl) ?_)
   |(refine aR rfl 111 (.tmp 2) (.tmp 37) rfl (w.heap.size+1) #[T0 A6 acc.length c6,TY T7 i] rfl rfl 111 _ D.out (by kernel_rfl) rfl (by simp[Value.oneCell']) ?_;intro w7 b7 V))
  have ch:=t.out.grown V t.out.size (fun k e=>by cases e;omega);have bx:=bs.out.keep (b5.out _ V);refine aO (bH (p:=2) (q:=3) (ty:=111) rfl _ _ (w.heap.size+1) _ _ _ _ _ rfl rfl b7 underlying111 rfl (by kernel_rfl)) rfl ?_;unfold Dc;rw[ce.out];exact⟨ch,A6,c6,rfl,bx⟩
theorem IK(w:Ub)(e:TypeId)(k:Nat):(w.alloc (Ua #[] e)).ownsRow w.heap.size e k (T0 (some ⟨w.heap.size,0,none⟩) 0 0) 0 []:=
 ⟨by simp,.inr ⟨w.heap.size,0,#[],rfl,ae _,cq w _,ae _,by simp[maxLen],by simp,by simp⟩⟩
theorem IL(l:List Cd)(A:Option Addr)(n c:Nat)(w:Ub)(a:bh w w.heap.size 4 A n (cR l))(t:n<=1000000):
  Calls prog 88 #[T0 A n c] w fun e w'=>∃v,e=.returned v/\w'.ownsRow w.heap.size 162 4 v n (cR l)/\Below w.heap.size w w':=by
 obtain⟨i0,m,f,g,i⟩:=cZ tc;rcases A with _|ad
 ·have h0:n=0:=by
    rcases fG n with h0|h0
    ·exact h0
    obtain⟨ad,e,_⟩:=a.2 h0;cases e
  have d:l=[]:=cI (by have:=a.1;rw[ju]at this;omega);subst d;subst h0;clear a t;have r:∀W,(binOp .eql 78 (T0 none 0 c) (T0 none 0 0)).run prog W=.ok (T2 true) W:=fun W=>Lib.run_eql_slice_nil (P:=prog) W 78 162 none 0 c 0 0 underlying78
  go_enter func88,ntmps88;go_wp2_with fail;go_ret;exact⟨_,rfl,aX _ _ _ _,aw _ _⟩
 have r:∀W,(binOp .eql 78 (T0 (some ad) n c) (T0 none 0 0)).run prog W=.ok (T2 false) W:=fun W=>Lib.run_eql_slice_nil (P:=prog) W 78 162 (some ad) n c 0 0 underlying78
 have b:=(aS.reads ((aS.refl w).alloc (Ua #[] 162)) a);obtain⟨x,j⟩:=aA a b;clear a b;go_enter func88,ntmps88;go_wp2_with (at_builtin;go_loud (refine cU _ rfl (.tmp 5) (.tmp 6) 78 rfl w.heap.size 162 i0 _ 4 32 underlying78 m f g i rfl (by omega) _ 0 [] rfl (IK w 162 4) _ (some ad) n c (cR l) rfl j.out (yt _) (by simp only[maxLen];omega) (by omega) (by simp) ?_);intro v' w' p o _;have s:=Lib.hid p;have u:=Lib.hid o;clear p o);go_ret;exact⟨_,rfl,by simpa using s.out,((aw _ w).alloc (ae _) _).grown u.out (by simp) (fun k q=>by cases q;exact ae _)⟩
theorem zv:(prog.info? 111).map (fun i=>(i.zero,i.size,i.bytes))=some (some (T1 #[T0 none 0 0,TY T7 0]),2,32):=by kernel_rfl
def wB(a:Nat)(r:PR):Option PR:=if a=2 then gG r else some r
theorem wC(a:Nat)(r:PR)(t:List PR):gR a (r::t)=match wB a r with
 |none=>gR a t
 |some n=>if n.conds=[]then[n]else n::gR a t:=rfl
theorem qc.cells{w:Ub}{A:Option Addr}{l:List PR}(h:qc w A l){k:Nat}(c:k<l.length):∃b a d f,A=some ⟨b,a,none⟩/\b<w.heap.size/\w.rangeAt b (a+k*2) [T0 d (l.getD k default).conds.length f,TY T7 ((l.getD k default).code:Nat)]/\fB w 162 4 d (l.getD k default).conds.length (cR (l.getD k default).conds):=by
 obtain⟨L,rfl,o,q⟩:=h;rw[bu]at c;obtain⟨g,a,p,fr,rfl,m,t⟩:=q.2 (by omega);have e2:(L.map (·.1)).getD k default=L[k].1:=by simp[aa,cO,ah c]
 obtain⟨d,f,e1,e⟩:=o L[k] (bj _);rw[e2];refine⟨g,a,d,f,rfl,dw m,fun j v hv=>?_,e⟩;have s:j<2:=by have:=(cF.1 hv).1;simpa using this
 have n:=jL IJ 2 (fun _=>rfl) (default,T0 none 0 0) L k j c s;have r:L.getD k (default,T0 none 0 0)=L[k]:=by simp[aa,ah c]
 rw[r]at n;have i:(IJ L[k])[j]? =some v:=by unfold IJ;rw[e1];exact hv
 have:=t (k*2+j) v (by rw[n];exact i);simp only[World.cell?,m];rw[eF];exact this
theorem pJ{w:Ub}{B:Nat}{e:TypeId}{size n:Nat}{v:Uc}{xs:List Uc}(h:w.ownsRow B e size v n xs){g:Nat}(a:v.ownBlock=some g):g<w.heap.size:=by
 rcases h.2 with⟨rfl,_⟩|⟨d,cap,b,rfl,f,c,_⟩
 ·simp[Value.ownBlock]at a
 obtain rfl:d=g:=by simpa[Value.ownBlock]using a
 exact dw c
def my(w0 w:Ub)(v:Uc)(L:List (PR×Uc)):Prop:=Below w0.heap.size w0 w/\PL w w0.heap.size v L
theorem my.grows{w0 w w':Ub}{v:Uc}{L:List (PR×Uc)}(h:my w0 w v L)(a:aS w w'):my w0 w' v L:=
 ⟨h.1.trans (a.mono h.1.size),fun p b=>(h.2.1 p b).keep (aU.grows a),cC a h.2.2⟩
theorem my.other{w0 w w':Ub}{v:Uc}{L:List (PR×Uc)}(h:my w0 w v L){g:Nat}{cs:Array Uc}(b:w.grownBy w' (some g))(f:bK w g 111 cs)(d:w0.heap.size<=g:=by omega)(a:v.ownBlock≠some g:=by assumption):my w0 w' v L:=
 ⟨h.1.grown b h.1.size (fun k e=>by cases e;exact d),fun p c=>(h.2.1 p c).keep (aU.Sv b f (by decide)),h.2.2.kept b (.inr a)⟩
theorem tp{w:Ub}{B:Nat}{e:TypeId}{size n:Nat}{v:Uc}{xs:List Uc}(h:w.ownsRow B e size v n xs):∃A c,v=T0 A n c/\n<=c/\c<=9223372036854775807/\fB w e size A n xs:=by
 obtain⟨A,c,e1,b⟩:=fB.Sp h;rcases h.2 with⟨rfl,d⟩|⟨g,cap,j,rfl,l,m,a,k,_⟩
 ·injection e1 with _ i a;exact⟨A,c,by subst i a;rw[d]at*;simp_all,by omega,by omega,b⟩
 injection e1 with _ _ f;subst f;exact⟨A,cap,by simp_all,a,by simpa[maxLen]using k,b⟩
def PK:Uc->Nat
 |T0 _ n _=>n
 | _ => 0
theorem qc.take{w:Ub}{A:Option Addr}{l:List PR}(h:qc w A l)(m:Nat):qc w A (l.take m):=by
 obtain⟨L,rfl,f,n⟩:=h;refine⟨L.take m,by rw[Du],fun p k=>f p (gj k),wE IJ 2 (fun _=>rfl) _,fun q=>?_⟩;have c:(L.take m).length<=L.length:=by rw[bJ];omega
 obtain⟨g,b,a,fr,i,d,o⟩:=n.2 (by omega);refine⟨g,b,a,fr,i,d,fun j v hv=>o j v ?_⟩;have e:L.flatMap IJ=(L.take m).flatMap IJ++(L.drop m).flatMap IJ:=by rw[<-bX,fl]
 rw[e,bU (cF.1 hv).1];exact hv
def tq(z:Nat)(w w':Ub):Prop:=w.heap.size<=w'.heap.size/\(∀i t cs,z<=i->bK w i t cs->bK w' i t cs)/\aU 162 w w'
theorem ji(z:Nat):StQ.Frame (tq z):=StQ.frame_of (fun w=>⟨ae _,fun _ _ _ _ h=>h,aU.refl _ _⟩) fun h k=>⟨ax h.1 k.1,fun i t cs a b=>k.2.1 i t cs a (h.2.1 i t cs a b),h.2.2.trans k.2.2⟩
theorem uE{z:Nat}{w w':Ub}(h:aS w w'):tq z w w':=⟨h.size,fun i t cs _ a=>a.below h a.lt,aU.grows h⟩
def KdR.TU(z:Nat)(l:List Cd):StQ.KdR (tq z):=⟨fun v w=>∃A c,v=T0 A l.length c/\fB w 162 4 A l.length (cR l),fun v w w' a ⟨A,c,e,h⟩=>⟨A,c,e,h.keep a.2.2⟩⟩
def KdR.TN(z:Nat)(x:PR):StQ.KdR (tq z):=⟨fun v w=>∃A c,v=T1 #[T0 A x.conds.length c,TY T7 x.code]/\fB w 162 4 A x.conds.length (cR x.conds),fun v w w' a ⟨A,c,e,h⟩=>⟨A,c,e,h.keep a.2.2⟩⟩
def KdR.TT(z:Nat)(x:PR):StQ.KdR (tq z):=⟨fun v w=>∃g A c,v=T0 (some ⟨g,0,none⟩) 1 1/\z<=g/\bK w g 111 #[T0 A x.conds.length c,TY T7 x.code]/\fB w 162 4 A x.conds.length (cR x.conds),fun v w w' a ⟨g,A,c,e,b,d,h⟩=>⟨g,A,c,e,b,a.2.1 _ _ _ b d,h.keep a.2.2⟩⟩
def KdR.Tx(z:Nat):StQ.KdR (tq z):=⟨fun _ _=>True,fun _ _ _ _ _=>trivial⟩
structure wD(w0:Ub)(v:Uc)(L:List (PR×Uc))(x:PR)(i d:Nat)(f:Nat->Bool)(a:Act)(w:Ub):Prop where
 row:if f i=true then∃u,my w0 w (a.tmps.getD d undef) (L++[(x,u)])else my w0 w v L
section
variable {w0:Ub} {v:Uc} {L:List (PR×Uc)} {x:PR} {i0 d0:Nat}
theorem wD.next(i d:Nat)(c:([i0].contains i)=false)(b:([d0].contains d)=false)(f:Nat->Bool)(a:Act)(u:Uc)(w:Ub)(h:wD w0 v L x i0 d0 f a w):wD w0 v L x i0 d0 (StQ.upd f i) (a.put (some d) u) w:=by
 simp at c b;refine⟨?_⟩;rw[StQ.upd_ne f (fun e=>c e.symm),StQ.put_far (fun e=>b e)];exact h.row
theorem wD.grows{f:Nat->Bool}{a:Act}{w w':Ub}(h:wD w0 v L x i0 d0 f a w)(b:aS w w'):wD w0 v L x i0 d0 f a w':=by
 refine⟨?_⟩;have:=h.row;split<;>rename_i e
 ·rw[aj e]at this;obtain⟨u,c⟩:=this;exact⟨u,c.grows b⟩
 rw[af e]at this;exact this.grows b
end
theorem Oo(a:Nat)(ha:a<5)(l:List PR)(n:Nat)(hn:l.length=n)(hl:n<=1000)(M:∀r∈l,r.conds.length<=1000)(bs:∀r∈l,∀c∈r.conds,c.Ok)(code:Nat)(A:Option Addr)(c:Nat)(w:Ub)(hr:qc w A l):
  Calls prog 34 #[TY T6 a,T0 A n c,TY T7 code] w fun e w'=>∃A' c',e=.returned (T0 A' (jZ a l code).length c')/\qc w' A' (jZ a l code)/\Below w.heap.size w w':=by
 obtain⟨ir,eg,eo,d9,d3⟩:=cZ zv;have bl:∀k,k<n->(l.getD k default).conds.length<=1000/\∀c∈(l.getD k default).conds,c.Ok:=fun k hk=>by
  have hm:l.getD k default∈l:=by rw[aa,ah (by rw[hn];exact hk)];exact bj _
  exact⟨M _ hm,bs _ hm⟩
 have a2:∀k,k<n->l.drop k=l.getD k default::l.drop (k+1):=fun k hk=>by
  rw[dm (by rw[hn];exact hk),aa,ah (by rw[hn];exact hk)];rfl
 obtain⟨HN,HR,dd,f6,c3,bB⟩:=aF hn hr M bs bl a2;clear hn hr M bs bl a2;go_enter func34,ntmps34;iterate 18 go_step
 go_cut [7] from 8 to 41 (fun s7 wx=>∃L:List (PR×Uc),L.map (·.1)=gR a l/\my w wx s7 L)
 case first=>
  go_wp2_with fail;go_loopw [7,13] (fun s7 bN wr=>∃(v:Uc) (k:Nat) (L:List (PR×Uc)),s7=v/\k<=n/\bN=TY T6 k/\L.length<=k/\gR a l=L.map (·.1)++gR a (l.drop k)/\my w wr v L) (fun _ bN _=>n - (intOf bN).toNat)
  case atStart=>exact⟨_,0,[],rfl,by omega,rfl,by simp,rfl,aw _ _,fun p hp=>by(cases hp),aX _ _ _ _⟩
  case round=>
   obtain⟨v,k,L,rfl,hk,rfl,g5,s,E⟩:=hrel;by_cases bv:k<n
   ·have ft:(k:Int)<(n:Int):=by omega
    have cn:L.length<=1000:=by omega
    rw[bB.out k bv,wC]at s;obtain⟨b1,ab⟩:=c3.out k bv;have c7:qc wr A l:=HR.out.keep (aU.below E.1 (ae _)) (aU.below E.1 (ae _));obtain⟨b,bb,A',c',rfl,hb,ak,F⟩:=c7.cells (k:=k) (by rw[HN.out];exact bv);generalize l.getD k default=x at*;obtain⟨T,xk⟩:=x;simp only at ak F b1 ab;have a6:aS wr (wr.alloc (Ua #[T0 A' T.length c',TY T7 xk] 111)):=(aS.refl _).alloc _;have b9:=bK.new wr 111 #[T0 A' T.length c',TY T7 xk];have cx:=E.grows a6;have b2:u7.ownBlock≠some wr.heap.size:=fun e=>by have:=pJ E.2.2 e;omega
    have f1:w.heap.size<=wr.heap.size:=E.1.size;have bo:=F.keep (aU.grows a6);have b0:wr.heap.size<(wr.alloc (Ua #[T0 A' T.length c',TY T7 xk] 111)).heap.size:=by simp
    clear E c7 F;generalize cg:T.length=xn at*;obtain⟨C,ce,B9,ag,Y,ex,cu,ar⟩:=aD s a6 b9 cx bo ab cn cg;clear s a6 b9 cx bo ab cn cg;iterate 21 go_step
    refine wpList_load_mid rfl 111 (.tmp 15) rfl b (bb+k*2) rfl _ _ ak underlying111 rfl (by kernel_rfl) ?_;simp only[Act.put,aq,aI,aH];iterate 18 go_step
    go_cut [10] from 17 to 23 (fun d8 wx=>∃(y:PR) (is:Bool) (A2:Option Addr) (c2:Nat),d8=T2 is/\wB a ⟨T,xk⟩=(if is=true then some y else none)/\bK wx wr.heap.size 111 #[T0 A2 y.conds.length c2,TY T7 y.code]/\fB wx 162 4 A2 y.conds.length (cR y.conds)/\my w wx u7 L/\y.conds.length<=1000)
    case first=>
     by_cases de:a=2
     ·subst de;have B:=fun W hB hr=>FC ⟨T,xk⟩ xn ar.out b1 ex.out A' c' (wr.alloc (Ua #[T0 A' xn c',TY T7 xk] 111)).heap.size W hB hr
      have B:=B _ (ae _) Y.out.reads;have o:wB 2 ⟨T,xk⟩=gG ⟨T,xk⟩:=rfl;cases S:gG ⟨T,xk⟩with
      |none=>
       rw[S]at B;obtain⟨U,a4,HQ⟩:=aC B o S;clear B o S;go_wp2_with fail;refine U.out.mono ?_;rintro e w5 ⟨O,rfl⟩;have b5:=B9.out.below O b0;have av:=ag.out.grows O;obtain⟨B5,bA⟩:=aA b5 av;clear b5 av;clear O;go_wp2_with (refine aR rfl 111 (.tmp 9) (.tmp 22) rfl wr.heap.size #[T0 none 0 0,TY T7 0] rfl rfl 111 _ B5.out (by kernel_rfl) rfl (by simp[Value.oneCell']) ?_;intro w6 b6 be);go_meet;exact⟨⟨[],0⟩,false,none,0,rfl,a4.out.trans HQ.out,b6,fB.none_,bA.out.other be B5.out,by simp⟩
      |some y=>
       rw[S]at B;have bS:y.conds.length<=1000:=by
        unfold gG at S;cases e:dT gq T with
        |none=>rw[e]at S;cases S
        |some q=>
         rw[e]at S;injection S with S
         subst S;have:=nK gq T T.length (acc:=q) (by rw[iW];exact e);have hx:=ar.out;show q.length<=1000
         omega
       obtain⟨U,a4,HQ⟩:=aC B o S;clear B o S;go_wp2_with fail;refine U.out.mono ?_;rintro e w5 ⟨O,A5,c5,rfl,ct⟩;have b5:=B9.out.below O b0;have av:=ag.out.grows O;obtain⟨B5,bA,ey⟩:=aC b5 av ct;clear b5 av ct;clear O;go_wp2_with (refine aR rfl 111 (.tmp 9) (.tmp 22) rfl wr.heap.size #[T0 A5 y.conds.length c5,TY T7 y.code] rfl rfl 111 _ B5.out (by kernel_rfl) rfl (by simp[Value.oneCell']) ?_;intro w6 b6 be);go_meet;exact⟨y,true,A5,c5,rfl,a4.out.trans HQ.out,b6,ey.out.keep (aU.Sv be B5.out (by decide)),bA.out.other be B5.out,bS⟩
     have g2:((a:Int)==2)=false:=by simp;omega
     have o:wB a ⟨T,xk⟩=some ⟨T,xk⟩:=by unfold wB;rw[af de]
     have a4:=Lib.hid o;clear o;go_wp2_with fail;go_meet;exact⟨⟨T,xk⟩,true,A',c',rfl,a4.out,by rw[ar.out];exact B9.out,by rw[ar.out];exact Y.out,ag.out,by rw[ar.out];exact b1⟩
    case rest=>
     obtain⟨y,is,A2,c2,rfl,o,b9,F,E,bS⟩:=hcut;have s:=C.out;rw[o]at s;rcases jD is with his|his
     rotate_left
     ·subst his;simp only[fE,mj]at s;clear C ce B9 ag Y o b9 F;obtain⟨C,HS⟩:=aA s E;clear s E;go_wp2_with fail;go_roundw;case rel=>exact⟨u7,k+1,L,rfl,by omega,by go_num,by omega,C.out,HS.out⟩
      case measure=>simp[intOf];omega
     subst his;simp only[lN]at s;have cy:∀g,u7.ownBlock=some g->g<wr.heap.size:=fun g e=>by
      have h1:=pJ ag.out.2.2 e;have:g≠wr.heap.size:=fun q=>b2 (by rw[e,q])
      simp at h1;omega
     clear C ce ag Y o ak;obtain⟨G,yk⟩:=y;simp only at b9 F bS s;have ge:wr.heap.size<wc.heap.size:=dw b9;have gc:=E.1.size;have em:=B9;clear B9 em b0 hb;generalize wr.heap.size=z at*;generalize c4:G.length=yn at*;have D:=fun i d h1 h2=>wD.next (w0:=w) (v:=u7) (L:=L) (x:=⟨G,yk⟩) (i0:=8) (d0:=33) i d h1 h2
     have M:=fun W (h:fB W 162 4 A2 yn (cR G))=>IL G A2 yn c2 W h.reads (by omega)
     obtain⟨C,HS,ed,ba,dd,B9,fn⟩:=az s E F c4 M b9 b2;clear s E F c4 M b9 b2;go_wp2_with fail;refine StQ.wp_region_st 9 eL (tq z) (ji z) (StQ.kdS [(25,.eq u7),(26,.eq (TZ (some ⟨z,0,none⟩))),(27,.eq (T0 A2 yn c2)),(28,KdR.TU z G),(29,.eq (TZ (some ⟨z,1,none⟩))),(30,.eq (TY T7 yk)),(31,KdR.TN z ⟨G,yk⟩),(32,KdR.TT z ⟨G,yk⟩),(33,KdR.Tx z)])
      (fun _ _ _ _ _ h1 h2=>StQ.kdS_mono h1 h2) (wD w u7 L ⟨G,yk⟩ 8 33) ⟨by rw[af (by decide)];exact HS.out.grows (aS.refl wc).drew⟩ [25,26,27,28,29,30,31,32,33,7] [25,26,27,28,29,30,31,32,33] (by kernel_rfl) (by kernel_rfl) (by kernel_rfl) (by kernel_rfl) (by kernel_rfl) (by decide) ⟨?_,?_,?_,?_,?_,?_,?_,?_,?_,trivial⟩ ?_
     ·exact StQ.st_eqk (ji z) 25 _ rfl rfl rfl (D 0 25 (by decide) (by decide)) (fun f a w h=>by have e7:a.eval (.tmp 7)=_:=h.was 7 (by decide) rfl;unfold execOp;simp only[e7];first|(simp[go_sem];done)|(simp[go_sem];omega)|(simp[go_sem, *];done))
     ·exact StQ.st_eqk (ji z) 26 _ rfl rfl rfl (D 1 26 (by decide) (by decide)) (fun f a w h=>by have e9:a.eval (.tmp 9)=_:=h.was 9 (by decide) rfl;unfold execOp;simp only[e9];first|(simp[go_sem];done)|(simp[go_sem];omega)|(simp[go_sem, *];done))
     ·exact StQ.st_eqk (ji z) 27 _ rfl rfl rfl (D 2 27 (by decide) (by decide)) (fun f a w h=>by have c9:a.eval (.tmp 26)=_:=h.Sr 26 (by decide) rfl;have cc:a.tmps[26]?.getD undef=TZ (some ⟨z,0,none⟩):=(by have q:a.tmps.getD 26 undef=TZ (some ⟨z,0,none⟩):=c9;simpa using q);unfold execOp;simp only[c9];first|(simp[go_sem,(show w.cell? ⟨z,0,none⟩=some (T0 A2 yn c2) from(h.frame.2.1 z _ _ (ae _) B9.out).cell 0),cc];done)|(simp[go_sem,(show w.cell? ⟨z,0,none⟩=some (T0 A2 yn c2) from(h.frame.2.1 z _ _ (ae _) B9.out).cell 0),cc];omega)|(simp[go_sem, *];done))
     ·refine StQ.st_callv 28 #[T0 A2 yn c2] rfl rfl rfl func88 (by kernel_rfl) rfl (fun f a w h=>by have e1:=h.Sr 27 (by decide) rfl;simp only[aQ,aJ,a8,e1]) (fun f a W h=>?_);refine(dd.out W (ed.out.keep h.frame.2.2)).mono ?_;rintro e w' ⟨u,rfl,ho,hB⟩;obtain⟨A8,c8,rfl,N⟩:=fB.Sp ho;exact⟨_,rfl,fun q S=>by cases S;exact⟨A8,c8,by rw[ba.out],by rw[ba.out];exact N⟩,uE hB,D 3 28 (by decide) (by decide) f a _ _ (h.state.grows hB)⟩
     ·exact StQ.st_eqk (ji z) 29 _ rfl rfl rfl (D 4 29 (by decide) (by decide)) (fun f a w h=>by have e9:a.eval (.tmp 9)=_:=h.was 9 (by decide) rfl;unfold execOp;simp only[e9];first|(simp[go_sem];done)|(simp[go_sem];omega)|(simp[go_sem, *];done))
     ·exact StQ.st_eqk (ji z) 30 _ rfl rfl rfl (D 5 30 (by decide) (by decide)) (fun f a w h=>by have ca:a.eval (.tmp 29)=_:=h.Sr 29 (by decide) rfl;have b4:a.tmps[29]?.getD undef=TZ (some ⟨z,1,none⟩):=(by have q:a.tmps.getD 29 undef=TZ (some ⟨z,1,none⟩):=ca;simpa using q);unfold execOp;simp only[ca];first|(simp[go_sem,(show w.cell? ⟨z,1,none⟩=some (TY T7 yk) from(h.frame.2.1 z _ _ (ae _) B9.out).cell 1),b4];done)|(simp[go_sem,(show w.cell? ⟨z,1,none⟩=some (TY T7 yk) from(h.frame.2.1 z _ _ (ae _) B9.out).cell 1),b4];omega)|(simp[go_sem, *];done))
     ·refine StQ.st_kd 31 rfl rfl rfl fun f a W h=>?_
      obtain⟨A8,c8,ea,N⟩:=h.kd 28 (by decide) rfl;have ev:=h.Sr 30 (by decide) rfl;have hx:(execOp a.eval {dst:=some 31,op:=.build 111 #[(0,.tmp 28),(1,.tmp 30)],type:=111,pos:= "",after:=#[],guard:=none}).run prog W=.ok (.value (T1 #[T0 A8 G.length c8,TY T7 yk])) W:=by unfold execOp;simp only[aQ,aJ,a8,ea,ev];kernel_rfl
      unfold Oper.wp;have ab:=hx;unfold execOp at ab⊢;rw[ab];exact⟨_,rfl,⟨A8,c8,rfl,N⟩,(ji z).refl _,D 6 31 (by decide) (by decide) f a _ _ h.state⟩
     ·refine StQ.st_kd 32 rfl rfl rfl fun f a W h=>?_
      obtain⟨A8,c8,ej,N⟩:=h.kd 31 (by decide) rfl;have hb:∀W:Ub,(Instr.buildSlice 105 1 #[(0,T1 #[T0 A8 G.length c8,TY T7 yk])]).run prog W=.ok (T0 (some ⟨W.heap.size,0,none⟩) 1 1) (W.alloc (Ua #[T0 A8 G.length c8,TY T7 yk] 111)):=fun W=>by kernel_rfl
      have eq:z<=W.heap.size:=by have:=h.frame.1;have e:wc.drew.heap.size=wc.heap.size:=rfl;omega
      unfold Oper.wp execOp;simp only[aQ,aJ,a8,ej,aY,hb W,bd];exact⟨_,rfl,⟨_,A8,c8,rfl,eq,bK.new W _ _,N.keep (aU.alloc W _)⟩,uE ((aS.refl W).alloc _),D 7 32 (by decide) (by decide) f a _ _ (h.state.grows ((aS.refl W).alloc _))⟩
     ·refine StQ.st_kd 33 rfl rfl rfl fun f a W h=>?_
      obtain⟨g,A8,c8,eu,fy,hb,N⟩:=h.kd 32 (by decide) rfl;have e2:=h.Sr 25 (by decide) rfl;have o:=h.state.row;have el:f 8=false:=h.notYet;rw[af (by rw[el];decide)]at o;have b7:bh W W.heap.size 2 (some ⟨g,0,none⟩) 1 [T0 A8 G.length c8,TY T7 yk]:=⟨rfl,fun _=>⟨_,rfl,hb.lt,fun j x hx=>by rw[iq,cV,hb.cell j];simpa using hx⟩⟩;refine fO W (.tmp 25) (.tmp 32) 105 rfl w.heap.size 111 ir _ 2 32 underlying105 eg eo d9 d3 rfl (by omega) u7 L.length (L.flatMap IJ) e2 o.2.2 W.heap.size (some ⟨g,0,none⟩) 1 1 _ eu b7 (by simp[Value.oneCell']) (by have:=cu.out;simp only[maxLen];omega) (by have:=cu.out;omega) o.1.size ?_;intro v' w' g1 g2 g3;refine⟨v',rfl,trivial,⟨g2.size,fun i t cs hz d7=>d7.grown g2 (fun e=>by have:=cy i e.symm;omega),aU.grown g2 o.2.2 (by decide)⟩,⟨?_⟩⟩;rw[StQ.upd_self,aj rfl,StQ.put_same (by rw[h.size];exact(by decide:33<62))];refine⟨T0 A8 G.length c8,o.1.grown g2 o.1.size (fun k e=>nH o.2.2 e),fun p hp=>?_,by simpa[IJ]using g1⟩;rcases bT.1 hp with hp|hp
      ·exact(o.2.1 p hp).keep (aU.grown g2 o.2.2 (by decide))
      rw[bz]at hp;subst hp;exact⟨A8,c8,rfl,N.keep (aU.grown g2 o.2.2 (by decide))⟩
     intro f g w9 c0 d4 dg ⟨a9,cr,hJ⟩;have H:=hJ.row;rw[aj (dg 8 (by omega)),cr 33]at H;obtain⟨u,hO⟩:=H;have a0:=c0.2.1 z _ _ (ae _) B9.out;have cv:=a0.cell 0;simp only[ao]at cv;simp only[Any.fill,bC,bL,aq,aI,aH,bg,bZ];clear c0 d4 dg cr hJ D;generalize f 7=f7,f 25=f8,f 26=f9,f 27=fr,f 28=gf,f 29=fu,f 30=f4,f 31=gr,f 32=gn,f 33=g4 at*;have s:=C.out;by_cases h0:yn=0
     ·have ai:G=[]:=cI (by rw[ba.out];exact h0);subst h0;rw[aj ai]at s;clear C;obtain⟨C,HO,ef,gm⟩:=aB s hO a0 ai;clear s hO a0 ai;go_wp2_with fail;go_meet;exact⟨L++[(⟨G,yk⟩,u)],by rw[C.out];simp,HO.out⟩
     have ai:¬G=[]:=fun e=>h0 (by rw[<-ba.out,e];rfl)
     have g0:((yn:Int)==0)=false:=by simp;omega
     rw[af ai]at s;clear C ai h0;obtain⟨C,HO,ef⟩:=aC s hO a0;clear s hO a0;go_wp2_with fail;go_roundw;case rel=>exact⟨_,k+1,L++[(⟨G,yk⟩,u)],rfl,by omega,by go_num,by simp;omega,by rw[C.out];simp,HO.out⟩
     case measure=>simp[intOf];omega
   obtain rfl:n=k:=by omega
   have hd:l.drop n=[]:=iQ (by rw[HN.out];exact ae _);rw[hd]at s;obtain⟨C,HS⟩:=aA s E;clear s E;go_wp2_with fail;go_meet;exact⟨L,by rw[C.out];simp[gR],HS.out⟩
 case rest=>
  obtain⟨L,hL,E⟩:=hcut;obtain⟨Af,cf,rfl,f0,f2,H⟩:=tp E.2.2;have hP:qc wc Af (gR a l):=⟨L,hL,E.2.1,H⟩;have hB:=E.1;have V:L.length=(gR a l).length:=by rw[<-hL,bu]
  have cb:lD (fun r:PR=>decide (r.code=code)) ((gR a l).take L.length)=jZ a l code:=by rw[V,iW];rfl
  have gp:L.length<=1000:=by
   rw[V];exact ax (sN a l) (by rw[HN.out];exact hl)
  clear E H hL;generalize L.length=n0 at*;generalize gR a l=l1 at*;generalize bm:jZ a l code=sn at*;go_at_K;obtain⟨HP,HB,Z,er,X⟩:=aG hP hB V cb bm;clear hP hB V cb bm;go_wp2_with fail;go_loopw [7] (fun s7 wr=>∃m:Nat,s7=T0 Af m cf/\m<=n0/\lD (fun r:PR=>decide (r.code=code)) (l1.take m)=sn/\wr=wc) (fun s7 _=>PK s7)
  case atStart=>exact⟨n0,rfl,ae _,er.out,rfl⟩
  case round=>
   obtain⟨m,rfl,hm,J,rfl⟩:=hrel;by_cases h0:m=0
   ·have hf:decide ((0:Int)<(m:Nat))=false:=aK (by omega);have f5:decide (0<m)=false:=aK (by omega);have ci:sn=l1.take m:=by rw[<-J,h0];rfl
    clear h0;obtain⟨c6,cl⟩:=aA J ci;clear J ci;go_wp2_with fail;go_ret;refine⟨Af,cf,?_,?_,HB.out⟩
    ·rw[X.out,cl.out,bJ,<-Z.out,qd hm];rfl
    rw[X.out,cl.out];exact HP.out.take m
   have fz:(0:Int)<(m:Nat):=by omega
   obtain⟨mp,gg⟩:∃mp:Nat,(m:Int) - 1=(mp:Nat):=⟨m - 1,by omega⟩;have a3:m=mp+1:=by omega
   have M:=HP.out.cells (k:=mp) (by have:=Z.out;omega);obtain⟨b,bb,A',c',rfl,hb,ak,_⟩:=M;have gs:wr.cell? ⟨b,bb+mp*2+1,none⟩=some (TY T7 ((l1.getD mp default).code:Nat)):=nt ak rfl;have R:=zm (fun r:PR=>decide (r.code=code)) l1 mp (by have:=Z.out;omega);rw[<-a3,J]at R;have f3:m<=1000:=by omega
   have fd:(mp:Int)<(m:Nat):=by omega
   have ga:(mp:Int)<=(cf:Nat):=by omega
   have fa:(m:Int)<=(cf:Nat):=by omega
   generalize (l1.getD mp default).code=cd at*;clear ak;by_cases a1:cd=code
   ·rw[aj (by simpa using a1)]at R;have d6:((cd:Int)==(code:Int))=true:=by simp[a1]
    clear a1;obtain⟨a7,e0,c6⟩:=aC R a3 J;clear R a3 J;go_wp2_with fail;go_roundw;case rel=>exact⟨mp,rfl,by omega,a7.out.symm,trivial⟩
    case measure=>simp[PK];omega
   rw[af (by simpa using a1)]at R;have d6:((cd:Int)==(code:Int))=false:=by simp;omega
   clear a1;obtain⟨a7,e0,c6⟩:=aC R a3 J;clear R a3 J;go_wp2_with fail;go_ret;refine⟨some ⟨b,bb,none⟩,cf,?_,?_,HB.out⟩
   ·rw[X.out,a7.out,bJ,<-Z.out,qd hm];rfl
   rw[X.out,a7.out];exact HP.out.take m
abbrev PO:=List (ByteArray×Uc)
def QO(w0 W:Ub)(rs:List Rl)(k:ByteArray)(v:Uc):Prop:=∃L:List (Rl×Uc),eN L=cN rs k/\jk W w0.heap.size v L
structure pK(w0 W:Ub)(gm:Nat)(rs:List Rl)(l:PO):Prop where
 below:Below w0.heap.size w0 W
 lo:w0.heap.size<=gm
 row:GMap.Row W gm Value.string l
 nodup:(l.map (·.1)).Nodup
 own:∀k v,GMap.look l k=some v->QO w0 W rs k v
 none:∀k,GMap.look l k=none->cN rs k=[]
 apart:∀k k' v v',GMap.look l k=some v->GMap.look l k'=some v'->k≠k'->∀g,v.ownBlock=some g->v'.ownBlock≠some g
 len:l.length<=rs.length
 names:∀k∈l.map (·.1),∃r∈rs,r.name=k
structure FL(w0 W:Ub)(gm:Nat)(rs:List Rl)(l:PO)(k:ByteArray)(v1:Uc)(L1:List (Rl×Uc)):Prop where
 below:Below w0.heap.size w0 W
 row:GMap.Row W gm Value.string l
 new:jk W w0.heap.size v1 L1
 own:∀k' v,k'≠k->GMap.look l k'=some v->QO w0 W rs k' v
 apart:∀k' v,k'≠k->GMap.look l k'=some v->∀g,v.ownBlock=some g->v1.ownBlock≠some g
section
variable {w0 W W':Ub} {gm:Nat} {rs:List Rl} {l:PO}
theorem jk.grows{B:Nat}{v:Uc}{L:List (Rl×Uc)}(h:jk W B v L)(a:aS W W'):jk W' B v L:=
 ⟨fun p b=>(h.1 p b).keep (aU.grows a),cC a h.2⟩
theorem jk.kept{B:Nat}{v:Uc}{L:List (Rl×Uc)}{row:Option Nat}(h:jk W B v L)(b:W.grownBy W' row)(d:aU 162 W W')(a:∀g,v.ownBlock=some g->row≠some g):jk W' B v L:=by
 refine⟨fun p c=>(h.1 p c).keep d,?_⟩;cases e:v.ownBlock with
 |none=>exact h.2.kept b (.inl e)
 |some g=>exact h.2.kept b (.inr (by rw[e];exact fun q=>a g e q.symm))
theorem pK.new(w0 W:Ub)(c:Below w0.heap.size w0 W)(gm:Nat)(a:w0.heap.size<=gm)(b:GMap.Row W gm Value.string []):pK w0 W gm [] [] where
 below:=c
 lo:=a
 row:=b
 nodup:=by simp
 own k v h:=by cases h
 none k _:=rfl
 apart k k' v v' h:=by cases h
 len:=by simp
 names k h:=by simp at h
theorem pK.grows(h:pK w0 W gm rs l)(a:aS W W'):pK w0 W' gm rs l where
 below:=h.below.trans (a.mono h.below.size)
 lo:=h.lo
 row:=h.row.below a h.row.lt
 nodup:=h.nodup
 own k v e:=by
  obtain⟨L,c,b⟩:=h.own k v e;exact⟨L,c,b.grows a⟩
 none:=h.none
 apart:=h.apart
 len:=h.len
 names:=h.names
theorem pK.skip(h:pK w0 W gm rs l){r:Rl}(c:∀k,cN (rs++[r]) k=cN rs k):pK w0 W gm (rs++[r]) l where
 below:=h.below
 lo:=h.lo
 row:=h.row
 nodup:=h.nodup
 own k v e:=by
  obtain⟨L,b,a⟩:=h.own k v e;exact⟨L,by rw[c];exact b,a⟩
 none k e:=by rw[c];exact h.none k e
 apart:=h.apart
 len:=by have:=h.len;simp;omega
 names k hk:=by
  obtain⟨d,b,a⟩:=h.names k hk;exact⟨d,by simp[b],a⟩
theorem FL.grows{k:ByteArray}{v1:Uc}{c:List (Rl×Uc)}(h:FL w0 W gm rs l k v1 c)(a:aS W W'):FL w0 W' gm rs l k v1 c where
 below:=h.below.trans (a.mono h.below.size)
 row:=h.row.below a h.row.lt
 new:=h.new.grows a
 own k' v b e:=by
  obtain⟨L,b,d⟩:=h.own k' v b e;exact⟨L,b,d.grows a⟩
 apart:=h.apart
def pX(l:PO)(k:ByteArray):Uc:=(GMap.look l k).getD (T0 none 0 0)
theorem pK.at_(h:pK w0 W gm rs l)(k:ByteArray):QO w0 W rs k (pX l k):=by
 unfold pX;cases e:GMap.look l k with
 |some v=>exact h.own k v e
 |none=>exact⟨[],(h.none k e).symm,fun p a=>(by cases a),aX _ _ _ _⟩
theorem pK.Tc(h:pK w0 W gm rs l){k:ByteArray}{g:Nat}(b:(pX l k).ownBlock=some g):g≠gm:=fun e=>by
 obtain⟨L,_,_,f⟩:=h.at_ k;subst e;obtain⟨cs,fr,a⟩:=own_typedN f b;have:=h.row;unfold GMap.Row at this;rw[this]at a;injection a with a
 cases a
 where
 own_typedN {w:Ub} {B:Nat} {e:TypeId} {size n:Nat} {v:Uc} {xs:List Uc} (h:w.ownsRow B e size v n xs) {g:Nat} (b:v.ownBlock=some g):∃cs fr,w.heap[g]? =some (Ua cs e fr):=by
  rcases h.2 with⟨rfl,_⟩|⟨c,cap,d,rfl,i,a,_⟩
  ·simp[Value.ownBlock]at b
  obtain rfl:c=g:=by simpa[Value.ownBlock]using b
  exact⟨_,_,a⟩
theorem pK.append(h:pK w0 W gm rs l){k:ByteArray}{L:List (Rl×Uc)}{v1:Uc}{n:Rl}{u:Uc}(m:jk W w0.heap.size (pX l k) L)(f:W.grownBy W' (pX l k).ownBlock)
  (hv:v1.ownBlock=(pX l k).ownBlock\/v1.ownBlock=some W.heap.size)(o:W'.ownsRow w0.heap.size 80 4 v1 (L.length+1) (L.flatMap Cb++Cb (n,u)))(t:zw W (n,u)):FL w0 W' gm rs l k v1 (L++[(n,u)]):=by
 have j:aU 162 W W':=aU.grown f m.2 (by decide);refine⟨h.below.grown f h.below.size (fun g e=>nH m.2 e),h.row.grown f (fun e=>h.Tc e.symm rfl),⟨fun p hp=>?_,by simpa using o⟩,fun c v b e=>?_,fun c v b e g a=>?_⟩
 ·rcases bT.1 hp with hp|hp
  ·exact(m.1 p hp).keep j
  rw[bz]at hp;subst hp;exact t.keep j
 ·obtain⟨r,s,i⟩:=h.own c v e;refine⟨r,s,i.kept f j fun g a e2=>?_⟩;unfold pX at e2;cases d:GMap.look l k with
  |none=>rw[d]at e2;simp[Value.ownBlock]at e2
  |some v0=>
   rw[d]at e2;exact h.apart c k v v0 e d b g a e2
 obtain⟨r,s,i⟩:=h.own c v e;rcases hv with hv|hv
 ·rw[hv];unfold pX;cases d:GMap.look l k with
  |none=>simp[Value.ownBlock]
  |some v0=>exact h.apart c k v v0 e d b g a
 rw[hv];intro q;injection q with q
 have:=pJ i.2 a;omega
theorem FL.put{r:Rl}{n:Rl}{v1:Uc}{B:List (Rl×Uc)}(j:pK w0 W gm rs l){t:Ub}(h:FL w0 t gm rs l r.name v1 B)(H:GMap.Row W' gm Value.string (GMap.put l r.name v1))(s:t.grownBy W' (some gm))(F:eN B=cN (rs++[r]) r.name):pK w0 W' gm (rs++[r]) (GMap.put l r.name v1):=by
 have C:aU 162 t W':=fun b A fr m=>(s.block b (dw m) (fun e=>by
  injection e with e;subst e;have:=h.row;unfold GMap.Row at this;rw[this]at m;injection m with m;cases m)).trans m
 have p:∀{v:Uc} {L:List (Rl×Uc)},jk t w0.heap.size v L->∀g,v.ownBlock=some g->some gm≠some g:=fun E g e q=>by
  injection q with q;subst q;rcases E.2.2 with⟨rfl,_⟩|⟨G,cap,A,rfl,m,u,_⟩
  ·simp[Value.ownBlock]at e
  obtain rfl:G=gm:=by simpa[Value.ownBlock]using e
  have:=h.row;unfold GMap.Row at this;rw[this]at u;injection u with u
  cases u
 have c:∀k,r.name≠k->cN (rs++[r]) k=cN rs k:=fun k d=>by rw[ou,af d]
 refine⟨h.below.grown s h.below.size (fun g e=>by cases e;exact j.lo),j.lo,H,GMap.nodup_put j.nodup,fun k v e=>?_,fun k e=>?_,fun k z v v' e f d g o=>?_,?_,fun k x=>?_⟩
 ·rw[GMap.look_put]at e;by_cases a:r.name=k
  ·rw[aj a]at e;injection e with e
   subst e a;exact⟨B,F,h.new.kept s C (p h.new)⟩
  rw[af a]at e;obtain⟨L,h1,i⟩:=h.own k v (fun q=>a q.symm) e;exact⟨L,by rw[c k a];exact h1,i.kept s C (p i)⟩
 ·rw[GMap.look_put]at e;by_cases a:r.name=k
  ·rw[aj a]at e;cases e
  rw[af a]at e;rw[c k a];exact j.none k e
 ·rw[GMap.look_put]at e f;by_cases h1:r.name=k
  ·rw[aj h1]at e;injection e with e
   rw[af (fun q=>d (h1.symm.trans q))]at f;subst e;intro q;exact h.apart z v' (fun M=>d (h1.symm.trans M.symm)) f g q o
  rw[af h1]at e;by_cases i:r.name=z
  ·rw[aj i]at f;injection f with f
   subst f;exact h.apart k v (fun q=>h1 q.symm) e g o
  rw[af i]at f;exact j.apart k z v v' e f d g o
 ·have:=GMap.put_length l r.name v1;have:=j.len;simp;omega
 rcases GMap.keys_put.1 x with h1|h1
 ·exact⟨r,by simp,h1.symm⟩
 obtain⟨D,i,J⟩:=j.names k h1;exact⟨D,by simp[i],J⟩
end
def lP(z y:Nat)(w w':Ub):Prop:=∀i,i<z->i≠y->w'.heap[i]? =w.heap[i]?
section
variable {w w':Ub} {y:Nat} {cy:Array Uc}
theorem lP.Su{t:TypeId}(h:lP w.heap.size y w w')(a:bK w y 46 cy)(d:t≠46):aU t w w':=fun g c fr b=>(h g (dw b) (fun e=>by
 subst e;unfold bK at a;rw[b]at a;injection a with a
 injection a with _ a;exact d a)).trans b
theorem lP.own(h:lP w.heap.size y w w')(d:bK w y 46 cy){B:Nat}{e:TypeId}{size n:Nat}{v:Uc}{xs:List Uc}(c:e≠46)(b:w.ownsRow B e size v n xs):w'.ownsRow B e size v n xs:=by
 refine⟨b.1,?_⟩;rcases b.2 with j|⟨g,cap,a,rfl,k,f,i⟩
 ·exact .inl j
 exact .inr ⟨g,cap,a,rfl,k,h.Su d c g _ _ f,i⟩
theorem lP.Te(h:lP w.heap.size y w w')(a:bK w y 46 cy){B:Nat}{v:Uc}{L:List (Rl×Uc)}(b:jk w B v L):jk w' B v L:=
 ⟨fun p c=>(b.1 p c).keep (h.Su a (by decide)),h.own a (by decide) b.2⟩
theorem lP.row(h:lP w.heap.size y w w')(a:bK w y 46 cy){gm:Nat}{l:PO}(b:GMap.Row w gm Value.string l):GMap.Row w' gm Value.string l:=
 b.of_heap (h gm b.lt fun e=>by
  subst e;unfold GMap.Row at b;unfold bK at a;rw[b]at a;injection a with a
  cases a)
end
end
section
open Go.RowKit Go.Maps Go.Shelf
theorem Py{κ:Type}{W:Ub}{r:Nat}{l:List (ByteArray×Uc)}(h:GMap.Row W r Value.string l)(C:(l.map (·.1)).Nodup)(z:∀p∈l,p.1.size<=9223372036854775807)(y:l.length<=1000000):
  ∃D:DataW Unit,W.ownsMap prog 9 mK r l.length D/\Maps.size D=l.length/\(strKeys D).Perm (l.map fun p=>p.1.data.toList):=by
 have A:prog.underlying 9=some .string:=underlying9;have d:∀x∈(GMap.lit Value.string l).toList,∃(p:ByteArray×Uc) (j:Nat),p∈l/\j<l.length/\x=⟨.string p.1,p.2,j⟩:=fun x f=>by
  rw[GMap.lit_toList]at f;obtain⟨q,s,rfl⟩:=bt.1 f;obtain⟨⟨k,v⟩,j⟩:=q;have B:=Mp s;obtain⟨u,e1⟩:=B;exact⟨l[j],j,bj _,u,by unfold GMap.entry;simp only;rw[<-e1]⟩
 have c:(GMap.lit Value.string l).size=l.length:=by simp[GMap.lit]
 have o:Go.MapKept.Stamped (GMap.lit Value.string l) l.length:=by
  refine⟨fun x f=>?_,?_,?_⟩
  ·obtain⟨p,j,_,u,rfl⟩:=d x f;exact u
  ·rw[GMap.lit_toList,cT];have e:((fun x:MapEntry=>x.born)∘GMap.entry Value.string)=fun p:(ByteArray×Uc)×Nat=>p.2:=rfl
   rw[e,Dr];exact Jb
  rw[GMap.lit_toList,cT];have e:((fun x:MapEntry=>x.key)∘GMap.entry Value.string)=Value.string∘(fun p:(ByteArray×Uc)=>p.1)∘Prod.fst:=rfl;rw[e,<-cT,<-cT,l4];exact Jc _ (fun a b n e=>n (by injection e)) C
 have i:∀x∈(GMap.lit Value.string l).toList,∃p∈l,Go.WideElems.rd prog 9 mK x=some (.string p.1.data.toList,.lit (.bool true))/\x.key=.string p.1:=fun x f=>by
  obtain⟨p,j,m,_,rfl⟩:=d x f;exact⟨p,m,(Go.WideElems.rd_mk (P:=prog) (k:=9) (R:=mK) (yv:=(.lit (.bool true),[])) (Go.WideMaps.keyOf_string_mk A (by simp only[maxLen];exact z p m)) rfl),rfl⟩
 have g:Go.WideElems.Fit prog 9 mK (GMap.lit Value.string l) l.length:=by
  refine⟨by rw[c];simp only[maxLen];omega,o,fun x f=>?_⟩;obtain⟨p,m,e,_⟩:=i x f;exact⟨_,e⟩
 refine⟨_,⟨_,_,h,g,by rw[c];exact ae _,rfl⟩,?_,?_⟩
 ·rw[Maps.size_eq,Go.length_sorted,bu,dW,c]
 show((((GMap.lit Value.string l).toList.map (Go.WideElems.rg prog 9 mK)).foldr DataW.insert []).map fun p=>strOf p.1).Perm _
 refine((Ql _).map _).trans ?_;rw[cT];have:(GMap.lit Value.string l).toList.map ((fun p:Lit×DataW Unit=>strOf p.1)∘Go.WideElems.rg prog 9 mK)=l.map fun p=>p.1.data.toList:=by
  rw[GMap.lit_toList,cT];have e2:∀q∈l.zipIdx,(((fun p:Lit×DataW Unit=>strOf p.1)∘Go.WideElems.rg prog 9 mK)∘GMap.entry Value.string) q=((fun p:ByteArray×Uc=>p.1.data.toList)∘Prod.fst) q:=fun q s=>by
   obtain⟨p,m,e,t⟩:=i (GMap.entry Value.string q) (by rw[GMap.lit_toList];exact bt.2 ⟨q,s,rfl⟩);have:q.1.1=p.1:=by unfold GMap.entry at t;simp only at t;injection t
   simp only[Function.comp];rw[Go.WideElems.rg_of e,this];rfl
  rw[fN e2,<-cT,l4]
 rw[this]
theorem Fa(m:Nat):AnyZ.SortsIn prog nF Fence.wide m:=
 ⟨fun c b cap e W f a d=>callsIn_wide.2 (AnyM.slices_Sort_string EY c b cap e W f a d),
  fun p cap W=>callsIn_wide.2 (AnyM.slices_Sort_string_none EY p cap W)⟩
theorem Fb(j gm:Nat)(l:List (ByteArray×Uc))(w:Ub)(m:j<w.heap.size)(B:w.cell? ⟨j,0,none⟩=some (.map (some gm)))(i:GMap.Row w gm Value.string l)(z:(l.map (·.1)).Nodup)(o:∀p∈l,p.1.size<=9223372036854775807)(f:l.length<=1000000):
  Calls prog 84 #[.func (.func 139) #[] #[TZ (some ⟨j,0,none⟩)]] w fun e w'=>∃(A:Option Addr) (c:Nat) (k:List ByteArray),e=.returned (T0 A k.length c)/\k.Perm (l.map (·.1))/\fB w' 9 1 A k.length (k.map Value.string)/\Below w.heap.size w w':=by
 obtain⟨D,d,g,a⟩:=Py (κ:=Unit) i z o f;have b:=AnyZ.keys_gives (P:=prog) (ρ:=py) {EX with} Fence.wide 3 trivial rfl (by omega) j gm l.length D (R:=mK) w m B d;have u:=AnyZ.sorted_in (P:=prog) (ρ:=nF) Hv Fence.wide 6 trivial trivial trivial trivial rfl (by omega) (Fa 5) (kA func129 (by kernel_rfl) rfl) 139 #[TZ (some ⟨j,0,none⟩)] trivial (kA func139 (by kernel_rfl) rfl) _ (Maps.size D) (by rw[g];simp only[maxLen];omega) (by rw[g];omega) w b;refine tG (callsIn_wide.1 u) ?_;rintro e w' ⟨v,n,rfl,r,s,_,C⟩;obtain⟨A,c,rfl,t⟩:=fB.Sp s;refine⟨A,c,(n.mergeSort fun x y=>decide (x<=y)).map (fun x=>(⟨x.toArray⟩:ByteArray)),by simp,?_,?_,C⟩
 ·have q:=((gK n fun x y=>decide (x<=y)).trans (r.trans a)).map (fun x=>(⟨x.toArray⟩:ByteArray));refine q.trans ?_;rw[cT];have:l.map ((fun x:List UInt8=>(⟨x.toArray⟩:ByteArray))∘fun p=>p.1.data.toList)=l.map (·.1):=fN fun p _=>by simp
  rw[this]
 rw[bu,kP,cT];exact t
theorem Ln(a:Option Nat)(w:Ub):Calls prog 85 #[.map a] w fun e w'=>e=.returned (.func (.func 139) #[] #[TZ (some ⟨w.heap.size,0,none⟩)])/\w'=w.alloc (Ua #[.map a] 192):=
 callsIn_wide.1 (AnyZ.keys_in (P:=prog) (ρ:=py) EX Fence.wide 3 trivial rfl a w)
end
section
open Go.RowKit
theorem On(n:Nat)(h:n<1073741824):n|||1073741824=n+1073741824:=by
 have q:=Nat.two_pow_add_eq_or_of_lt (i:=30) (b:=n) (by simpa using h) 1;have e:(2 ^ 30*1:Nat)=1073741824:=by decide
 rw[e]at q;rw[Nat.or_comm,<-q,Nat.add_comm]
theorem LZ(a n:Nat)(c:n<1073741824)(w:Ub):TW 35 #[TY T6 a,TY T7 n] w (TY T7 (wholeN a n:Nat)):=by
 have b:=u32_or_nat n 1073741824 (by omega) (by omega);rw[On n c]at b;unfold wholeN;by_cases h:a=1
 ·subst h;rw[aj rfl];have b:bits .or T7 (n:Int) 1073741824=((n+1073741824:Nat):Int):=b;generalize n+1073741824=m at*;go_enter func35,ntmps35;go_wp2_with fail;go_ret;exact⟨rfl,rfl⟩
 rw[af h];have g:((a:Int)==1)=false:=by simp;omega
 clear b;go_enter func35,ntmps35;go_wp2_with fail;go_ret;exact⟨rfl,rfl⟩
theorem IF:qE prog 38 #[] (fun p:PE×{v:Uc // v.oneCell'=true}=>J1 (p.1,p.2.1)) (fun x y=>fT x.1.number y.1.number):=fun x y w=>by
 obtain⟨a,⟨c,l⟩⟩:=x;obtain⟨b,⟨yv,k⟩⟩:=y;show Calls prog _ #[T1 #[TY T7 a.number,c],T1 #[TY T7 b.number,yv]] w fun e w'=>e=.returned (TY T6 (fT a.number b.number))/\Below w.heap.size w w'/\w.drawn<=w'.drawn
 generalize a.number=n1 at*;generalize b.number=n2 at*;have d:=((aw w.heap.size w).alloc (ae _) (Ua #[TY T7 n1,c] 109)).alloc (by simp) (Ua #[TY T7 n2,yv] 109);have f:=fun W=>sw (n1:Nat) (n2:Nat) W
 obtain⟨g,i⟩:=aA d f;clear d f;go_enter func38,ntmps38;go_wp2_with fail;refine(i.out _).mono ?_;rintro e j ⟨rfl,rfl⟩;go_wp2_with fail;go_ret;exact⟨rfl,g.out,ae _⟩
theorem IG:qE prog 41 #[] PS.vals (fun x y=>fT x.number y.number):=fun x y w=>by
 show Calls prog _ #[T1 #[TY T7 x.number,TY T7 x.code],T1 #[TY T7 y.number,TY T7 y.code]] w fun e w'=>e=.returned (TY T6 (fT x.number y.number))/\Below w.heap.size w w'/\w.drawn<=w'.drawn
 generalize x.number=n1 at*;generalize y.number=n2 at*;generalize x.code=g at*;generalize y.code=c at*;have a:=((aw w.heap.size w).alloc (ae _) (Ua #[TY T7 n1,TY T7 g] 113)).alloc (by simp) (Ua #[TY T7 n2,TY T7 c] 113);have b:=fun W=>sw (n1:Nat) (n2:Nat) W
 obtain⟨d,f⟩:=aA a b;clear a b;go_enter func41,ntmps41;go_wp2_with fail;refine(f.out _).mono ?_;rintro e i ⟨rfl,rfl⟩;go_wp2_with fail;go_ret;exact⟨rfl,d.out,ae _⟩
def mi{α:Type}(f:Nat->α)(a:Nat)(v:α):Nat->α:=fun i=>if i=a then v else f i
theorem fw{α:Type}(f:Nat->α)(a:Nat)(v:α):mi f a v a=v:=by simp[mi]
theorem gJ{α:Type}(f:Nat->α){a i:Nat}(v:α)(h:i≠a):mi f a v i=f i:=by simp[mi,h]
def jy(d:Nat)(x:Bool)(ev sv:Nat->Uc):Array Uc:=#[TY T7 d,T2 x,ev 0,ev 1,ev 2,ev 3,ev 4,sv 0,sv 1]
theorem rO(d:Nat)(x:Bool)(ev sv:Nat->Uc)(a:Nat)(b:a<5):(jy d x ev sv)[2+a]? =some (ev a):=by
 match a,b with
 |0,_=>rfl
 |1,_=>rfl
 |2,_=>rfl
 |3,_=>rfl
 |4,_=>rfl
theorem vz(d:Nat)(x:Bool)(ev sv:Nat->Uc)(m:Nat)(a:m<2):(jy d x ev sv)[7+m]? =some (sv m):=by
 match m,a with
 |0,_=>rfl
 |1,_=>rfl
theorem IC(d:Nat)(x:Bool)(ev sv:Nat->Uc)(a:Nat)(b:a<5)(v:Uc):(jy d x ev sv).setIfInBounds (2+a) v=jy d x (mi ev a v) sv:=by
 match a,b with
 |0,_=>rfl
 |1,_=>rfl
 |2,_=>rfl
 |3,_=>rfl
 |4,_=>rfl
theorem ID(d:Nat)(x:Bool)(ev sv:Nat->Uc)(m:Nat)(a:m<2)(v:Uc):(jy d x ev sv).setIfInBounds (7+m) v=jy d x ev (mi sv m v):=by
 match m,a with
 |0,_=>rfl
 |1,_=>rfl
structure iF(w0 W:Ub)(ev:Nat->Uc)(LE:Nat->List (PE×Uc))(sv:Nat->Uc)(LS:Nat->List PS):Prop where
 below:Below w0.heap.size w0 W
 ents:∀a,a<5->wF W w0.heap.size (ev a) (LE a)
 subs:∀m,m<2->Cc W w0.heap.size (sv m) (LS m)
 apE:∀a b g,a<5->b<5->(ev a).ownBlock=some g->(ev b).ownBlock=some g->a=b
 apS:∀a b g,a<2->b<2->(sv a).ownBlock=some g->(sv b).ownBlock=some g->a=b
theorem iF.new(w0:Ub){W:Ub}(h:Below w0.heap.size w0 W):iF w0 W (fun _=>T0 none 0 0) (fun _=>[]) (fun _=>T0 none 0 0) (fun _=>[]):=
 ⟨h,fun a _=>⟨fun p c=>(by cases c),aX _ _ _ _⟩,fun m _=>aX _ _ _ _,fun a b g _ _ e=>by simp[Value.ownBlock]at e,fun a b g _ _ e=>by simp[Value.ownBlock]at e⟩
theorem wF.grows{w w':Ub}{B:Nat}{v:Uc}{L:List (PE×Uc)}(h:wF w B v L)(a:aS w w'):wF w' B v L:=
 ⟨fun p b=>(h.1 p b).keep (aU.grows a) (aU.grows a),cC a h.2⟩
theorem Db{w:Ub}{B B':Nat}{e j:TypeId}{s s' n m:Nat}{v v':Uc}{xs c:List Uc}(h:w.ownsRow B e s v n xs)(q:w.ownsRow B' j s' v' m c)(d:e≠j){g:Nat}(i:v.ownBlock=some g):v'.ownBlock≠some g:=fun b=>by
 rcases h.2 with⟨rfl,_⟩|⟨k,cap,r,rfl,_,t,_⟩
 ·simp[Value.ownBlock]at i
 rcases q.2 with⟨rfl,_⟩|⟨p,f,l,rfl,_,a,_⟩
 ·simp[Value.ownBlock]at b
 obtain rfl:k=g:=by simpa[Value.ownBlock]using i
 obtain rfl:p=k:=by simpa[Value.ownBlock]using b
 rw[t]at a;injection a with a
 injection a with _ o;exact d o
theorem rP{w w':Ub}{B B':Nat}{e c:TypeId}{s s' n d:Nat}{v v':Uc}{xs a:List Uc}(h:w.ownsRow B e s v n xs)(i:w.ownsRow B' c s' v' d a)(b:e≠c)(f:w.grownBy w' v'.ownBlock):w'.ownsRow B e s v n xs:=by
 refine h.kept f ?_;cases e0:v.ownBlock with
 |none=>
  rcases h.2 with⟨rfl,_⟩|⟨k,cap,j,rfl,_⟩
  ·cases e1:v'.ownBlock with
   |none=>exact .inl rfl
   |some g=>exact .inr (by simp)
  simp[Value.ownBlock]at e0
 |some g=>exact .inr fun q=>Db h i b e0 q.symm
section
variable {w0 W W':Ub} {ev sv:Nat->Uc} {LE:Nat->List (PE×Uc)} {LS:Nat->List PS}
theorem iF.grows(h:iF w0 W ev LE sv LS)(b:aS W W'):iF w0 W' ev LE sv LS:=
 ⟨h.below.trans (b.mono h.below.size),fun a d=>(h.ents a d).grows b,fun m c=>cC b (h.subs m c),h.apE,h.apS⟩
theorem iF.other(h:iF w0 W ev LE sv LS){g:Nat}{t:TypeId}{cs:Array Uc}(b:W.grownBy W' (some g))(c:bK W g t cs)(j:w0.heap.size<=g)(n:t≠162)(i:t≠111)(q:t≠109)(l:t≠113):iF w0 W' ev LE sv LS:=
 ⟨h.below.grown b h.below.size (fun k e=>by cases e;exact j),fun a d=>⟨fun p o=>((h.ents a d).1 p o).keep (aU.Sv b c n) (aU.Sv b c i),(h.ents a d).2.kept b (.inr (cY (h.ents a d).2 c (kn q)))⟩,
   fun m f=>J5 (h.subs m f) b (.inr (cY (h.subs m f) c (kn l))),h.apE,h.apS⟩
theorem iF.Tv(h:iF w0 W ev LE sv LS){a:Nat}(i:a<5){x:PE×Uc}{v':Uc}(z:FF W' x)(l:W.grownBy W' (ev a).ownBlock)(y:W'.ownsRow w0.heap.size 109 2 v' ((LE a).length+1) ((LE a).flatMap J1++J1 x))
  (hf:v'.ownBlock=(ev a).ownBlock\/v'.ownBlock=some W.heap.size):iF w0 W' (mi ev a v') (mi LE a (LE a++[x])) sv LS where
 below:=h.below.grown l h.below.size (fun k e=>nH (h.ents a i).2 e)
 ents:=fun b f=>by
  have s:aU 162 W W':=aU.grown l (h.ents a i).2 (by decide);have t:aU 111 W W':=aU.grown l (h.ents a i).2 (by decide);by_cases e:b=a
  ·subst e;rw[fw,fw];refine⟨fun p hp=>?_,by simpa using y⟩;rcases bT.1 hp with hp|hp
   ·exact((h.ents b i).1 p hp).keep s t
   rw[bz]at hp;subst hp;exact z
  rw[gJ _ _ e,gJ _ _ e];refine⟨fun p hp=>((h.ents b f).1 p hp).keep s t,(h.ents b f).2.kept l ?_⟩;cases e0:(ev b).ownBlock with
  |none=>
   cases e1:(ev a).ownBlock with
   |none=>
    have:=(h.ents b f).2.2;rcases this with⟨q,_⟩|⟨B,cap,v,q,_⟩
    ·exact .inl rfl
    rw[q]at e0;simp[Value.ownBlock]at e0
   |some g=>exact .inr (by simp)
  |some g=>exact .inr fun q=>e (h.apE b a g f i e0 q.symm)
 subs:=fun m A=>rP (h.subs m A) (h.ents a i).2 (by decide) l
 apE:=fun b o g f n e d=>by
  have key:∀c,c<5->c≠a->(ev c).ownBlock=some g->v'.ownBlock=some g->False:=fun c u r e1 e2=>by
   rcases hf with hf|hf
   ·rw[hf]at e2;exact r (h.apE c a g u i e1 e2)
   rw[hf]at e2;injection e2 with e2;have:=pJ (h.ents c u).2 e1;omega
  by_cases q:b=a
  ·by_cases j:o=a
   ·rw[q,j]
   rw[q,fw]at e;rw[gJ _ _ j]at d;exact absurd e (fun e=>key o n j d e)
  by_cases j:o=a
  ·rw[j,fw]at d;rw[gJ _ _ q]at e;exact absurd d (fun d=>key b f q e d)
  rw[gJ _ _ q]at e;rw[gJ _ _ j]at d;exact h.apE b o g f n e d
 apS:=h.apS
theorem iF.Tz(h:iF w0 W ev LE sv LS){m:Nat}(f:m<2){x:PS}{v':Uc}(j:W.grownBy W' (sv m).ownBlock)(u:W'.ownsRow w0.heap.size 113 2 v' ((LS m).length+1) ((LS m).flatMap PS.vals++x.vals))
  (hf:v'.ownBlock=(sv m).ownBlock\/v'.ownBlock=some W.heap.size):iF w0 W' ev LE (mi sv m v') (mi LS m (LS m++[x])) where
 below:=h.below.grown j h.below.size (fun k e=>nH (h.subs m f) e)
 ents:=fun b a=>⟨fun p t=>((h.ents b a).1 p t).keep (aU.grown j (h.subs m f) (by decide)) (aU.grown j (h.subs m f) (by decide)),rP (h.ents b a).2 (h.subs m f) (by decide) j⟩
 subs:=fun b a=>by
  by_cases e:b=m
  ·subst e;rw[fw,fw];unfold Cc;simpa using u
  rw[gJ _ _ e,gJ _ _ e];refine J5 (h.subs b a) j ?_;cases e0:(sv b).ownBlock with
  |none=>
   cases e1:(sv m).ownBlock with
   |none=>
    have:=(h.subs b a).2;rcases this with⟨q,_⟩|⟨v,cap,s,q,_⟩
    ·exact .inl rfl
    rw[q]at e0;simp[Value.ownBlock]at e0
   |some g=>exact .inr (by simp)
  |some g=>exact .inr fun q=>e (h.apS b m g a f e0 q.symm)
 apE:=h.apE
 apS:=fun b n g a l e d=>by
  have key:∀c,c<2->c≠m->(sv c).ownBlock=some g->v'.ownBlock=some g->False:=fun c r o e1 e2=>by
   rcases hf with hf|hf
   ·rw[hf]at e2;exact o (h.apS c m g r f e1 e2)
   rw[hf]at e2;injection e2 with e2;have:=pJ (h.subs c r) e1;omega
  by_cases q:b=m
  ·by_cases i:n=m
   ·rw[q,i]
   rw[q,fw]at e;rw[gJ _ _ i]at d;exact absurd e (fun e=>key n l i d e)
  by_cases i:n=m
  ·rw[i,fw]at d;rw[gJ _ _ q]at e;exact absurd d (fun d=>key b a q e d)
  rw[gJ _ _ q]at e;rw[gJ _ _ i]at d;exact h.apS b n g a l e d
end
structure jR(w w':Ub):Prop where
 size:w.heap.size<=w'.heap.size
 cond:aU 162 w w'
 rule:aU 111 w w'
 prule:aU 80 w w'
 pol:aU 46 w w'
 row:aU 82 w w'
theorem jR.refl(w:Ub):jR w w:=⟨ae _,aU.refl _ _,aU.refl _ _,aU.refl _ _,aU.refl _ _,aU.refl _ _⟩
theorem jR.trans{a b c:Ub}(h:jR a b)(k:jR b c):jR a c:=⟨ax h.size k.size,h.cond.trans k.cond,h.rule.trans k.rule,h.prule.trans k.prule,h.pol.trans k.pol,h.row.trans k.row⟩
theorem jR.grows{w w':Ub}(h:aS w w'):jR w w':=⟨h.size,aU.grows h,aU.grows h,aU.grows h,aU.grows h,aU.grows h⟩
theorem jR.grown{w w':Ub}{B s n:Nat}{e:TypeId}{v:Uc}{xs:List Uc}(a:w.grownBy w' v.ownBlock)(b:w.ownsRow B e s v n xs)(f:e≠162)(c:e≠111)(i:e≠80)(d:e≠46)(g:e≠82):jR w w':=
 ⟨a.size,aU.grown a b f,aU.grown a b c,aU.grown a b i,aU.grown a b d,aU.grown a b g⟩
theorem jR.set{w w':Ub}{g:Nat}{e:TypeId}{cs:Array Uc}(a:w.grownBy w' (some g))(b:bK w g e cs)(f:e≠162)(c:e≠111)(j:e≠80)(d:e≠46)(i:e≠82):jR w w':=
 ⟨a.size,aU.Sv a b f,aU.Sv a b c,aU.Sv a b j,aU.Sv a b d,aU.Sv a b i⟩
structure jz(Y:Nat)(w w':Ub):Prop where
 p:jR w w'
 y:∀g cs,g≠Y->bK w g 67 cs->bK w' g 67 cs
theorem jz.refl(Y:Nat)(w:Ub):jz Y w w:=⟨jR.refl w,fun _ _ _ h=>h⟩
theorem jz.trans{Y:Nat}{a b c:Ub}(h:jz Y a b)(k:jz Y b c):jz Y a c:=⟨h.p.trans k.p,fun g cs d e=>k.y g cs d (h.y g cs d e)⟩
theorem jz.grows{Y:Nat}{w w':Ub}(h:aS w w'):jz Y w w':=⟨jR.grows h,fun g cs _ a=>a.below h a.lt⟩
theorem jz.set{Y:Nat}{w w':Ub}{cs:Array Uc}(b:w.grownBy w' (some Y))(d:bK w Y 67 cs):jz Y w w':=
 ⟨jR.set b d (by decide) (by decide) (by decide) (by decide) (by decide),fun g c a h=>h.grown b (fun e=>a (dK e))⟩
structure nN(z:Nat)(w w':Ub):Prop where
 keep:jR w w'
 blk:∀i t cs,z<=i->bK w i t cs->bK w' i t cs
 plan:aU 67 w w'
theorem bP(z:Nat):StQ.Frame (nN z):=StQ.frame_of (fun w=>⟨jR.refl _,fun _ _ _ _ h=>h,aU.refl _ _⟩) fun h k=>⟨h.keep.trans k.keep,fun i t cs a b=>k.blk i t cs a (h.blk i t cs a b),h.plan.trans k.plan⟩
theorem uD{z:Nat}{w w':Ub}(h:aS w w'):nN z w w':=⟨jR.grows h,fun i t cs _ a=>a.below h a.lt,aU.grows h⟩
def KdR.TL(z:Nat)(t:TypeId)(cs:Array Uc):StQ.KdR (nN z):=⟨fun v w=>∃g,v=T0 (some ⟨g,0,none⟩) 1 1/\z<=g/\bK w g t cs,fun v w w' b ⟨g,e,a,c⟩=>⟨g,e,a,b.blk _ _ _ a c⟩⟩
def KdR.anyE(z:Nat):StQ.KdR (nN z):=⟨fun _ _=>True,fun _ _ _ _ _=>trivial⟩
structure Mr(P:Uc->Ub->Prop)(Q:Ub->Prop)(i d:Nat)(f:Nat->Bool)(a:Act)(w:Ub):Prop where
 st:if f i=true then P (a.tmps.getD d undef) w else Q w
section
variable {P:Uc->Ub->Prop} {Q:Ub->Prop} {i0 d0:Nat}
theorem Mr.next(i d:Nat)(c:([i0].contains i)=false)(b:([d0].contains d)=false)(f:Nat->Bool)(a:Act)(u:Uc)(w:Ub)(h:Mr P Q i0 d0 f a w):Mr P Q i0 d0 (StQ.upd f i) (a.put (some d) u) w:=by
 simp at c b;refine⟨?_⟩;rw[StQ.upd_ne f (fun e=>c e.symm),StQ.put_far (fun e=>b e)];exact h.st
theorem Mr.move{f:Nat->Bool}{a:Act}{w w':Ub}(h:Mr P Q i0 d0 f a w)(c:∀v,P v w->P v w')(b:Q w->Q w'):Mr P Q i0 d0 f a w':=by
 refine⟨?_⟩;have:=h.st;split<;>rename_i e
 ·rw[aj e]at this;exact c _ this
 rw[af e]at this;exact b this
end
theorem IE:(prog.info? 109).map (fun i=>(i.zero,i.size,i.bytes))=some (some (T1 #[TY T7 0,T0 none 0 0]),2,32):=by kernel_rfl
theorem Oj:(prog.info? 113).map (fun i=>(i.zero,i.size,i.bytes))=some (some (T1 #[TY T7 0,TY T7 0]),2,8):=by kernel_rfl
def Ol(r:Rw)(d:Nat)(b:Bool)(rules:List PR)(a:Nat):List PE:=
 if r.nums.getD a (-1)<0\/(a=1/\b=false)then[]else if jZ a rules d=[]then[]else[⟨wholeN a (r.nums.getD a (-1)).toNat,jZ a rules d⟩]
def Om(r:Rw)(rules:List PR)(m:Nat):List PS:=if r.mux=(m:Int)+1 then[⟨r.sub.toNat,(rules.getD 0 default).code⟩]else[]
theorem outswo_num{α:Type}(a:α->Nat):Go.Sort.SWO (Go.Proofs.ltOf fun x y:α=>fT (a x) (a y)) where
 irrefl x:=by
  unfold Go.Proofs.ltOf fT;simp
 trans x y z h1 h2:=by
  unfold Go.Proofs.ltOf fT at*;simp only[aV]at*;split at h1<;>split at h2<;>split<;>(try split at h1)<;>(try split at h2)<;>(try split)<;>omega
 ntrans x y z h1 h2:=by
  unfold Go.Proofs.ltOf fT at*;simp only[dh]at*;split at h1<;>split at h2<;>split<;>(try split at h1)<;>(try split at h2)<;>(try split)<;>omega
theorem J2{x y:Nat}(h:¬fT (y:Nat) (x:Nat)<0):x<=y:=by
 unfold fT at h;split at h<;>(try split at h)<;>omega
abbrev L2:={v:Uc // v.oneCell'=true}
instance:Inhabited L2:=⟨⟨T0 none 0 0,rfl⟩⟩
def Rq(p:PE×L2):PE×Uc:=(p.1,p.2.1)
theorem Ce:∀{L:List (PE×Uc)},(∀p∈L,∃A n c,p.2=T0 A n c)->∃a:List (PE×L2),a.map Rq=L
 |[],_=>⟨[],rfl⟩
 |p::t,h=>by
  obtain⟨a,d⟩:=Ce (L:=t) fun q b=>h q (by simp[b])
  obtain⟨A,n,c,e⟩:=h p (by simp);refine⟨(p.1,⟨p.2,by rw[e];rfl⟩)::a,?_⟩;rw[aJ,d];rfl
section
variable {w0 W W':Ub} {ev sv:Nat->Uc} {LE:Nat->List (PE×Uc)} {LS:Nat->List PS}
theorem iF.SX(h:iF w0 W ev LE sv LS){a:Nat}(c:a<5){f:List (PE×Uc)}(l:f.Perm (LE a))(d:W.grownBy W' (ev a).ownBlock)(s:W'.ownsRow w0.heap.size 109 2 (ev a) f.length (f.flatMap J1)):iF w0 W' ev (mi LE a f) sv LS where
 below:=h.below.grown d h.below.size (fun k e=>nH (h.ents a c).2 e)
 ents:=fun b i=>by
  have n:aU 162 W W':=aU.grown d (h.ents a c).2 (by decide);have o:aU 111 W W':=aU.grown d (h.ents a c).2 (by decide);by_cases e:b=a
  ·subst e;rw[fw];exact⟨fun p j=>((h.ents b c).1 p (l.mem_iff.1 j)).keep n o,s⟩
  rw[gJ _ _ e];refine⟨fun p l=>((h.ents b i).1 p l).keep n o,(h.ents b i).2.kept d ?_⟩;cases e0:(ev b).ownBlock with
  |none=>
   cases e1:(ev a).ownBlock with
   |none=>
    have:=(h.ents b i).2.2;rcases this with⟨q,_⟩|⟨u,cap,r,q,_⟩
    ·exact .inl rfl
    rw[q]at e0;simp[Value.ownBlock]at e0
   |some g=>exact .inr (by simp)
  |some g=>exact .inr fun q=>e (h.apE b a g i c e0 q.symm)
 subs:=fun m t=>rP (h.subs m t) (h.ents a c).2 (by decide) d
 apE:=h.apE
 apS:=h.apS
theorem iF.SU(h:iF w0 W ev LE sv LS){m:Nat}(d:m<2){f:List PS}(c:W.grownBy W' (sv m).ownBlock)(l:W'.ownsRow w0.heap.size 113 2 (sv m) f.length (f.flatMap PS.vals)):iF w0 W' ev LE sv (mi LS m f) where
 below:=h.below.grown c h.below.size (fun k e=>nH (h.subs m d) e)
 ents:=fun b a=>⟨fun p j=>((h.ents b a).1 p j).keep (aU.grown c (h.subs m d) (by decide)) (aU.grown c (h.subs m d) (by decide)),rP (h.ents b a).2 (h.subs m d) (by decide) c⟩
 subs:=fun b a=>by
  by_cases e:b=m
  ·subst e;rw[fw];exact l
  rw[gJ _ _ e];refine J5 (h.subs b a) c ?_;cases e0:(sv b).ownBlock with
  |none=>
   cases e1:(sv m).ownBlock with
   |none=>
    have:=(h.subs b a).2;rcases this with⟨q,_⟩|⟨n,cap,i,q,_⟩
    ·exact .inl rfl
    rw[q]at e0;simp[Value.ownBlock]at e0
   |some g=>exact .inr (by simp)
  |some g=>exact .inr fun q=>e (h.apS b m g a d e0 q.symm)
 apE:=h.apE
 apS:=h.apS
theorem L3(h:iF w0 W ev LE sv LS){a:Nat}(m:a<5)(t:(LE a).length<=1000000):
  Calls prog 37 #[ev a,.func (.func 38) #[] #[]] W fun e w'=>e=.returned (T4 #[])/\∃g:List (PE×Uc),g.Perm (LE a)/\(g.Pairwise fun x y=>x.1.number<=y.1.number)/\iF w0 w' ev (mi LE a g) sv LS/\W.grownBy w' (ev a).ownBlock:=by
 obtain⟨L,i⟩:=Ce (L:=LE a) fun p d=>by
  obtain⟨A,c,e,_⟩:=(h.ents a m).1 p d;exact⟨A,_,c,e⟩
 have f:∀l:List (PE×L2),(l.map Rq).flatMap J1=l.flatMap fun p=>J1 (p.1,p.2.1):=fun l=>by rw[List.flatMap_map];rfl
 have b:(LE a).length=L.length:=by rw[<-i];simp
 have q:=(h.ents a m).2;rw[b,<-i,f]at q;have n:=rF (P:=prog) CH 2 (by omega) isAgg109 sizeOf109 (fun p:PE×L2=>J1 (p.1,p.2.1)) (fun _=>rfl) (fun x u r=>by
  simp only[J1,aP,bQ,eW]at r;rcases r with rfl|rfl
  ·rfl
  exact x.2.2) (fun x y=>fT x.1.number y.1.number) (outswo_num fun x:PE×L2=>x.1.number) 38 #[] (kA func38 (by kernel_rfl) rfl) IF L L.length rfl (by omega) W q
 refine tG n ?_;rintro e w' ⟨rfl,g,d,j,k,o⟩;refine⟨rfl,g.map Rq,by rw[<-i];exact d.map Rq,?_,h.SX m (by rw[<-i];exact d.map Rq) o ?_,o⟩
 ·rw[fQ];exact j.imp fun s=>J2 s
 rw[f,bu,d.length_eq];exact k
theorem L4(h:iF w0 W ev LE sv LS){m:Nat}(j:m<2)(l:(LS m).length<=1000000):
  Calls prog 40 #[sv m,.func (.func 41) #[] #[]] W fun e w'=>e=.returned (T4 #[])/\∃a:List PS,a.Perm (LS m)/\(a.Pairwise fun x y=>x.number<=y.number)/\iF w0 w' ev LE sv (mi LS m a)/\W.grownBy w' (sv m).ownBlock:=by
 have d:=rF (P:=prog) G9 2 (by omega) isAgg113 sizeOf113 PS.vals (fun _=>rfl) (fun x u i=>by
  simp only[PS.vals,aP,bQ,eW]at i;rcases i with rfl|rfl<;>rfl) (fun x y=>fT x.number y.number) (outswo_num PS.number) 41 #[] (kA func41 (by kernel_rfl) rfl) IG (LS m) (LS m).length rfl (by omega) W (h.subs m j)
 refine tG d ?_;rintro e w' ⟨rfl,a,g,b,c,f⟩;refine⟨rfl,a,g,b.imp fun k=>J2 k,h.SU j f ?_,f⟩;rw[g.length_eq];exact c
end
theorem iF.TI{w0 W:Ub}{ev sv:Nat->Uc}{LE:Nat->List (PE×Uc)}{LS:Nat->List PS}(h:iF w0 W ev LE sv LS)(d:Nat)(x:Bool):
  jO W W.heap.size ⟨d,x,[(LE 0).map (·.1),(LE 1).map (·.1),(LE 2).map (·.1),(LE 3).map (·.1),(LE 4).map (·.1)],[LS 0,LS 1]⟩ (jy d x ev sv):=by
 obtain⟨n,B,e0,e⟩:=(h.ents 0 (by omega)).slice;obtain⟨g,o,e1,l⟩:=(h.ents 1 (by omega)).slice;obtain⟨v,p,e2,b⟩:=(h.ents 2 (by omega)).slice;obtain⟨t,r,u,s⟩:=(h.ents 3 (by omega)).slice;obtain⟨q,A,z,j⟩:=(h.ents 4 (by omega)).slice;obtain⟨c,d0,f,k⟩:=(h.subs 0 (by omega)).slice;obtain⟨y,m,i,a⟩:=(h.subs 1 (by omega)).slice;refine⟨⟨n,B,g,o,v,p,t,r,q,A,c,d0,y,m,?_,e,l,b,s,j,k,a⟩⟩;unfold jy;rw[e0,e1,e2,u,z,f,i];simp
def oT(w:Ub)(a:Pl)(vs:Array Uc):Prop:=∀w',aU 162 w w'->aU 111 w w'->aU 109 w w'->aU 113 w w'->jO w' w'.heap.size a vs
theorem oT.keep{w w':Ub}{a:Pl}{vs:Array Uc}(h:oT w a vs)(g:aU 162 w w')(e:aU 111 w w')(i:aU 109 w w')(f:aU 113 w w'):oT w' a vs:=
 fun W b c d j=>h W (g.trans b) (e.trans c) (i.trans d) (f.trans j)
theorem oT.now{w:Ub}{a:Pl}{vs:Array Uc}(h:oT w a vs):jO w w.heap.size a vs:=h w (aU.refl _ _) (aU.refl _ _) (aU.refl _ _) (aU.refl _ _)
theorem wF.SA{w:Ub}{B:Nat}{v:Uc}{L:List (PE×Uc)}(h:wF w B v L):∃A c,v=T0 A L.length c/\∀w',aU 162 w w'->aU 111 w w'->aU 109 w w'->PEs w' w'.heap.size A (L.map (·.1)):=by
 obtain⟨A,c,rfl,j⟩:=fB.Sp h.2;refine⟨A,c,rfl,fun w' b k f=>uF (by omega) J1 (fun _=>rfl) (j.keep f).reads rfl fun p i=>?_⟩;obtain⟨g,d,e,a⟩:=(h.1 p i).keep b k;exact⟨g,d,by unfold J1;rw[e],a.TG⟩
theorem Cc.SA{w:Ub}{B:Nat}{v:Uc}{L:List PS}(h:Cc w B v L):∃A c,v=T0 A L.length c/\∀w',aU 113 w w'->Nv w' w'.heap.size A L:=by
 obtain⟨A,c,rfl,b⟩:=fB.Sp h;refine⟨A,c,rfl,fun w' d=>eX.Sy (by omega) (vss:=L.map PS.vals) (n:=L.length) (by rw[<-vG];exact(b.keep d).reads) (by simp) (fun k a=>?_) rfl⟩;have e1:(L.map PS.vals).getD k []=L[k].vals:=by simp[aa,cO,ah a]
 have e2:L.getD k default=L[k]:=by simp[aa,ah a]
 rw[e1,e2];exact⟨rfl,rfl⟩
theorem iF.Tk{w0 W:Ub}{ev sv:Nat->Uc}{LE:Nat->List (PE×Uc)}{LS:Nat->List PS}(h:iF w0 W ev LE sv LS)(d:Nat)(x:Bool):
  oT W ⟨d,x,[(LE 0).map (·.1),(LE 1).map (·.1),(LE 2).map (·.1),(LE 3).map (·.1),(LE 4).map (·.1)],[LS 0,LS 1]⟩ (jy d x ev sv):=by
 obtain⟨s,F,e0,j⟩:=(h.ents 0 (by omega)).SA;obtain⟨l,r,e1,p⟩:=(h.ents 1 (by omega)).SA;obtain⟨B,t,e2,g⟩:=(h.ents 2 (by omega)).SA;obtain⟨z,v,A,y⟩:=(h.ents 3 (by omega)).SA;obtain⟨u,E,D,n⟩:=(h.ents 4 (by omega)).SA;obtain⟨i,d0,k,o⟩:=(h.subs 0 (by omega)).SA;obtain⟨C,q,m,f⟩:=(h.subs 1 (by omega)).SA;intro w' a c b e;refine⟨⟨s,F,l,r,B,t,z,v,u,E,i,d0,C,q,?_,j w' a c b,p w' a c b,g w' a c b,y w' a c b,n w' a c b,o w' e,f w' e⟩⟩;unfold jy;rw[e0,e1,e2,A,D,k,m];simp
theorem IU(u v:Array Uc)(W:Ub):(eqGuard .neq 162 (.tmp 19) (.tmp 23) (T1 u) (T1 v)).run prog W=.ok () W:=by kernel_rfl
theorem IV{α:Type}[Inhabited α]{a b:List α}(d:a.length=b.length)(h:∀k,k<a.length->a.getD k default=b.getD k default):a=b:=by
 apply oY d
 intro k c e;have:=h k c;rwa [aa,ah c,aa,ah e]at this
theorem IW(a b:List Cd)(ha:a.length<=1000000)(A:Option Addr)(c:Nat)(A2:Option Addr)(c2 B:Nat)(w:Ub)(N:B<=w.heap.size)(hr:bh w B 4 A a.length (cR a))(r:bh w B 4 A2 b.length (cR b)):
  TV 137 #[T0 A a.length c,T0 A2 b.length c2] w (T2 (decide (a=b))):=by
 by_cases Y:a.length=b.length
 ·have u:(∀k,k<a.length->a.getD k default=b.getD k default)->decide (a=b)=true:=fun h=>bM (IV Y h)
  have F:∀k,¬a.getD k default=b.getD k default->decide (a=b)=false:=fun k h=>aK fun e=>h (by rw[e])
  generalize decide (a=b)=V at*;rw[<-Y]at r⊢;generalize hn:a.length=n at*;obtain⟨ab,aE,HN,HR,a1⟩:=aG u F hn hr r;clear u F hn hr r;clear Y;go_enter func137,ntmps137;go_wp2_with fail;go_loopw [13] (fun i wr=>∃k:Nat,k<=n/\i=TY T6 k/\(∀j,j<k->a.getD j default=b.getD j default)/\Below w.heap.size w wr) (fun i _=>n - (intOf i).toNat)
  case atStart=>exact⟨0,by omega,rfl,fun j hj=>absurd hj (by omega),aw _ _⟩
  case round=>
   obtain⟨k,hk,rfl,d,v⟩:=hrel;by_cases G:k<n
   ·obtain⟨b1,L,rfl,bk,l⟩:=(HR.out.below (v.mono N)).SG G;obtain⟨z,J,rfl,bf,g⟩:=(a1.out.below (v.mono N)).SG G;have bb:(k:Int)<(n:Int):=by omega
    have hz:=v.size;have al:b1<wr.heap.size:=by omega
    have an:z<wr.heap.size:=by omega
    have p:=fun W=>Fw (a.getD k default) (b.getD k default) W
    have ad:=aE.out k;generalize hx:a.getD k default=x at*;generalize hy:b.getD k default=y at*;have ap:=kZ (w:=wr) l al;have a6:=kZ (w:=wr) g an;have p:∀W,(binOp .neq 162 (T1 #[TY T6 x.arg,TY T6 x.op,TY T8 x.mask,TY T8 x.val]) (T1 #[TY T6 y.arg,TY T6 y.op,TY T8 y.mask,TY T8 y.val])).run prog W=.ok (T2 (!decide (x=y))) W:=p;have l:wr.drew.rangeAt b1 (L+k*4) [TY T6 x.arg,TY T6 x.op,TY T8 x.mask,TY T8 x.val]:=l;have g:wr.drew.rangeAt z (J+k*4) [TY T6 y.arg,TY T6 y.op,TY T8 y.mask,TY T8 y.val]:=g;have t:decide (x=y)=true->∀j,j<k+1->a.getD j default=b.getD j default:=fun h j hj=>by
     rcases dB j k with e|e
     ·exact d j e
     obtain rfl:j=k:=by omega
     rw[hx,hy];exact aN h
    have s:decide (x=y)=false->V=false:=fun h=>ad (cA h)
    generalize decide (x=y)=q at*;clear ap a6 ad;obtain⟨HX,HY,E,a0,C,HB,a3⟩:=az hx hy s d t v p;clear hx hy s d t v p;go_wp2_with fail;refine Any.wp_region_kinds eL (nQ [(16,.eq (T0 (some ⟨b1,L,none⟩) n c)),(17,.eq (TY T6 k)),(18,.eq (TZ (some ⟨b1,L+k*4,none⟩))),(19,.eq (T1 #[TY T6 x.arg,TY T6 x.op,TY T8 x.mask,TY T8 x.val])),(20,.eq (T0 (some ⟨z,J,none⟩) n c2)),(21,.eq (TY T6 k)),(22,.eq (TZ (some ⟨z,J+k*4,none⟩))),(23,.eq (T1 #[TY T6 y.arg,TY T6 y.op,TY T8 y.mask,TY T8 y.val])),(24,.eq (T2 (!q)))]) [16,17,18,19,20,21,22,23,24] (by kernel_rfl) (by kernel_rfl) (by kernel_rfl) ⟨?_,?_,?_,?_,?_,?_,?_,?_,?_,trivial⟩ ?_
    ·exact Any.st_was 16 0 (.plain rfl) (by first|exact .inl rfl|exact .inr rfl) rfl (by decide) (rfl)
    ·exact Any.st_was 17 5 (.plain rfl) (by first|exact .inl rfl|exact .inr rfl) rfl (by decide) (rfl)
    ·exact Any.sx_two 18 16 17 _ _ _ (.plain rfl) rfl (by decide) (by decide) rfl rfl (fun a w h1 T=>by unfold execOp;simp only[h1,T];first|(simp[go_sem];done)|(simp[go_sem];omega)|(simp[go_sem, *];done)) rfl
    ·exact Any.sx_load_mid 19 18 _ _ _ _ _ (.plain rfl) rfl rfl (by decide) rfl (by first|assumption|(simp;omega)|omega) (l) underlying162 rfl (by kernel_rfl) rfl
    ·exact Any.st_was 20 1 (.plain rfl) (by first|exact .inl rfl|exact .inr rfl) rfl (by decide) (rfl)
    ·exact Any.st_was 21 5 (.plain rfl) (by first|exact .inl rfl|exact .inr rfl) rfl (by decide) (rfl)
    ·exact Any.sx_two 22 20 21 _ _ _ (.plain rfl) rfl (by decide) (by decide) rfl rfl (fun a w h1 T=>by unfold execOp;simp only[h1,T];first|(simp[go_sem];done)|(simp[go_sem];omega)|(simp[go_sem, *];done)) rfl
    ·exact Any.sx_load_mid 23 22 _ _ _ _ _ (.plain rfl) rfl rfl (by decide) rfl (by first|assumption|(simp;omega)|omega) (g) underlying162 rfl (by kernel_rfl) rfl
    ·exact Any.sx_two 24 19 23 _ _ _ (.plain rfl) rfl (by decide) (by decide) rfl rfl (fun a w h1 T=>by unfold execOp;simp only[h1,T,aY,IU,a3.out,bd];rfl) rfl
    intro f w6 Z o;have D:f 16=T0 (some ⟨b1,L,none⟩) n c:=o 16 rfl;have U:f 17=TY T6 k:=o 17 rfl;have ag:f 18=TZ (some ⟨b1,L+k*4,none⟩):=o 18 rfl;have S:f 19=T1 #[TY T6 x.arg,TY T6 x.op,TY T8 x.mask,TY T8 x.val]:=o 19 rfl;have M:f 20=T0 (some ⟨z,J,none⟩) n c2:=o 20 rfl;have X:f 21=TY T6 k:=o 21 rfl;have ak:f 22=TZ (some ⟨z,J+k*4,none⟩):=o 22 rfl;have ai:f 23=T1 #[TY T6 y.arg,TY T6 y.op,TY T8 y.mask,TY T8 y.val]:=o 23 rfl;have O:f 24=T2 (!q):=o 24 rfl;simp only[Any.fill,bC,bL,aq,aI,aH,bg,bZ,D,U,ag,S,M,X,ak,ai,O];have R:Below w.heap.size w w6:=HB.out.drew.trans (Z.mono (show w.heap.size<=wr.heap.size by omega));clear o D U ag S M X ak ai O Z l g;have H:=Lib.hid R;clear R;cases q with
    |false=>
     have hv:=E.out rfl;have HV:=Lib.hid hv;clear hv;go_wp2_with fail;go_ret;exact⟨iL HV.out.symm,H.out⟩
    |true=>
     go_wp2_with fail;go_roundw
     case rel=>exact⟨k+1,by omega,by go_num,C.out (by first|rfl|trivial),H.out⟩
     case measure=>simp[intOf];omega
   obtain rfl:n=k:=by omega
   have hv:=ab.out d;subst hv;obtain⟨HB,a0⟩:=aA v d;clear v d;go_wp2_with fail;go_ret;exact⟨rfl,HB.out⟩
 have hv:decide (a=b)=false:=aK fun e=>Y (by rw[e])
 rw[hv];have g0:((a.length:Int) != (b.length:Int))=true:=by simp;omega
 generalize a.length=n at*;generalize b.length=m at*;clear hr r Y hv;go_enter func137,ntmps137;go_wp2_with fail;go_ret;exact⟨rfl,aw _ _⟩
theorem FM(x r:Rl)(M:x.conds.length<=1000000)(A:Option Addr)(c:Nat)(H:Option Addr)(L B g:Nat)(w:Ub)(k:B<=w.heap.size)(C:bh w B 4 A x.conds.length (cR x.conds))(y:bh w B 4 H r.conds.length (cR r.conds))
  (v0 v1 v2:Uc)(l:bK w g 80 #[v0,v1,v2,T0 H r.conds.length L]):
  TV 136 #[T1 #[.string x.name,TY T6 x.kind,TY T6 x.num,T0 A x.conds.length c],TZ (some ⟨g,0,none⟩)] w (T2 (x.conds.isEmpty||decide (x.conds=r.conds))):=by
 obtain⟨D,kd,F,cs⟩:=x;obtain⟨_,_,_,G⟩:=r;simp only at M C y l⊢;have i:=(aw w.heap.size w).alloc (ae _) (Ua #[.string D,TY T6 kd,TY T6 F,T0 A cs.length c] 80);have f:(w.alloc (Ua #[.string D,TY T6 kd,TY T6 F,T0 A cs.length c] 80)).heap.size=w.heap.size+1:=by simp
 have d:=fun(W:Ub) (E:Below w.heap.size w W)=>IW cs G M A c H L B W (ax k E.size) (C.below (E.mono k)) (y.below (E.mono k))
 have N:=(l.alloc (Ua #[.string D,TY T6 kd,TY T6 F,T0 A cs.length c] 80)).cell 3;simp only[ao]at N;have J:=l.lt;by_cases z:cs=[]
 ·subst z;obtain⟨b,s,o⟩:=aC i f d;clear i f d;clear C y l;go_enter func136,ntmps136;go_wp2_with fail;go_ret;exact⟨iL (by simp),b.out⟩
 have R:0<cs.length:=fh.2 z;have O:((cs.length:Int)==0)=false:=by simp;omega
 have u:cs.isEmpty=false:=by cases cs with|nil=>exact absurd rfl z|cons a t=>rfl
 rw[u,Bool.false_or];generalize decide (cs=G)=q at*;generalize cs.length=n at*;generalize G.length=m at*;obtain⟨b,s,o⟩:=aC i f d;clear i f d;clear C y l z u;go_enter func136,ntmps136;go_wp2_with fail;refine(o.out _ b.out).mono ?_;rintro e w5 ⟨rfl,p⟩;have j:=b.out.trans (p.mono (by have:=s.out;omega));have v:=Lib.hid j;clear j;clear p;go_wp2_with fail;go_ret;exact⟨iL (by simp),v.out⟩
theorem IT(l:List Rl)(G:l.length<=1000000)(u:∀r∈l,r.conds.length<=1000000)(r:Rl)(A:Option Addr)(c:Nat)(j:Option Addr)(q B:Nat)(w:Ub)(b:B<=w.heap.size)(y:eI w B A l)(v:bh w B 4 j r.conds.length (cR r.conds)):
  TV 83 #[T0 A l.length c,T1 #[.string r.name,TY T6 r.kind,TY T6 r.num,T0 j r.conds.length q]] w (T2 (mE l r)):=by
 have a:=(aw w.heap.size w).alloc (ae _) (Ua #[.string r.name,TY T6 r.kind,TY T6 r.num,T0 j r.conds.length q] 80);have p:=bK.new w 80 #[.string r.name,TY T6 r.kind,TY T6 r.num,T0 j r.conds.length q];have d:=so l G (fun x=>x.conds.isEmpty||decide (x.conds=r.conds)) 136 #[TZ (some ⟨w.heap.size,0,none⟩)] (eU func136 (by kernel_rfl) rfl) A c B _ (ax b a.size) (y.below (a.mono b))
  (fun k D F C W s t=>FM (l.getD k default) r (u _ (gu D)) F C j q B w.heap.size W (ax (ax b a.size) s.size) t (v.below ((a.mono b).trans (s.mono (ax b a.size)))) _ _ _ (p.below s p.lt))
 rw[show(l.any fun x=>x.conds.isEmpty||decide (x.conds=r.conds))=mE l r from rfl]at d;obtain⟨z,kd,E,cs⟩:=r;simp only at d a p⊢;generalize mE l ⟨z,kd,E,cs⟩=hv at*;generalize l.length=n at*;generalize cs.length=m at*;have g:=Lib.hid a;clear a;clear y v p;go_enter func83,ntmps83;go_wp2_with fail;refine d.mono ?_;rintro e w5 ⟨rfl,i⟩;have f:=g.out.trans (i.mono g.out.size);have o:=Lib.hid f;clear f;clear i d;go_wp2_with fail;go_ret;exact⟨rfl,o.out⟩
end
end Go.Proofs.YtfammloeljmplaaGreatDoor
