/- The contract of resolve; conditions: each lemma's own. -/
import Derived.Test.YtfammloeljmplaaGreatDoorZ38
open Go.Value renaming int->TY,pointer->TZ,slice->T0,agg->T1,bool->T2,tuple->T4
open Go.IntKind renaming i64->T6,u32->T7
open Go.Obj renaming cells->Ua
open Go renaming World->Ub,Value->Uc
namespace Go.Proofs.YtfammloeljmplaaGreatDoor
open Go.Proofs.Tryz
set_option maxRecDepth 100000
set_option maxHeartbeats 8000000
set_option linter.unusedVariables false
set_option linter.unusedSimpArgs false
section
open Go.RowKit
def jb:Array Uc:=#[TY T7 0,T2 false,T0 none 0 0,T0 none 0 0,T0 none 0 0,T0 none 0 0,T0 none 0 0,T0 none 0 0,T0 none 0 0]
structure wA(p:Po)(l:List Rw)(pl:Pl):Prop where
 right:kB p=true
 good:gv l
 tab:tT l
 pol:AY p l
 plan:sK p l pl
def Oh(p:Po)(l:List Rw)(w:Ub)(e:Ending)(w':Ub):Prop:=Below w.heap.size w w'/\
 ((∃i k:Int,e=.returned (T4 #[T1 jb,TY T6 i,TY T6 k])/\k≠0)\/(∃a vs,wA p l a/\oT w' a vs/\e=.returned (T4 #[T1 vs,TY T6 0,TY T6 0])))
theorem QN{p:Po}{l:List Rw}(i:∀r∈l,r.nums.length=5)(b:∀r∈p.rules,∀c∈r.conds,c.Ok)(h:Dg p l p.rules.length)(k:p.rules.any (Ak l)=false):tT l/\AY p l:=by
 refine⟨N4 i h.good.up,?_,fun r a=>(lL h.right a).2.1,fun r a c f=>⟨(lL h.right a).2.2.2 c f,b r a c f⟩,fun r a=>?_,fun r a g=>?_⟩
 ·have:=h.right;unfold kB at this;simp only[bG]at this;exact this.1.1
 ·obtain⟨j,e,rfl⟩:=fj a;have:=h.named j e;rwa [aa,ah e]at this
 have d:=tB.1 k r a;unfold Ak at d;rw[bM g,il]at d;have:¬0<r.conds.length:=by simpa using d
 exact cI (by omega)
theorem LY(d:Nat)(x:Bool)(b e:Nat->Uc)(h:∀a,a<5->(b a).oneCell'=true)(c:∀m,m<2->(e m).oneCell'=true):(jy d x b e).all (·.oneCell')=true:=by
 unfold jy;rw[<-Array.all_toList];simp only[fg,Ji,h 0 (by omega),h 1 (by omega),h 2 (by omega),h 3 (by omega),h 4 (by omega),c 0 (by omega),c 1 (by omega)];rfl
structure qS(z:Nat)(w w':Ub):Prop where
 size:w.heap.size<=w'.heap.size
 blk:∀i t cs,z<=i->bK w i t cs->bK w' i t cs
 cond:aU 162 w w'
 prule:aU 80 w w'
 pol:aU 46 w w'
theorem eG(z:Nat):StQ.Frame (qS z):=StQ.frame_of (fun w=>⟨ae _,fun _ _ _ _ h=>h,aU.refl _ _,aU.refl _ _,aU.refl _ _⟩) fun h k=>⟨ax h.size k.size,fun i t cs a b=>k.blk i t cs a (h.blk i t cs a b),h.cond.trans k.cond,h.prule.trans k.prule,h.pol.trans k.pol⟩
theorem uC{z:Nat}{w w':Ub}(h:aS w w'):qS z w w':=⟨h.size,fun i t cs _ a=>a.below h a.lt,aU.grows h,aU.grows h,aU.grows h⟩
def KdR.TO(z:Nat)(t:TypeId)(cs:Array Uc):StQ.KdR (qS z):=⟨fun v w=>∃g,v=T0 (some ⟨g,0,none⟩) 1 1/\z<=g/\bK w g t cs,fun v w w' b ⟨g,e,a,c⟩=>⟨g,e,a,b.blk _ _ _ a c⟩⟩
def KdR.TA(z:Nat):StQ.KdR (qS z):=⟨fun _ _=>True,fun _ _ _ _ _=>trivial⟩
theorem tm{w:Ub}{g a n:Nat}{L:List (Rl×Uc)}{c:Array Uc}{fr:Nat×Nat}(l:∀q∈L,zw w q)(k:w.heap[g]? =some (Ua c 80 fr))(r:∀j v,(L.flatMap Cb)[j]? =some v->c[a+j]? =some v)(t:L.length=n){i:Nat}(s:i<n):
  ∃d e,w.rangeAt g (a+i*4) [.string ((eN L).getD i default).name,TY T6 ((eN L).getD i default).kind,TY T6 ((eN L).getD i default).num,T0 d ((eN L).getD i default).conds.length e]/\fB w 162 4 d ((eN L).getD i default).conds.length (cR ((eN L).getD i default).conds):=by
 have b:i<L.length:=by omega
 have p:(eN L).getD i default=L[i].1:=by simp[eN,aa,cO,ah b]
 obtain⟨d,e,e1,m⟩:=l L[i] (bj _);rw[p];refine⟨d,e,fun j v hv=>?_,m⟩;have o:j<4:=by have:=(cF.1 hv).1;simpa using this
 have h:=jL Cb 4 (fun _=>rfl) (default,T0 none 0 0) L i j b o;have e2:L.getD i (default,T0 none 0 0)=L[i]:=by simp[aa,ah b]
 rw[e2]at h;have f:(Cb L[i])[j]? =some v:=by unfold Cb;rw[e1];exact hv
 simp only[World.cell?,k];rw[eF];exact r _ v (h.trans f)
theorem FB(p:Po)(l:List Rw)(h5:∀r∈l,r.nums.length=5)(hM:∀r∈l,r.name.size<=9223372036854775807)(lc:l.length<=1000000)(ll:p.rules.length<=1000000)(ia:∀r∈p.rules,r.conds.length<=1000000/\r.name.size<=9223372036854775807)(c6:∀r∈p.rules,∀c∈r.conds,c.Ok)
  (A:Option Addr)(c:Nat)(A2:Option Addr)(c2:Nat)(w:Ub)(hp:eI w w.heap.size A p.rules)(hr:jv w w.heap.size A2 l)(ht:kC w):
  Calls prog 14 #[nu p A c,T0 A2 l.length c2] w (Oh p l w):=by
 obtain⟨ir,r2,ok,k4,oe⟩:=cZ zv;have kk:=fun h H=>QN (p:=p) (l:=l) h5 c6 h H
 have e3:=fun(W:Ub) (hW:Below w.heap.size w W)=>FN p l h5 hM lc ll ia c6 A c A2 c2 W ((hp.below hW).more hW.size) ((hr.below hW).more hW.size) (ht.below hW (ae _))
 have hN:=fun hT (W:Ub) (hW:Below w.heap.size w W)=>Al l hT p ll A2 c2 w.heap.size A c W hW.size (hp.below hW) (hr.below hW)
 have h7:=fun G F hR (W:Ub) (hW:Below w.heap.size w W)=>FK p p.rules.length rfl G F c6 hR A c w.heap.size W hW.size (hp.below hW)
 have k7:=fun a5 name (W:Ub) (hW:Below w.heap.size w W)=>te l h5 lc a5 name A2 c2 w.heap.size W hW.size (hr.below hW)
 have px:=fun hg=>Oq (l:=l) h5 hg
 have e6:Below w.heap.size w ((w.alloc (Ua #[TY T6 p.kind,TY T6 p.num,T2 p.x32,T0 A p.rules.length c] 46)).alloc (Ua jb 67)):=((aw _ w).alloc (ae _) _).alloc (by simp) _;have b0:=(bK.new w 46 #[TY T6 p.kind,TY T6 p.num,T2 p.x32,T0 A p.rules.length c]).alloc (Ua jb 67);have b1:bK ((w.alloc (Ua #[TY T6 p.kind,TY T6 p.num,T2 p.x32,T0 A p.rules.length c] 46)).alloc (Ua jb 67)) (w.heap.size+1) 67 jb:=dP w _ _ _;unfold nu at e3 hN h7⊢;generalize hQ:((w.alloc (Ua _ 46)).alloc (Ua jb 67))=W2 at e6 b0 b1;unfold jb at hQ b1;generalize m8:l.length=ln at*;generalize i1:p.rules.length=rn at*;have gl:=e3 W2 e6;obtain⟨et,n0,p5,pk,nv,s5,nb,nq,B0⟩:=ay hQ kk e3 hN h7 k7 px e6 b0;obtain⟨B1,fs,HP,HR,H5,wn,sr,wh,rk⟩:=ay b1 gl hp hr h5 hM ia c6 m8;have b2:=Lib.hid i1;clear kk e3 hN h7 k7 px e6 b0 b1 gl hp hr h5 hM ia c6 m8 i1;clear hQ;go_enter func14,ntmps14;go_wp2_with fail;rw[et.out];refine fs.out.mono ?_;rintro e w3 ⟨⟨i3,k3,rfl,dg⟩,lp⟩;have e5:aS W2 w3:=lp;have b0:=B0.out.below e5 B0.out.lt;have b1:=B1.out.below e5 B1.out.lt;have dp:=nq.out.trans (e5.mono nq.out.size);clear lp e5 et fs p5;by_cases e8:k3=0;rotate_left
 ·have g3:(k3==0)=false:=by simpa using e8
  clear dg;obtain⟨B0,B1,ck,q7⟩:=aB b0 b1 dp e8;clear b0 b1 dp e8;go_wp2_with (refine aR rfl 67 (.tmp 4) (.tmp 31) rfl (w.heap.size+1) jb rfl rfl 67 _ B1.out (by kernel_rfl) rfl (by simp[Value.oneCell',jb]) ?_;intro w7 b7 a6);have ej:=ck.out.grown a6 ck.out.size (fun k e=>by cases e;omega);refine aO (lZ (p:=4) (q:=5) (r:=6) (ty:=67) rfl _ _ (w.heap.size+1) _ _ _ _ _ _ rfl rfl rfl b7 underlying67 rfl (by kernel_rfl)) rfl ?_;exact⟨ej,.inl ⟨i3,k3,rfl,q7.out⟩⟩
 subst e8;have hv:=dg rfl;clear dg;have dd:=pk.out (nb.out hv.good) w3 dp;unfold vo at dd;generalize nl:p.rules.any (Ak l)=bx at*;obtain⟨B0,B1,ck,HV,gc,s7⟩:=aF b0 b1 dp hv dd nl;clear b0 b1 dp hv dd nl;go_wp2_with (refine dv rfl 46 (.tmp 2) rfl w.heap.size rfl 46 #[TY T6 p.kind,TY T6 p.num,T2 p.x32,T0 A rn c] (0,0) _ B0.out underlying46 rfl (by kernel_rfl) ?_);refine gc.out.mono ?_;rintro e w4 ⟨⟨i4,rfl⟩,b3⟩;have e0:aS w3 w4:=b3;have b0:=B0.out.below e0 B0.out.lt;have b1:=B1.out.below e0 B1.out.lt;have b3:=ck.out.trans (e0.mono ck.out.size);clear e0 gc pk ck;cases bx with
 |true=>
  rw[show(!true)=false from rfl];obtain⟨B0,B1,cn⟩:=aC b0 b1 b3;clear b0 b1 b3;go_wp2_with (refine aR rfl 67 (.tmp 4) (.tmp 42) rfl (w.heap.size+1) jb rfl rfl 67 _ B1.out (by kernel_rfl) rfl (by simp[Value.oneCell',jb]) ?_;intro w7 b7 a6);have ej:=cn.out.grown a6 cn.out.size (fun k e=>by cases e;omega);refine aO (lZ (p:=4) (q:=5) (r:=6) (ty:=67) rfl _ _ (w.heap.size+1) _ _ _ _ _ _ rfl rfl rfl b7 underlying67 rfl (by kernel_rfl)) rfl ?_;exact⟨ej,.inl ⟨i4,17,rfl,by decide⟩⟩
 |false=>
  rw[show(!false)=true from rfl];have hv:=HV.out;obtain⟨gp,gb⟩:=n0.out (by rw[<-b2.out];exact hv) rfl;have cc:rn<=500:=by
   have:=hv.right;unfold kB at this;simp only[bG,aV]at this;rw[<-b2.out];exact this.1.2
  have ff:=nv.out (by omega) (fun r hr=>⟨ax (lL hv.right hr).2.2.1 (by omega),(sr.out r hr).2⟩) hv.right w4 b3;clear hv nv n0 s7;obtain⟨B0,B1,cn,fx,ap,bk,D⟩:=az b0 b1 b3 ff gp gb cc;clear b0 b1 b3 ff gp gb cc;go_wp2_with (refine dv rfl 46 (.tmp 2) rfl w.heap.size rfl 46 #[TY T6 p.kind,TY T6 p.num,T2 p.x32,T0 A rn c] (0,0) _ B0.out underlying46 rfl (by kernel_rfl) ?_);refine fx.out.mono ?_;rintro e w5 ⟨C,L,v,n4,hL,ho,rfl,hs⟩;have fd:aS w4 (w5.alloc (Ua #[TY T6 p.kind,TY T6 p.num,T2 p.x32,v] 46)):=(show aS w4 w5 from hs).alloc _;have b0:=B0.out.below fd B0.out.lt;have b1:=B1.out.below fd B1.out.lt;have fi:=cn.out.trans (fd.mono cn.out.size);have d8:=bK.new w5 46 #[TY T6 p.kind,TY T6 p.num,T2 p.x32,v];have m3:(∀q∈L,zw (w5.alloc (Ua #[TY T6 p.kind,TY T6 p.num,T2 p.x32,v] 46)) q)/\∃Av cv,v=T0 Av L.length cv/\L.length<=cv/\cv<=9223372036854775807/\fB (w5.alloc (Ua #[TY T6 p.kind,TY T6 p.num,T2 p.x32,v] 46)) 80 4 Av L.length (L.flatMap Cb):=by
   obtain⟨Av,cv,e1,G,F,h3⟩:=tp ho.2;exact⟨fun q hq=>(ho.1 q hq).keep (aU.alloc _ _),Av,cv,e1,G,F,h3.keep (aU.alloc _ _)⟩
  obtain⟨Y,Av,cv,rfl,tr,t1,U⟩:=m3;have y0:w4.heap.size<=w5.heap.size:=hs.size;clear hs fd ho fx cn;obtain⟨B0,B1,cf,av,HL,T,Z,V⟩:=aD b0 b1 fi n4 hL Y U d8;clear b0 b1 fi n4 hL Y U d8;go_wp2_with fail;generalize E:w5.heap.size=n at*;generalize ra:(w5.alloc (Ua _ 46))=W6 at*;have vm:n<W6.heap.size:=dw V.out;have fq:eT p.kind p.num=true:=bk.out.act;have c7:=fun W=>wy p.kind p.num fq W
  have m5:W6.drew.rangeAt n 0 [TY T6 p.kind,TY T6 p.num]:=fun i x hx=>by
   rw[cV];refine(bK.cell V.out i).trans ?_;match i,hx with
   |0,hx=>exact hx
   |1,hx=>exact hx
  have s1:W6.drew.cell? ⟨n,2,none⟩=some (T2 p.x32):=bK.cell V.out 2;generalize ml:codeA p.kind p.num=cd at*;have lC:=Lib.hid ml;clear ml;clear ra E fq;have ei:=Lib.hid c7;clear c7;refine Any.wp_region_tailD 7 eL (nQ [(49,.eq (TZ (some ⟨n,0,none⟩))),(50,.eq (T1 #[TY T6 p.kind,TY T6 p.num])),(51,.eq (TY T7 cd)),(52,.eq (TZ (some ⟨n,2,none⟩))),(53,.eq (T2 p.x32)),(54,.eq (T1 #[TY T7 cd,T2 p.x32,T0 none 0 0,T0 none 0 0,T0 none 0 0,T0 none 0 0,T0 none 0 0,T0 none 0 0,T0 none 0 0])),(13,.SJ W6.heap.size 67 #[TY T7 0,T2 false,T0 none 0 0,T0 none 0 0,T0 none 0 0,T0 none 0 0,T0 none 0 0,T0 none 0 0,T0 none 0 0])]) (fun _ _=>True) trivial [49,50,51,52,53,54,13] [49,50,51,52,53,54,13] (by kernel_rfl) (by kernel_rfl) (by kernel_rfl) (by kernel_rfl) (by kernel_rfl) (by decide) ⟨?_,?_,?_,?_,?_,?_,?_,trivial⟩ ?_
  ·refine Any.st_j ?_;exact Any.st_old1 49 11 _ _ (.plain rfl) rfl (by decide) rfl (fun a w h=>by unfold execOp;simp only[h];first|(simp[go_sem];done)|(simp[go_sem];omega)|(simp[go_sem, *];done)) (fun _ _=>rfl)
  ·refine Any.st_j ?_;exact Any.sx_load_mid 50 49 _ _ _ _ _ (.plain rfl) rfl rfl (by decide) rfl (by first|assumption|(simp;omega)|omega) (m5) underlying43 rfl (by kernel_rfl) rfl
  ·refine Any.st_j ?_;exact Any.st_callv 51 _ (.plain rfl) rfl rfl func32 (by kernel_rfl) rfl (fun a w h=>by have s3:a.eval (.tmp 50)=_:=h.eqv 50 (by decide) rfl;simp only[aQ,aJ,a8,s3]<;>rfl) (fun W hW=>(ei.out W).mono (fun e w' h=>by obtain⟨rfl,hB⟩:=h;exact⟨_,rfl,rfl,hB⟩))
  ·refine Any.st_j ?_;exact Any.st_old1 52 11 _ _ (.plain rfl) rfl (by decide) rfl (fun a w h=>by unfold execOp;simp only[h];first|(simp[go_sem];done)|(simp[go_sem];omega)|(simp[go_sem, *];done)) (fun _ _=>rfl)
  ·refine Any.st_j ?_;exact Any.sx_load_at 53 52 _ _ _ (.plain rfl) rfl rfl (by decide) rfl (by assumption) (fun w h=>by simp[go_sem,h]) rfl
  ·refine Any.st_j ?_;exact Any.st_built 54 _ _ #[(0,TY T7 cd),(1,T2 p.x32)] (#[TY T7 cd,T2 p.x32,T0 none 0 0,T0 none 0 0,T0 none 0 0,T0 none 0 0,T0 none 0 0,T0 none 0 0,T0 none 0 0]) (.plain rfl) rfl rfl (fun a w h=>by have q0:a.eval (.tmp 51)=_:=h.eqv 51 (by decide) rfl;have sH:a.eval (.tmp 53)=_:=h.eqv 53 (by decide) rfl;simp only[aQ,aJ,a8,q0,sH]<;>rfl) (fun w=>by kernel_rfl) rfl
  ·refine Any.st_j ?_;exact Any.SH 13 _ _ _ _ (.plain rfl) rfl rfl (ae _) (fun W=>by kernel_rfl) rfl
  intro f w7 a6 hf;have pp:f 49=TZ (some ⟨n,0,none⟩):=hf 49 rfl;have p1:f 50=T1 #[TY T6 p.kind,TY T6 p.num]:=hf 50 rfl;have m9:f 51=TY T7 cd:=hf 51 rfl;have la:f 52=TZ (some ⟨n,2,none⟩):=hf 52 rfl;have mu:f 53=T2 p.x32:=hf 53 rfl;have i8:f 54=T1 #[TY T7 cd,T2 p.x32,T0 none 0 0,T0 none 0 0,T0 none 0 0,T0 none 0 0,T0 none 0 0,T0 none 0 0,T0 none 0 0]:=hf 54 rfl;have ss:=hf 13 rfl;simp only[Any.fill,bC,bL,aq,aI,aH,bg,bZ,pp,p1,m9,la,mu,i8];obtain⟨ag,sF,nw,l3⟩:=ss;rw[sF];have dl:aS W6 w7:=(aS.refl W6).drew.trans a6;clear a6 hf pp p1 m9 la mu i8;generalize f 54=y2 at*;have om:=Lib.hid l3;clear l3;go_wp2_with (refine aR rfl 67 (.tmp 13) (.tmp 54) rfl ag #[TY T7 cd,T2 p.x32,T0 none 0 0,T0 none 0 0,T0 none 0 0,T0 none 0 0,T0 none 0 0,T0 none 0 0,T0 none 0 0] rfl rfl 67 _ om.out (by kernel_rfl) rfl (by simp[Value.oneCell']) ?_;intro w8 b8 m1);have ar:aS W6 w8:=R5 (B:=W6.heap.size) dl m1 dl.size (fun k e=>by cases e;exact nw);have hI:w.heap.size<=ag:=by have:=cf.out.size;omega
  have en:ag≠w.heap.size+1:=by have:=dw B1.out;omega
  have kl:=iF.new w (cf.out.trans (ar.mono cf.out.size));have b1:=B1.out.below ar B1.out.lt;have d8:=V.out.below ar V.out.lt;have Y:=fun q hq=>(T.out q hq).keep (aU.grows ar)
  have U:=Z.out.keep (aU.grows ar);have mq:L.length=(C.flatMap (eR p)).length:=by rw[<-HL.out];simp[eN]
  have g9:bK w8 ag 67 (jy cd p.x32 (fun _=>T0 none 0 0) (fun _=>T0 none 0 0)):=b8;have l1:L.length<=9223372036854775807:=by omega
  clear dl m1 b8 ar B0 om T Z B1 V cf ei s1 m5;generalize jp:L.length=J at*;generalize mh:C.length=nk at*;obtain⟨pm,B1,V,T,Z,xm,f7,ed,hA⟩:=ay kl b1 d8 Y U mq g9 jp mh;have hX:=Lib.hid en;clear kl b1 d8 Y U mq g9 jp mh en;go_loopw [15] (fun b4 wr=>∃(j:Nat) (ev:Nat->Uc) (LE:Nat->List (PE×Uc)) (sv:Nat->Uc) (LS:Nat->List PS),b4=TY T6 (rZ (eR p) C j:Nat)/\j<=nk/\iF w wr ev LE sv LS/\bK wr ag 67 (jy cd p.x32 ev sv)/\jz ag w8 wr/\
   (∀a,a<5->(LE a).map (·.1)=(C.take j).flatMap (gH p l a))/\(∀m,m<2->LS m=(C.take j).flatMap (lV p l m))) (fun b4 _=>J - (intOf b4).toNat)
  case atStart=>exact⟨0,_,_,_,_,rfl,by omega,pm.out,f7.out,jz.refl _ _,fun a _=>rfl,fun m _=>rfl⟩
  case round=>
   obtain⟨j,ev,LE,sv,LS,rfl,hj,hO,hY,hK,cl,cm⟩:=hrel;have g0:bK wr n 46 #[TY T6 p.kind,TY T6 p.num,T2 p.x32,T0 Av J cv]:=hK.p.pol _ _ _ V.out;have ea:=g0.cell 3;clear g0;simp only[ao]at ea;by_cases bA:j<nk
   ·have co:j<C.length:=by rw[hA.out];exact bA
    have N:(eN L).length=J:=by rw[<-ed.out];simp[eN]
    have o1:=C4 av.out co;have ch:=fun t ht=>C3 (eR p) C j co t ht
    have cg:=fun t ht=>BY av.out co (t:=t) ht
    have an:=LO (eR p) C j co;have ec:rZ (eR p) C (j+1)=J\/(rZ (eR p) C (j+1)<J/\((eN L).getD (rZ (eR p) C (j+1)) default).name≠C.getD j default):=by
     by_cases e:j+1<C.length
     ·right
      have G:=LR av.out e;have F:=(C3 (eR p) C (j+1) e 0 (C4 av.out e)).1;rw[cP]at F;rw[<-HL.out]at G F;rw[N]at F;exact⟨F,G⟩
     left
     have e2:j+1=C.length:=by omega
     rw[e2,Fo,<-HL.out,N]
    have ni:C.getD j default∈C:=by rw[aa,ah co];exact bj _
    have le:=lK C j co;rw[an]at ec;rw[<-HL.out,N]at ch;rw[<-HL.out]at cg;generalize C.getD j default=key at*;generalize j1:rZ (eR p) C j=oj at*;generalize fz:(eR p key).length=rl at*;have rt:oj+rl<=J:=by have:=(ch (rl - 1) (by omega)).1;omega
    obtain⟨R,d,lf,q3,rfl,e4,hV⟩:=(Z.out.keep hK.p.prule).2 (by omega);have hG:=fun q hq=>(T.out q hq).keep hK.p.cond
    obtain⟨A0,c0,mb,_⟩:=tm hG e4 hV ed.out (i:=oj) (by omega);have s2:wr.cell? ⟨R,d+oj*4,none⟩=some (.string key):=by
     have G:=mb 0 _ rfl;have F:=cg 0 o1;rw[cP]at F;rw[F,cP]at G;exact G
    have t5:oj<J:=by omega
    have tz:=dw e4;have dk:bK wr n 46 #[TY T6 p.kind,TY T6 p.num,T2 p.x32,T0 (some ⟨R,d,none⟩) J cv]:=hK.p.pol _ _ _ V.out;have sg:=dk.lt;have ut:(oj:Int)<=(cv:Nat):=by omega
    clear mb;obtain⟨HO,HY,HK,fb,eu,n7,kw,f6,m6⟩:=ay hO hY hK cl cm ch cg ec le;obtain⟨et,gm,bp,sz,us,o2,xl,M,rv⟩:=ay hG dk hV e4 N an j1 fz ni;clear hO hY hK cl cm ch cg ec le hG dk hV e4 N an j1 fz ni;go_wp2_with fail;clear ea s2;obtain⟨W9,rp⟩:∃W9,W9=wr:=⟨_,rfl⟩;subst rp;have f4:w.heap.size<=W9.heap.size:=HO.out.below.size;go_loopw [15,17] (fun b4 q1 wr=>∃(t:Nat) (v:Uc) (LP:List (PR×Uc)),b4=TY T6 (oj+t:Nat)/\t<=rl/\q1=v/\my W9 wr v LP/\LP.map (·.1)=((eR p key).take t).map mF) (fun b4 _ _=>oj+rl - (intOf b4).toNat)
    case atStart=>exact⟨0,_,[],rfl,by omega,rfl,⟨aw _ _,fun q hq=>(by cases hq),aX _ _ _ _⟩,rfl⟩
    case round=>
     obtain⟨t,v,LP,rfl,ht,rfl,hS,br⟩:=hrel;have al:aS W9 wr:=hS.1;have bl:=gm.out.below al gm.out.lt;have ea:=bl.cell 3;simp only[ao]at ea;have bi:wr.heap[R]? =some (Ua lf 80 q3):=aU.grows (t:=80) al _ _ _ sz.out;have b9:=fun q hq=>(et.out q hq).keep (aU.grows al)
     have ul:R<wr.heap.size:=dw bi;have sl:=bl.lt;by_cases e7:t<rl
     ·have sp:oj+t<J:=by omega
      obtain⟨A',c',bW,oo⟩:=tm b9 bi bp.out ed.out (i:=oj+t) sp;have i9:=kw.out t e7;have nf:=(n7.out t e7).2;have o4:(eR p key).getD t default∈eR p key:=by rw[aa,ah (by rw[M.out];exact e7)];exact bj _
      have c5:=lK (eR p key) t (by rw[M.out];exact e7);rw[<-nf]at o4 c5;rw[i9]at bW;have kp:=zx HV.out.right o4;generalize (eN L).getD (oj+t) default=x at*;have m2:wr.cell? ⟨R,d+(oj+t)*4,none⟩=some (.string key):=bW 0 _ rfl;have t4:LP.length<=1000:=by
       have G:=eQ List.length br;simp only[bu,bJ]at G;have:=M.out;have F:=FG p key;have h3:=b2.out;have h4:=D.out;omega
      have ce:=fun W=>wy x.kind x.num kp W
      have km:((oj+t:Nat):Int)<(J:Nat):=by omega
      have lt:((oj+t:Nat):Int)<=(cv:Nat):=by omega
      generalize pu:oj+t=i at*;clear kp i9 nf;obtain⟨wx,HS,l2,i6,jt,n2,ca,g4,em⟩:=ay al hS br bW oo c5 ce bl bi;have k5:=Lib.hid b9;clear al hS br bW oo c5 ce bl bi b9;go_wp2_with fail;generalize hz:wr.heap.size=z at*;generalize c4:codeA x.kind x.num=O at*;have k1:mF x=⟨x.conds,O⟩:=by rw[<-c4];rfl
      generalize jf:x.conds.length=xn at*;have ez:∀w',qS z wr.drew w'->w'.cell? ⟨n,3,none⟩=some (T0 (some ⟨R,d,none⟩) J cv):=fun w' h=>bK.cell (h.pol _ _ _ g4.out) 3
      have bS:∀w',qS z wr.drew w'->w'.rangeAt R (d+i*4) [.string key,TY T6 x.kind,TY T6 x.num,T0 A' xn c']:=fun w' h jj vv hv=>by
       have G:=h.prule _ _ _ em.out;have F:=i6.out jj vv hv;simp only[World.cell?,em.out]at F;simp only[World.cell?,G];exact F
      have mp:∀w',qS z wr.drew w'->w'.cell? ⟨R,d+i*4+3,none⟩=some (T0 A' xn c'):=fun w' h=>bS w' h 3 _ rfl
      have o:=fun i d1 G F=>Mr.next (P:=fun v' w=>∃u,my W9 w v' (LP++[((⟨x.conds,O⟩:PR),u)])) (Q:=fun w=>my W9 w u17 LP) (i0:=16) (d0:=100) i d1 G F
      obtain⟨HZ,bp,hk,de,ru,m7,up⟩:=az hz ez mp bS k1 jf c4;clear hz ez mp bS k1 jf c4;clear ea;refine StQ.wp_region_st 17 eL (qS z) (eG z) (StQ.kdS [(84,.eq u17),(85,.eq (TZ (some ⟨n,3,none⟩))),(86,.eq (T0 (some ⟨R,d,none⟩) J cv)),(87,.eq (TY T6 i)),(88,.eq (TZ (some ⟨R,d+i*4,none⟩))),(89,.eq (TZ (some ⟨R,d+i*4+3,none⟩))),(90,.eq (T0 A' xn c')),(91,.eq (TZ (some ⟨n,3,none⟩))),(92,.eq (T0 (some ⟨R,d,none⟩) J cv)),(93,.eq (TY T6 i)),(94,.eq (TZ (some ⟨R,d+i*4,none⟩))),(95,.eq (TZ (some ⟨R,d+i*4+1,none⟩))),(96,.eq (T1 #[TY T6 x.kind,TY T6 x.num])),(97,.eq (TY T7 O)),(98,.eq (T1 #[T0 A' xn c',TY T7 O])),(99,KdR.TO z 111 #[T0 A' xn c',TY T7 O]),(100,KdR.TA z)])
       (fun _ _ _ _ _ G F=>StQ.kdS_mono G F) (Mr (fun v' w=>∃u,my W9 w v' (LP++[((⟨x.conds,O⟩:PR),u)])) (fun w=>my W9 w u17 LP) 16 100) ⟨by rw[af (by decide)];exact HS.out.grows (aS.refl wr).drew⟩ [84,85,86,87,88,89,90,91,92,93,94,95,96,97,98,99,100,17] [84,85,86,87,88,89,90,91,92,93,94,95,96,97,98,99,100] (by kernel_rfl) (by kernel_rfl) (by kernel_rfl) (by kernel_rfl) (by kernel_rfl) (by decide) ⟨?_,?_,?_,?_,?_,?_,?_,?_,?_,?_,?_,?_,?_,?_,?_,?_,?_,trivial⟩ ?_
      ·exact StQ.st_eqk (eG z) 84 _ rfl rfl rfl (o 0 84 (by decide) (by decide)) (fun f a w h=>by have ti:a.eval (.tmp 17)=_:=h.was 17 (by decide) rfl;unfold execOp;simp only[ti];first|(simp[go_sem];done)|(simp[go_sem];omega)|(simp[go_sem, *];done))
      ·exact StQ.st_eqk (eG z) 85 _ rfl rfl rfl (o 1 85 (by decide) (by decide)) (fun f a w h=>by have h8:a.eval (.tmp 11)=_:=h.was 11 (by decide) rfl;unfold execOp;simp only[h8];first|(simp[go_sem];done)|(simp[go_sem];omega)|(simp[go_sem, *];done))
      ·exact StQ.st_eqk (eG z) 86 _ rfl rfl rfl (o 2 86 (by decide) (by decide)) (fun f a w h=>by have ls:a.eval (.tmp 85)=_:=h.Sr 85 (by decide) rfl;have ps:a.tmps[85]?.getD undef=TZ (some ⟨n,3,none⟩):=(by have q:a.tmps.getD 85 undef=TZ (some ⟨n,3,none⟩):=ls;simpa using q);unfold execOp;simp only[ls];first|(simp[go_sem,(bp.out w h.frame),ps];done)|(simp[go_sem,(bp.out w h.frame),ps];omega)|(simp[go_sem, *];done))
      ·exact StQ.st_eqk (eG z) 87 _ rfl rfl rfl (o 3 87 (by decide) (by decide)) (fun f a w h=>by have hP:a.eval (.tmp 15)=_:=h.was 15 (by decide) rfl;unfold execOp;simp only[hP];first|(simp[go_sem];done)|(simp[go_sem];omega)|(simp[go_sem, *];done))
      ·exact StQ.st_eqk (eG z) 88 _ rfl rfl rfl (o 4 88 (by decide) (by decide)) (fun f a w h=>by have mo:a.eval (.tmp 86)=_:=h.Sr 86 (by decide) rfl;have j2:a.eval (.tmp 87)=_:=h.Sr 87 (by decide) rfl;have jg:a.tmps[86]?.getD undef=T0 (some ⟨R,d,none⟩) J cv:=(by have q:a.tmps.getD 86 undef=T0 (some ⟨R,d,none⟩) J cv:=mo;simpa using q);have m4:a.tmps[87]?.getD undef=TY T6 i:=(by have q:a.tmps.getD 87 undef=TY T6 i:=j2;simpa using q);unfold execOp;simp only[mo,j2];first|(simp[go_sem,jg,m4];done)|(simp[go_sem,jg,m4];omega)|(simp[go_sem, *];done))
      ·exact StQ.st_eqk (eG z) 89 _ rfl rfl rfl (o 5 89 (by decide) (by decide)) (fun f a w h=>by have j0:a.eval (.tmp 88)=_:=h.Sr 88 (by decide) rfl;have nr:a.tmps[88]?.getD undef=TZ (some ⟨R,d+i*4,none⟩):=(by have q:a.tmps.getD 88 undef=TZ (some ⟨R,d+i*4,none⟩):=j0;simpa using q);unfold execOp;simp only[j0];first|(simp[go_sem,nr];done)|(simp[go_sem,nr];omega)|(simp[go_sem, *];done))
      ·exact StQ.st_eqk (eG z) 90 _ rfl rfl rfl (o 6 90 (by decide) (by decide)) (fun f a w h=>by have ms:a.eval (.tmp 89)=_:=h.Sr 89 (by decide) rfl;have n6:a.tmps[89]?.getD undef=TZ (some ⟨R,d+i*4+3,none⟩):=(by have q:a.tmps.getD 89 undef=TZ (some ⟨R,d+i*4+3,none⟩):=ms;simpa using q);unfold execOp;simp only[ms];first|(simp[go_sem,(hk.out w h.frame),n6];done)|(simp[go_sem,(hk.out w h.frame),n6];omega)|(simp[go_sem, *];done))
      ·exact StQ.st_eqk (eG z) 91 _ rfl rfl rfl (o 7 91 (by decide) (by decide)) (fun f a w h=>by have h8:a.eval (.tmp 11)=_:=h.was 11 (by decide) rfl;unfold execOp;simp only[h8];first|(simp[go_sem];done)|(simp[go_sem];omega)|(simp[go_sem, *];done))
      ·exact StQ.st_eqk (eG z) 92 _ rfl rfl rfl (o 8 92 (by decide) (by decide)) (fun f a w h=>by have lq:a.eval (.tmp 91)=_:=h.Sr 91 (by decide) rfl;have pn:a.tmps[91]?.getD undef=TZ (some ⟨n,3,none⟩):=(by have q:a.tmps.getD 91 undef=TZ (some ⟨n,3,none⟩):=lq;simpa using q);unfold execOp;simp only[lq];first|(simp[go_sem,(bp.out w h.frame),pn];done)|(simp[go_sem,(bp.out w h.frame),pn];omega)|(simp[go_sem, *];done))
      ·exact StQ.st_eqk (eG z) 93 _ rfl rfl rfl (o 9 93 (by decide) (by decide)) (fun f a w h=>by have hP:a.eval (.tmp 15)=_:=h.was 15 (by decide) rfl;unfold execOp;simp only[hP];first|(simp[go_sem];done)|(simp[go_sem];omega)|(simp[go_sem, *];done))
      ·exact StQ.st_eqk (eG z) 94 _ rfl rfl rfl (o 10 94 (by decide) (by decide)) (fun f a w h=>by have ol:a.eval (.tmp 92)=_:=h.Sr 92 (by decide) rfl;have l8:a.eval (.tmp 93)=_:=h.Sr 93 (by decide) rfl;have l6:a.tmps[92]?.getD undef=T0 (some ⟨R,d,none⟩) J cv:=(by have q:a.tmps.getD 92 undef=T0 (some ⟨R,d,none⟩) J cv:=ol;simpa using q);have o6:a.tmps[93]?.getD undef=TY T6 i:=(by have q:a.tmps.getD 93 undef=TY T6 i:=l8;simpa using q);unfold execOp;simp only[ol,l8];first|(simp[go_sem,l6,o6];done)|(simp[go_sem,l6,o6];omega)|(simp[go_sem, *];done))
      ·exact StQ.st_eqk (eG z) 95 _ rfl rfl rfl (o 11 95 (by decide) (by decide)) (fun f a w h=>by have k2:a.eval (.tmp 94)=_:=h.Sr 94 (by decide) rfl;have md:a.tmps[94]?.getD undef=TZ (some ⟨R,d+i*4,none⟩):=(by have q:a.tmps.getD 94 undef=TZ (some ⟨R,d+i*4,none⟩):=k2;simpa using q);unfold execOp;simp only[k2];first|(simp[go_sem,md];done)|(simp[go_sem,md];omega)|(simp[go_sem, *];done))
      ·refine StQ.st_kd 96 rfl rfl rfl fun f a W h=>?_
       have r5:=h.Sr 95 (by decide) rfl;have hx:=run_loadAt_mid (P:=prog) W R (d+i*4+1) 43 [TY T6 x.kind,TY T6 x.num] _ (fun jj vv hv=>by have q:=de.out W h.frame (jj+1) vv;rw[show d+i*4+(jj+1)=d+i*4+1+jj by omega]at q;exact q (by match jj,hv with|0,hv=>exact hv|1,hv=>exact hv)) underlying43 rfl (by kernel_rfl);unfold Oper.wp execOp;simp only[r5,aY,hx,bd];exact⟨_,rfl,rfl,(eG z).refl _,o 12 96 (by decide) (by decide) f a _ _ h.state⟩
      ·refine StQ.st_callv 97 #[T1 #[TY T6 x.kind,TY T6 x.num]] rfl rfl rfl func32 (by kernel_rfl) rfl (fun f a w h=>by have e1:=h.Sr 96 (by decide) rfl;simp only[aQ,aJ,a8,e1]) (fun f a W h=>?_);refine(ca.out W).mono ?_;rintro e w' ⟨rfl,hB⟩;exact⟨_,rfl,fun q hq=>by cases hq;rfl,uC hB,o 13 97 (by decide) (by decide) f a _ _ (h.state.move (fun v hv=>by obtain⟨u,hu⟩:=hv;exact⟨u,hu.grows hB⟩) (fun hv=>hv.grows hB))⟩
      ·refine StQ.st_kd 98 rfl rfl rfl fun f a W h=>?_
       have s8:=h.Sr 90 (by decide) rfl;have rm:=h.Sr 97 (by decide) rfl;have hx:(execOp a.eval {dst:=some 98,op:=.build 111 #[(0,.tmp 90),(1,.tmp 97)],type:=111,pos:= "",after:=#[],guard:=none}).run prog W=.ok (.value (T1 #[T0 A' xn c',TY T7 O])) W:=by unfold execOp;simp only[aQ,aJ,a8,s8,rm];kernel_rfl
       unfold Oper.wp;have n8:=hx;unfold execOp at n8⊢;rw[n8];exact⟨_,rfl,rfl,(eG z).refl _,o 14 98 (by decide) (by decide) f a _ _ h.state⟩
      ·refine StQ.st_kd 99 rfl rfl rfl fun f a W h=>?_
       have rg:=h.Sr 98 (by decide) rfl;have H:∀W:Ub,(Instr.buildSlice 105 1 #[(0,T1 #[T0 A' xn c',TY T7 O])]).run prog W=.ok (T0 (some ⟨W.heap.size,0,none⟩) 1 1) (W.alloc (Ua #[T0 A' xn c',TY T7 O] 111)):=fun W=>by kernel_rfl
       have rs:z<=W.heap.size:=by have:=h.frame.size;have e:wr.drew.heap.size=wr.heap.size:=rfl;have:=HZ.out;omega
       unfold Oper.wp execOp;simp only[aQ,aJ,a8,rg,aY,H W,bd];exact⟨_,rfl,⟨_,rfl,rs,bK.new W _ _⟩,uC ((aS.refl W).alloc _),o 15 99 (by decide) (by decide) f a _ _ (h.state.move (fun v hv=>by obtain⟨u,hu⟩:=hv;exact⟨u,hu.grows ((aS.refl W).alloc _)⟩) (fun hv=>hv.grows ((aS.refl W).alloc _)))⟩
      ·refine StQ.st_kd 100 rfl rfl rfl fun f a W h=>?_
       obtain⟨g,s6,x3,H⟩:=h.kd 99 (by decide) rfl;have tl:=h.Sr 84 (by decide) rfl;have ai:=h.state.st;have ro:f 16=false:=h.notYet;rw[af (by rw[ro];decide)]at ai;have lo:bh W W.heap.size 2 (some ⟨g,0,none⟩) 1 [T0 A' xn c',TY T7 O]:=⟨rfl,fun _=>⟨_,rfl,H.lt,fun j x hx=>by rw[iq,cV,H.cell j];simpa using hx⟩⟩;refine fO W (.tmp 84) (.tmp 99) 105 rfl W9.heap.size 111 ir _ 2 32 underlying105 r2 ok k4 oe rfl (by omega) u17 LP.length (LP.flatMap IJ) tl ai.2.2 W.heap.size (some ⟨g,0,none⟩) 1 1 _ s6 lo (by simp[Value.oneCell']) (by simp only[maxLen];omega) (by omega) ai.1.size ?_;intro v' w' g1 g2 g3;have qb:∀i t cs,z<=i->bK W i t cs->bK w' i t cs:=fun i t cs hz rb=>rb.grown g2 (fun e=>by have G:=pJ HS.out.2.2 e.symm;have F:=HZ.out;omega)
       have h6:aU 162 W w':=aU.grown g2 ai.2.2 (by decide);refine⟨v',rfl,trivial,⟨g2.size,qb,h6,aU.grown g2 ai.2.2 (by decide),aU.grown g2 ai.2.2 (by decide)⟩,⟨?_⟩⟩;rw[StQ.upd_self,aj rfl,StQ.put_same (by rw[h.size];exact(by decide:100<131))];refine⟨T0 A' xn c',ai.1.grown g2 ai.1.size (fun k e=>nH ai.2.2 e),fun q hq=>?_,by simpa[IJ]using g1⟩;rcases bT.1 hq with hq|hq
       ·exact(ai.2.1 q hq).keep h6
       rw[bz]at hq;subst hq;exact⟨A',c',by rw[m7.out],by show fB _ _ _ _ x.conds.length _;rw[m7.out];exact(jt.out.keep h.frame.cond).keep h6⟩
      intro f g w9 q8 p4 bs ⟨a9,o7,hJ⟩;have f3:=hJ.st;rw[aj (bs 16 (by omega)),o7 100]at f3;obtain⟨u,bf⟩:=f3;simp only[Any.fill,bC,bL,aq,aI,aH,bg,bZ];clear q8 p4 bs o7 hJ o;generalize f 84=yd,f 85=ym,f 86=x4,f 87=yn,f 88=yc,f 89=wd,f 90=xd,f 91=yv,f 92=ww,f 93=wo,f 94=y3,f 95=ya,f 96=yy,f 97=wp,f 98=x1,f 99=x5,f 100=f100,f 17=yo at*;clear bp hk de k5 em g4 jt i6 ca;have x0:((i:Nat):Int)+1=((oj+(t+1):Nat):Int):=by omega
      have d7:=Lib.hid bf;clear bf;go_wp2_with fail;go_roundw;case rel=>exact⟨t+1,f100,LP++[(⟨x.conds,O⟩,u)],by first|go_num|(congr 1;omega),by omega,rfl,d7.out,by rw[ew,l2.out,n2.out,ew];show _++[(⟨x.conds,O⟩:PR)]=_++[mF x];rw[ru.out]⟩
      case measure=>simp[intOf];omega
     obtain rfl:t=rl:=by omega
     obtain⟨Ap,cp,rfl,he⟩:=PL.slice hS.2;rw[bI (by rw[M.out];exact ae _)]at br;rw[br]at he;have lm:LP.length=t:=by
      have G:=eQ List.length br;simpa[M.out]using G
     have es:=f6.out;have wl:w.heap.size<=wr.heap.size:=ax f4 al.size;have a5:=(nb.out HV.out.good).rise;rw[rk.out]at a5;have b5:=s5.out a5 key wr (HO.out.below.trans (al.mono f4));unfold pA at b5;have os:=HO.out.grows al;have lw:=HY.out.below al HY.out.lt;have pl:=HK.out.trans (jz.grows al);rw[lm];have lb:∃x∈l,x.name=key:=by
      obtain⟨x,tt,e⟩:=fD ((av.out.all key).1 rv.out);obtain⟨r,hr,hn,_⟩:=rQ (p:=p) (k:=key) (x:=x) (by rw[e];simp);obtain⟨y,hy,e2⟩:=bk.out.named r hr;exact⟨y,hy,e2.trans hn⟩
     clear f6 HO HY HK;have d4:=bl;have fa:=M.out;clear fa;obtain⟨HS,l2,q4,d5,r1,i7,s9,mm,hF⟩:=ay hS br he b5 os lw pl lb es;have d9:=Lib.hid d4;clear hS br he b5 os lw pl lb es d4;have es:=hF.out;rcases es with hE|⟨hE,sn⟩
     case' inl=>
      have x2:decide (((oj+t:Nat):Int)<(J:Nat))=false:=aK (by omega);have t2:decide (oj+t<J)=false:=aK (by omega);generalize pu:oj+t=i at*;clear hF;go_wp2_with fail
     case' inr=>
      obtain⟨A',c',bW,_⟩:=tm b9 bi bp.out ed.out (i:=oj+t) hE;have m2:=bW 0 _ rfl;rw[cP]at m2;generalize ((eN L).getD (oj+t) default).name=sm at*;have km:((oj+t:Nat):Int)<(J:Nat):=by omega
      have lt:((oj+t:Nat):Int)<=(cv:Nat):=by omega
      have vb:(sm.toList==key.toList)=false:=ve sn;generalize pu:oj+t=i at*;clear hF bW;go_wp2_with fail
     all_goals
      refine d5.out.mono ?_;rintro e k6 ⟨⟨nm,a0,a1,a2,a3,a4,mx,sb,ri,is,rfl,ld⟩,gs⟩;have fv:aS wr k6:=gs;obtain⟨ow,nx⟩:=aA ld fv;clear ld fv;clear gs;go_wp2_with fail;have n9:is=true:=by
       cases is with
       |true=>rfl
       |false=>
        obtain⟨x,hx,q2⟩:=mm.out;obtain⟨ii,hC,rfl⟩:=GF hx;exact absurd q2 ((ow.out.no rfl).1 ii hC)
      subst n9;have hU:=(BJ ap.out.names ow.out).1 rfl;obtain⟨ii,hC,e2,_⟩:=js ap.out mm.out;have g5:(⟨nm,[a0,a1,a2,a3,a4],mx,sb⟩:Rw)∈l:=by rw[hU,e2];exact qq hC
      have gr:=ap.out.mux _ g5;have E:aS wr (k6.alloc (Ua #[.string nm,TY T6 a0,TY T6 a1,TY T6 a2,TY T6 a3,TY T6 a4,TY T6 mx,TY T6 sb] 82)):=nx.out.alloc _;have xv:j<=500:=by
       have G:=vA av.out;have F:=b2.out;have h3:=D.out;omega
      have hd:=Oi ⟨nm,[a0,a1,a2,a3,a4],mx,sb⟩ rfl (fun a ha=>by have:=ap.out.hi _ g5 a ha;omega) (by simp only at gr⊢;omega) (by simp only at gr⊢;omega) ((eR p key).map mF) t (by rw[bu,M.out]) o1 (by have G:=FG p key;have F:=M.out;have h3:=b2.out;have h4:=D.out;omega)
       (fun x hx=>by obtain⟨y,hy,rfl⟩:=bt.1 hx;exact IM HV.out.right hy) (fun x hx c hc=>(tQ (fun r hr=>bk.out.conds r hr) key x hx c hc).ok)
       cd p.x32 p.kind p.num _ Ap cp w _ ev sv LE LS n ag (r1.out.grows E) (d9.out.below E d9.out.lt) (i7.out.below E i7.out.lt) hI (q4.out.keep (aU.grows E) (aU.grows E))
       (fun a ha=>by have G:=eQ List.length (fb.out a ha);rw[bu]at G;rw[G];have F:=rS (gH p l a) 1 (qH p l a) (C.take j);rw[bJ]at F;omega)
       (fun m hm=>by rw[eu.out m hm];have F:=rS (lV p l m) 1 (vd p l m) (C.take j);rw[bJ]at F;omega)
      have f0:∀a,Ol ⟨nm,[a0,a1,a2,a3,a4],mx,sb⟩ cd p.x32 ((eR p key).map mF) a=gH p l a key:=fun a=>by rw[L6,<-hU,lC.out]
      have gg:∀m,Om ⟨nm,[a0,a1,a2,a3,a4],mx,sb⟩ ((eR p key).map mF) m=lV p l m key:=fun m=>by rw[PM,<-hU]
      obtain⟨ge,o3,pt,o5⟩:=aB hd f0 gg E;clear hd f0 gg E;refine ge.out.mono ?_;rintro e zs ⟨rfl,gn,rc,s,r0,ab,g6,f5,gf,g8⟩;have f9:=s9.out.trans ((jz.grows o5.out).trans gn);have g7:∀a,a<5->(s a).map (·.1)=(C.take (j+1)).flatMap (gH p l a):=fun a ha=>by
       rw[gf a ha,fb.out a ha,o3.out a,m6.out,bX];simp
      have f1:∀m,m<2->ab m=(C.take (j+1)).flatMap (lV p l m):=fun m hm=>by
       rw[g8 m hm,eu.out m hm,pt.out m,m6.out,bX];simp
      clear gn gf g8 ge d5;obtain⟨pv,nj,ne,p0,j5⟩:=aG f9 g7 f1 g6 f5;clear f9 g7 f1 g6 f5;go_wp2_with fail;go_roundw;case rel=>exact⟨j+1,rc,s,r0,ab,by have h:=o2.out;first|(rw[h];done)|(rw[h];congr 1;omega),by omega,p0.out,j5.out,pv.out,nj.out,ne.out⟩
      case measure=>simp[intOf];omega
   obtain rfl:j=nk:=by omega
   have N:(eN L).length=J:=by rw[<-ed.out];simp[eN]
   have an:rZ (eR p) C j=J:=by rw[<-hA.out,Fo,<-HL.out,N]
   have xe:decide ((J:Int)<(J:Nat))=false:=aK (by omega);have wf:decide (J<J)=false:=aK (by omega);rw[an];rw[bI (by rw[hA.out];exact ae _)]at cl cm;have i5:=hK.y _ _ hX.out.symm B1.out;have vj:n<wr.heap.size:=by have:=hK.p.size;have:=dw V.out;omega
   have fr:∀a,a<5->(LE a).length<=1000000:=fun a ha=>by
    have G:=eQ List.length (cl a ha);rw[bu]at G;rw[G];have F:=rS (gH p l a) 1 (qH p l a) C;have h3:=vA av.out;have h4:=b2.out;have h5:=D.out;omega
   have gt:∀m,m<2->(LS m).length<=1000000:=fun m hm=>by
    rw[cm m hm];have F:=rS (lV p l m) 1 (vd p l m) C;have h3:=vA av.out;have h4:=b2.out;have h5:=D.out;omega
   clear hK V an N bA;clear f7 pm T Z B1;obtain⟨HO,HY,fb,eu,no,pf,nn⟩:=az hO hY cl cm i5 fr gt;clear hO hY cl cm i5 fr gt;go_wp2_with fail;go_loopw [112] (fun eo wr=>∃(a:Nat) (s:Nat->List (PE×Uc)),eo=TY T6 a/\a<=5/\iF w wr ev s sv LS/\bK wr ag 67 (jy cd p.x32 ev sv)/\bK wr (w.heap.size+1) 67 #[TY T7 0,T2 false,T0 none 0 0,T0 none 0 0,T0 none 0 0,T0 none 0 0,T0 none 0 0,T0 none 0 0,T0 none 0 0]/\
    (∀b,b<5->(s b).Perm (LE b))/\(∀b,b<a->(s b).Pairwise fun x y=>x.1.number<=y.1.number)) (fun eo _=>5 - (intOf eo).toNat)
   case atStart=>exact⟨0,LE,rfl,by omega,HO.out,HY.out,no.out,fun b H=>P8 _,fun b H=>absurd H (by omega)⟩
   case round=>
    obtain⟨a,s,rfl,ha,hO,hY,ba,X,ex⟩:=hrel;by_cases bA:a<5
    ·have xf:(a:Int)<5:=by omega
     have ez:=(hY.cell (2+a)).trans (rO cd p.x32 ev sv a bA);have st:=hY.lt;have S:=L3 hO bA (by rw[(X a bA).length_eq];exact pf.out a bA);have ek:=hO.ents a bA;obtain⟨HO,HY,ad,eg,hD,b6,ds⟩:=az hO hY ba X ex S ek;clear hO hY ba X ex S ek;go_wp2_with fail;refine b6.out.mono ?_;rintro e w9 ⟨rfl,l',d6,d2,bf,bs⟩;have ef:=HY.out.grown bs (cY ds.out.2 HY.out (by decide)).symm;have bq:=ad.out.grown bs (cY ds.out.2 ad.out (by decide)).symm;obtain⟨d7,hi,eh,hw,hH⟩:=aG bf ef bq d6 d2;clear bf ef bq d6 d2;go_wp2_with fail;go_roundw;case rel=>
      refine⟨a+1,_,by go_num,by omega,d7.out,hi.out,eh.out,fun b H=>?_,fun b H=>?_⟩
      ·by_cases e:b=a
       ·subst e;rw[fw];exact hw.out.trans (eg.out b H)
       rw[gJ _ _ e];exact eg.out b H
      by_cases e:b=a
      ·subst e;rw[fw];exact hH.out
      rw[gJ _ _ e];exact hD.out b (by omega)
     case measure=>simp[intOf];omega
    obtain rfl:a=5:=by omega
    clear HO HY no;have el:∀b,b<5->((s b).map (·.1)).Perm (C.flatMap (gH p l b)):=fun b H=>by
     rw[<-fb.out b H];exact(X b H).map _
    clear X;obtain⟨HO,HY,ad,h9,hD⟩:=aG hO hY ba el ex;clear hO hY ba el ex;go_wp2_with fail;go_loopw [121] (fun d3 wr=>∃(m:Nat) (ab:Nat->List PS),d3=TY T6 m/\m<=2/\iF w wr ev s sv ab/\bK wr ag 67 (jy cd p.x32 ev sv)/\bK wr (w.heap.size+1) 67 #[TY T7 0,T2 false,T0 none 0 0,T0 none 0 0,T0 none 0 0,T0 none 0 0,T0 none 0 0,T0 none 0 0,T0 none 0 0]/\
     (∀b,b<2->(ab b).Perm (LS b))/\(∀b,b<m->(ab b).Pairwise fun x y=>x.number<=y.number)) (fun d3 _=>2 - (intOf d3).toNat)
    case atStart=>exact⟨0,LS,rfl,by omega,HO.out,HY.out,ad.out,fun b H=>P8 _,fun b H=>absurd H (by omega)⟩
    case round=>
     obtain⟨m,ab,rfl,hm,hO,hY,ba,X,bo⟩:=hrel;by_cases bv:m<2
     ·have vr:(m:Int)<2:=by omega
      have ez:=(hY.cell (7+m)).trans (vz cd p.x32 ev sv m bv);have st:=hY.lt;have S:=L4 hO bv (by rw[(X m bv).length_eq];exact nn.out m bv);have ek:=hO.subs m bv;obtain⟨HO,HY,ad,eg,n5,b6,ds⟩:=az hO hY ba X bo S ek;clear hO hY ba X bo S ek;go_wp2_with fail;refine b6.out.mono ?_;rintro e w9 ⟨rfl,l',d6,d2,bf,bs⟩;have ef:=HY.out.grown bs (cY ds.out HY.out (by decide)).symm;have bq:=ad.out.grown bs (cY ds.out ad.out (by decide)).symm;obtain⟨d7,hi,eh,hw,hH⟩:=aG bf ef bq d6 d2;clear bf ef bq d6 d2;go_wp2_with fail;go_roundw;case rel=>
       refine⟨_,_,_,_,_,_,_,_,_,_,⟨m+1,_,by go_num,by omega,d7.out,hi.out,eh.out,fun b H=>?_,fun b H=>?_⟩,rfl⟩
       ·by_cases e:b=m
        ·subst e;rw[fw];exact hw.out.trans (eg.out b H)
        rw[gJ _ _ e];exact eg.out b H
       by_cases e:b=m
       ·subst e;rw[fw];exact hH.out
       rw[gJ _ _ e];exact n5.out b (by omega)
      case measure=>simp[intOf];omega
     obtain rfl:m=2:=by omega
     have aE:∀b,b<2->(ab b).Perm (C.flatMap (lV p l b)):=fun b H=>by
      rw[<-eu.out b H];exact X b H
     have kt:sK p l ⟨cd,p.x32,[(s 0).map (·.1),(s 1).map (·.1),(s 2).map (·.1),(s 3).map (·.1),(s 4).map (·.1)],[ab 0,ab 1]⟩:=by
      rw[<-lC.out];have hh:∀a,a<5->((s a).map (·.1)).Perm (C.flatMap (gH p l a))/\((s a).map (·.1)).Pairwise fun x y=>x.number<=y.number:=fun a ha=>⟨h9.out a ha,by rw[fQ];exact hD.out a ha⟩
      refine Pu ap.out bk.out av.out _ _ rfl rfl (fun a ha=>?_) (fun m hm=>?_)
      ·match a,ha with
       |0,_=>exact hh 0 (by omega)
       |1,_=>exact hh 1 (by omega)
       |2,_=>exact hh 2 (by omega)
       |3,_=>exact hh 3 (by omega)
       |4,_=>exact hh 4 (by omega)
      match m,hm with
      |0,_=>exact⟨aE 0 (by omega),bo 0 (by omega)⟩
      |1,_=>exact⟨aE 1 (by omega),bo 1 (by omega)⟩
     have f8:=LY cd p.x32 ev sv (fun a ha=>by obtain⟨A9,c9,e9,_⟩:=(hO.ents a ha).slice;rw[e9];rfl) (fun m hm=>by obtain⟨A9,c9,e9,_⟩:=(hO.subs m hm).slice;rw[e9];rfl);have n3:=hO.below;clear X bo aE;generalize h0:jy cd p.x32 ev sv=vs at*;have fu:vs.size=9:=by rw[<-h0];rfl
     obtain⟨HO,HY,ad,rd,n1,li,r4,ci⟩:=aD hO hY ba kt f8 n3 h0 fu;clear hO hY ba kt f8 n3 h0 fu;go_wp2_with (first
      |(refine dv rfl 67 (.tmp 13) rfl ag rfl 67 vs (0,0) _ HY.out underlying67 rfl (by rw[ci.out];kernel_rfl) ?_)
      |(refine aR rfl 67 (.tmp 4) (.tmp 130) rfl (w.heap.size+1) vs rfl rfl 67 _ ad.out (by rw[ci.out];kernel_rfl) (by rw[ci.out];rfl) n1.out ?_;intro w7 b7 a6))
     have ej:=li.out.grown a6 li.out.size (fun k e=>by cases e;omega);have ft:=(HO.out.other a6 ad.out (by omega) (by decide) (by decide) (by decide) (by decide)).Tk cd p.x32;rw[r4.out]at ft;refine aO (lZ (p:=4) (q:=5) (r:=6) (ty:=67) rfl _ _ (w.heap.size+1) _ _ _ _ _ _ rfl rfl rfl b7 underlying67 rfl (by rw[ci.out];kernel_rfl)) rfl ?_;exact⟨ej,.inr ⟨_,vs,⟨HV.out.right,HV.out.good,ap.out,bk.out,rd.out⟩,ft,rfl⟩⟩
end
end Go.Proofs.YtfammloeljmplaaGreatDoor
