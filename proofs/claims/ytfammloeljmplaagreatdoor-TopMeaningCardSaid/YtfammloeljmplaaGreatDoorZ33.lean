/- Contracts of copies; conditions: each lemma's own. -/
import Derived.Test.YtfammloeljmplaaGreatDoorZ24
import Derived.Test.YtfammloeljmplaaGreatDoorZ26
open Go.Value renaming int->TY,pointer->TZ,slice->T0,agg->T1,bool->T2
open Go.IntKind renaming i64->T6,u64->T8
open Go.Obj renaming cells->Ua
open Go renaming World->Ub,Value->Uc
namespace Go.Proofs.YtfammloeljmplaaGreatDoor
open Go.Proofs.Tryz
set_option maxRecDepth 100000
set_option maxHeartbeats 8000000
set_option linter.unusedVariables false
set_option linter.unusedSimpArgs false
section
open Go.RowKit
theorem KS:(prog.info? 162).map (fun i=>(i.zero,i.size,i.bytes))=some (some (T1 #[TY T6 0,TY T6 0,TY T8 0,TY T8 0]),4,32):=by kernel_rfl
theorem KT(c:Cd)(w:Ub):TV 57 #[T1 c.vals.toArray] w (T1 c.vals.toArray):=by
 obtain⟨g,f,b,i⟩:=c;show Calls prog _ #[T1 #[TY T6 g,TY T6 f,TY T8 b,TY T8 i]] w _
 have a:∀x y,Below w.heap.size w ((w.alloc x).alloc y):=fun x y=>((aw _ _).alloc (ae _) _).alloc (by simp) _
 have d:=Lib.hid a;clear a;go_enter func57,ntmps57;go_wp2_with fail;refine aO (eJ (p:=2) (ty:=162) rfl _ _ (w.heap.size+1) _ _ _ _ rfl (dP _ _ _ _) underlying162 rfl (by kernel_rfl)) rfl ⟨rfl,d.out _ _⟩
theorem rI(W:Ub)(b a:Obj)(cs:Array Uc)(t:TypeId):(((W.alloc b).alloc a).alloc (Ua cs t)).heap[W.heap.size+1+1]? =some (Ua cs t (0,0)):=by
 have:=dP (W.alloc b) a cs t;simpa using this
theorem kf{W:Ub}{B:Nat}{e:TypeId}{size n:Nat}{xs:List Uc}{v:Uc}(h:W.ownsRow B e size v n xs){p:Addr}(j:p.block<B)(u:Uc):(W.setCell p u).ownsRow B e size v n xs:=by
 refine⟨h.1,?_⟩;rcases h.2 with c|⟨g,cap,a,f,b,i,d⟩
 ·exact .inl c
 subst f;exact .inr ⟨g,cap,a,rfl,b,(cK _ _ _ _ (by omega)).trans i,d⟩
def Bw(r:Rl)(w:Ub)(e:Ending)(w':Ub):Prop:=
 ∃a b,e=.returned (T1 #[.string r.name,TY T6 r.kind,TY T6 r.num,T0 a r.conds.length b])/\fB w' 162 4 a r.conds.length (cR r.conds)/\Below w.heap.size w w'
theorem NA(r:Rl)(A:Option Addr)(c:Nat)(hn:r.conds.length<=100000)(w:Ub)(hr:bh w w.heap.size 4 A r.conds.length (cR r.conds)):
  Calls prog 20 #[T1 #[.string r.name,TY T6 r.kind,TY T6 r.num,T0 A r.conds.length c]] w (Bw r w):=by
 obtain⟨i0,a7,aE,ai,ab⟩:=cZ KS;obtain⟨rn,rk,rm,y⟩:=r;simp only at hn hr⊢;generalize hl:y.length=n at*;unfold Bw;simp only[hl];obtain⟨HL,HR⟩:=aA hl hr;clear hl hr;go_enter func20,ntmps20;go_wp2_with fail;refine uf fun W0 b0 b1 b2 s E=>?_
 have ag:=HR.out.below s;have hz:=E;clear HR;obtain⟨N,cg,B0,B1,B2,av⟩:=aF s E b0 b1 b2 ag;clear s E b0 b1 b2 ag;go_loopw [4] (fun i wr=>∃k v,k<=n/\i=TY T6 k/\bK wr (w.heap.size+1+1) 80 #[.string rn,TY T6 rk,TY T6 rm,v]/\wr.ownsRow (w.heap.size+3) 162 4 v k (cR (y.take k))/\Below (w.heap.size+2) W0 wr/\w.heap.size+3<=wr.heap.size) (fun i _=>n - (intOf i).toNat)
 case atStart=>exact⟨0,_,by omega,rfl,B2.out,aX _ _ _ _,aw _ _,by omega⟩
 case round=>
  obtain⟨k,v,hk,rfl,m,d,X,a5⟩:=hrel;have d0:=(B0.out.below X (by omega)).cell 3;have e3:=m.cell 3;simp only[ao]at d0 e3;by_cases S:k<n
  ·have D:=av.out.below (X.mono (by omega));obtain⟨b,F,rfl,hb,bi⟩:=D.SG S;have ad:=nA y k (by rw[HL.out];exact S);generalize O:y.getD k default=o at*;obtain⟨a9,co,bB⟩:=aC ad D O;clear ad D O;go_wp2_with fail;have bW:(k:Int)<(n:Int):=by omega
   refine Any.wp_region_app 11 9 31 [10] eL (nQ [(22,.eq (TZ (some ⟨w.heap.size+1+1,3,none⟩))),(23,.eq v),(24,.eq (TZ (some ⟨w.heap.size,3,none⟩))),(25,.eq (T0 (some ⟨b,F,none⟩) n c)),(26,.eq (TY T6 k)),(27,.eq (TZ (some ⟨b,F+k*4,none⟩))),
    (28,.eq (T1 o.vals.toArray)),(29,.eq (T1 o.vals.toArray)),(30,.row 4 1 o.vals),(32,.eq (TZ (some ⟨w.heap.size+1+1,3,none⟩)))]) [22,23,24,25,26,27,28,29,30,31,32] [22,23,24,25,26,27,28,29,30,31,32] (by kernel_rfl) (by kernel_rfl) (by kernel_rfl) (by kernel_rfl) (by kernel_rfl) (by decide) (by decide) _ rfl rfl rfl (by kernel_rfl)
    (fun C v' w2=>w2.ownsRow (w.heap.size+3) 162 4 v' (k+1) (cR (y.take k)++o.vals)/\C.grownBy w2 v.ownBlock) ?steps ?late ?app ?done
   case steps=>
    refine⟨.inr ?_,.inr ?_,.inr ?_,.inr ?_,.inr ?_,.inr ?_,.inr ?_,.inr ?_,.inr ?_,.inl rfl,.inr ?_,trivial⟩
    ·exact Any.st_old1 22 3 _ _ (.plain rfl) rfl (by decide) rfl (fun a w h=>by unfold execOp;simp only[h];simp[go_sem]) (fun _ _=>rfl)
    ·exact Any.sx_load_at 23 22 _ _ _ (.plain rfl) rfl rfl (by decide) rfl e3 (fun w h=>by simp[go_sem,h]) rfl
    ·exact Any.st_old1 24 1 _ _ (.plain rfl) rfl (by decide) rfl (fun a w h=>by unfold execOp;simp only[h];simp[go_sem]) (fun _ _=>rfl)
    ·exact Any.sx_load_at 25 24 _ _ _ (.plain rfl) rfl rfl (by decide) rfl d0 (fun w h=>by simp[go_sem,h]) rfl
    ·exact Any.st_was 26 4 (.plain rfl) (.inl rfl) rfl (by decide) rfl
    ·exact Any.sx_two 27 25 26 _ _ _ (.plain rfl) rfl (by decide) (by decide) rfl rfl (fun a w h1 h2=>by unfold execOp;simp only[h1,h2];simp[go_sem];omega) rfl
    ·exact Any.sx_load_mid 28 27 _ b (F+k*4) o.vals _ (.plain rfl) rfl rfl (by decide) rfl (show b<wr.heap.size by omega) bi underlying164 rfl (by kernel_rfl) rfl
    ·exact Any.st_callv 29 #[T1 o.vals.toArray] (.plain rfl) rfl rfl func57 rfl rfl (fun a w h=>by have e0:a.eval (.tmp 28)=T1 o.vals.toArray:=h.eqv 28 (by decide) rfl;simp only[aQ,aJ,a8,e0]) (fun W T=>(KT o W).mono (fun e w' h=>⟨_,h.1,rfl,h.2⟩))
    ·exact Any.sx_builtSlice 30 _ 162 1 4 _ #[(0,T1 o.vals.toArray)] o.vals (.plain rfl) rfl rfl (fun a w h=>by have e0:a.eval (.tmp 29)=T1 o.vals.toArray:=h.eqv 29 (by decide) rfl;simp only[aQ,aJ,a8,e0]) (fun w=>by kernel_rfl) rfl rfl
    exact Any.st_old1 32 3 _ _ (.plain rfl) rfl (by decide) rfl (fun a w h=>by unfold execOp;simp only[h];simp[go_sem]) (fun _ _=>rfl)
   case late=>
    exact⟨⟨_,rfl,Any.free_old1 32 3 _ _ rfl rfl (by decide) (by decide) rfl (fun a w h=>by unfold execOp;simp only[h];simp[go_sem]) rfl⟩,trivial⟩
   case app=>
    intro a C h;obtain⟨L,J,hx,ba⟩:JE 4 1 o.vals (a.eval (.tmp 30)) C:=h.at 30 (by decide);refine fO C (.tmp 23) (.tmp 30) 78 rfl (w.heap.size+3) 162 i0 _ 4 32 underlying78 a7 aE ai ab rfl (by omega) v k (cR (y.take k)) (h.eqv 23 (by decide) rfl) (cC h.grows d.drew) C.heap.size L 1 J o.vals hx ba (by simp[Cd.vals,Value.oneCell']) (by simp only[maxLen];omega) (by omega) (ax a5 h.grows.size) ?_;intro v' w' h1 h2 _;exact⟨v',rfl,h1,h2⟩
   case done=>
    intro f C w2 T hf ⟨j,u⟩;have Z:f 32=_:=hf 32 rfl (by decide);obtain⟨A9,c9,H,_⟩:=cX j;rw[H]at j;simp only[Any.fill,bC,bL,aq,aI,aH,H,Z,bg,bZ];have z:=m.drew.below T m.lt;have ai:wr.heap.size<=C.heap.size:=T.size;have ab:=u.size;have l:=z.grown u (fun e=>by have:=(d.lt _ e.symm).1;omega);have M:Below (w.heap.size+2) W0 C:=X.drew.trans (T.mono (by show _<=wr.heap.size;omega));have U:=M.grown u (by omega) (fun g e=>by have:=(d.lt g e).1;omega);have R:=U.setCell (p:=⟨w.heap.size+1+1,3,none⟩) (by simp only;omega) (T0 A9 (k+1) c9);have x:=l.set_ 3 (T0 A9 (k+1) c9);have t:=kf j (p:=⟨w.heap.size+1+1,3,none⟩) (by simp only;omega) (T0 A9 (k+1) c9);have c3:=l.cell 3;have f3:=l.frozen 3;simp only[ao]at c3;have cc:=l.lt;clear hf H Z T u z l M U j d m;generalize f 22=cd,f 23=b7,f 24=b5,f 25=cb,f 26=ce,f 27=bR,f 28=ch,f 29=b6,f 30=ca at*;obtain⟨a3,V,G⟩:=aC R x t;clear R x t;go_wp2_with fail;go_roundw;case rel=>
     refine⟨k+1,_,by omega,by go_num,V.out,?_,a3.out,?_⟩
     ·rw[a9.out,oC];have:=G.out;simpa[cR]using this
     simp[World.setCell];omega
    case measure=>simp[intOf];omega
  obtain rfl:n=k:=by omega
  have B:y.take n=y:=bI (by rw[HL.out];exact ae _);rw[B]at d;obtain⟨L,J,rfl,_⟩:=cX d;have q:=B1.out.below X (by omega);have e0:=m.cell 0;have e1:=m.cell 1;have e2:=m.cell 2;have s0:=q.cell 0;have s1:=q.cell 1;have s2:=q.cell 2;have s3:=q.cell 3;have g0:=q.frozen 0;have g1:=q.frozen 1;have g2:=q.frozen 2;have g3:=q.frozen 3;simp only[ao]at e0 e1 e2 s0 s1 s2 s3;have r4:=(((q.set_ 0 (.string rn)).set_ 1 (TY T6 rk)).set_ 2 (TY T6 rm)).set_ 3 (T0 L n J);have b4:=q.lt;have al:=((((N.out.trans (X.mono (by omega))).setCell (p:=⟨w.heap.size+1,0,none⟩) (by simp only;omega) (.string rn)).setCell (p:=⟨w.heap.size+1,1,none⟩) (by simp only;omega) (TY T6 rk)).setCell (p:=⟨w.heap.size+1,2,none⟩) (by simp only;omega) (TY T6 rm)).setCell (p:=⟨w.heap.size+1,3,none⟩) (by simp only;omega) (T0 L n J);have ak:=kf (kf (kf (kf d (p:=⟨w.heap.size+1,0,none⟩) (by simp only;omega) (.string rn)) (p:=⟨w.heap.size+1,1,none⟩) (by simp only;omega) (TY T6 rk)) (p:=⟨w.heap.size+1,2,none⟩) (by simp only;omega) (TY T6 rm)) (p:=⟨w.heap.size+1,3,none⟩) (by simp only;omega) (T0 L n J);obtain⟨A5,c5,a1,Y⟩:=fB.Sp ak;injection a1 with q1 q2 q3
  obtain rfl:A5=L:=q1.symm;obtain rfl:c5=J:=q3.symm;obtain⟨R1,R4,a6,be⟩:=aB q r4 al Y;clear q r4 al Y;clear ak d m B;go_wp2_with fail;refine aO (eJ (p:=2) (ty:=80) rfl _ _ (w.heap.size+1) _ _ _ _ rfl R4.out underlying80 rfl (by kernel_rfl)) rfl ⟨A5,⟨c5,rfl⟩,be.out,a6.out⟩
theorem KU:(prog.info? 80).map (fun i=>(i.zero,i.size,i.bytes))=some (some (T1 #[.string ⟨#[]⟩,TY T6 0,TY T6 0,T0 none 0 0]),4,56):=by kernel_rfl
def Kd.rule(t:TypeId)(r:Rl):Kd:=⟨fun v w=>∃A c,v=T1 #[.string r.name,TY T6 r.kind,TY T6 r.num,T0 A r.conds.length c]/\fB w t 4 A r.conds.length (cR r.conds),fun _ _ _ d ⟨A,c,b,a⟩=>⟨A,c,b,a.keep (aU.grows d)⟩⟩
def JL(t:TypeId)(r:Rl)(v:Uc)(w:Ub):Prop:=∃A c vs,v=T0 A 1 c/\vs.length=4/\tZ w t r vs/\bh w w.heap.size 4 A 1 vs
def Kd.To(t:TypeId)(r:Rl):Kd:=⟨JL t r,fun _ _ _ a ⟨A,c,vs,e,b,f,d⟩=>⟨A,c,vs,e,b,f.keep (aU.grows a),a.reads d⟩⟩
theorem NC{w:Ub}{t:TypeId}{r:Rl}{vs:List Uc}(h:tZ w t r vs):∀u∈vs,u.oneCell'=true:=by
 obtain⟨A,c,rfl,_⟩:=h;simp[Value.oneCell']
def Ez(p:Po)(w:Ub)(e:Ending)(w':Ub):Prop:=
 ∃a b,e=.returned (nu p a b)/\eI w' w'.heap.size a p.rules/\Below w.heap.size w w'
theorem KV(p:Po)(A:Option Addr)(c:Nat)(hn:p.rules.length<=100000)(U:∀r∈p.rules,r.conds.length<=100000)(w:Ub)(hr:eI w w.heap.size A p.rules):
  Calls prog 7 #[nu p A c] w (Ez p w):=by
 obtain⟨i0,cc,b5,bq,bb⟩:=cZ KU;obtain⟨pk,pn,px,rs⟩:=p;unfold Ez nu;simp only at hn U hr⊢;generalize hl:rs.length=n at*;obtain⟨HL,HR,b6⟩:=aC hl hr U;clear hl hr U;go_enter func7,ntmps7;go_wp2_with fail;refine uf fun W0 b0 b1 b2 C V=>?_
 have bp:=HR.out.below C;have hz:=V;clear HR;obtain⟨ar,d8,B0,B1,B2,bW⟩:=aF C V b0 b1 b2 bp;clear C V b0 b1 b2 bp;go_loopw [4] (fun i wr=>∃k v vss,k<=n/\i=TY T6 k/\bK wr (w.heap.size+1+1) 46 #[TY T6 pk,TY T6 pn,T2 px,v]/\wr.ownsRow (w.heap.size+3) 80 4 v k vss.flatten/\wN 4 (tZ wr 162) (rs.take k) vss/\Below (w.heap.size+2) W0 wr/\w.heap.size+3<=wr.heap.size) (fun i _=>n - (intOf i).toNat)
 case atStart=>exact⟨0,_,[],by omega,rfl,B2.out,aX _ _ _ _,wN.nil,aw _ _,by omega⟩
 case round=>
  obtain⟨k,v,vss,hk,rfl,z,m,y,hB,bi⟩:=hrel;have d0:=(B0.out.below hB (by omega)).cell 3;have e3:=z.cell 3;simp only[ao]at d0 e3;by_cases Y:k<n
  ·obtain⟨b,N,A',c',rfl,hb,h0,h1,h2,h3,bv⟩:=((bW.out.below (hB.mono (by omega)))).at_ (k:=k) (by rw[HL.out];exact Y);have bl:=nA rs k (by rw[HL.out];exact Y);have cl:=b6.out _ (gu (l:=rs) (k:=k) (by rw[HL.out];exact Y));generalize a1:rs.getD k default=d at*;have T:wr.rangeAt b (N+k*4) [.string d.name,TY T6 d.kind,TY T6 d.num,T0 A' d.conds.length c']:=by
    intro j u s;match j,s with
    |0,s=>injection s with s;rw[<-s];exact h0
    |1,s=>injection s with s;rw[<-s];exact h1
    |2,s=>injection s with s;rw[<-s];exact h2
    |3,s=>injection s with s;rw[<-s];exact h3
    |j+4,s=>simp at s
   have c7:(k:Int)<(n:Int):=by omega
   have ca:b<wr.heap.size:=by omega
   obtain⟨ce,c0,cm,a9,a3⟩:=aG bl a1 bv y T;clear bl a1 bv y T;clear h0 h1 h2 h3;go_wp2_with fail;refine Any.wp_region_app 11 9 31 [10] eL (nQ [(22,.eq (TZ (some ⟨w.heap.size+1+1,3,none⟩))),(23,.eq v),(24,.eq (TZ (some ⟨w.heap.size,3,none⟩))),(25,.eq (T0 (some ⟨b,N,none⟩) n c)),(26,.eq (TY T6 k)),(27,.eq (TZ (some ⟨b,N+k*4,none⟩))),
    (28,.eq (T1 #[.string d.name,TY T6 d.kind,TY T6 d.num,T0 A' d.conds.length c'])),(29,.rule 162 d),(30,.To 162 d),(32,.eq (TZ (some ⟨w.heap.size+1+1,3,none⟩)))]) [22,23,24,25,26,27,28,29,30,31,32] [22,23,24,25,26,27,28,29,30,31,32] (by kernel_rfl) (by kernel_rfl) (by kernel_rfl) (by kernel_rfl) (by kernel_rfl) (by decide) (by decide) _ rfl rfl rfl (by kernel_rfl)
    (fun G v' w2=>∃vs,w2.ownsRow (w.heap.size+3) 80 4 v' (k+1) (vss.flatten++vs)/\vs.length=4/\tZ G 162 d vs/\G.grownBy w2 v.ownBlock) ?steps ?late ?app ?done
   case steps=>
    refine⟨.inr ?_,.inr ?_,.inr ?_,.inr ?_,.inr ?_,.inr ?_,.inr ?_,.inr ?_,.inr ?_,.inl rfl,.inr ?_,trivial⟩
    ·exact Any.st_old1 22 3 _ _ (.plain rfl) rfl (by decide) rfl (fun a w h=>by unfold execOp;simp only[h];simp[go_sem]) (fun _ _=>rfl)
    ·exact Any.sx_load_at 23 22 _ _ _ (.plain rfl) rfl rfl (by decide) rfl e3 (fun w h=>by simp[go_sem,h]) rfl
    ·exact Any.st_old1 24 1 _ _ (.plain rfl) rfl (by decide) rfl (fun a w h=>by unfold execOp;simp only[h];simp[go_sem]) (fun _ _=>rfl)
    ·exact Any.sx_load_at 25 24 _ _ _ (.plain rfl) rfl rfl (by decide) rfl d0 (fun w h=>by simp[go_sem,h]) rfl
    ·exact Any.st_was 26 4 (.plain rfl) (.inl rfl) rfl (by decide) rfl
    ·exact Any.sx_two 27 25 26 _ _ _ (.plain rfl) rfl (by decide) (by decide) rfl rfl (fun a w h1 h2=>by unfold execOp;simp only[h1,h2];simp[go_sem];omega) rfl
    ·exact Any.sx_load_mid 28 27 _ b (N+k*4) _ _ (.plain rfl) rfl rfl (by decide) rfl ca a3.out underlying58 rfl (by kernel_rfl) rfl
    ·exact Any.st_callv 29 #[T1 #[.string d.name,TY T6 d.kind,TY T6 d.num,T0 A' d.conds.length c']] (.plain rfl) rfl rfl func20 rfl rfl (fun a w h=>by have e0:a.eval (.tmp 28)=_:=h.eqv 28 (by decide) rfl;simp only[aQ,aJ,a8,e0])
      (fun W M=>(NA d A' c' cl W (((cm.out.more (show w.heap.size<=wr.drew.heap.size from ax (by omega) bi)).drew.below M).more M.size)).mono (fun e w' h=>by
        obtain⟨J,L,h5,h6,h7⟩:=h;exact⟨_,h5,⟨J,L,rfl,h6⟩,h7⟩))
    ·refine Any.st_run (.plain rfl) fun a W hc=>?_
     obtain⟨J,L,e5,h5⟩:∃A c,a.eval (.tmp 29)=T1 #[.string d.name,TY T6 d.kind,TY T6 d.num,T0 A d.conds.length c]/\fB W 162 4 A d.conds.length (cR d.conds):=hc.at 29 (by decide);have be:(Instr.buildSlice 44 1 #[(0,T1 #[.string d.name,TY T6 d.kind,TY T6 d.num,T0 J d.conds.length L])]).run prog W=.ok (T0 (some ⟨W.heap.size,0,none⟩) 1 1) (W.alloc (Ua #[.string d.name,TY T6 d.kind,TY T6 d.num,T0 J d.conds.length L] 80)):=by kernel_rfl
     unfold Oper.wp execOp;simp only[aQ,aJ,a8,e5,aY,be,bd];refine⟨_,rfl,fun d' b3=>?_,(aS.refl W).alloc _⟩;cases b3;exact⟨_,_,[.string d.name,TY T6 d.kind,TY T6 d.num,T0 J d.conds.length L],rfl,rfl,⟨J,L,rfl,h5.keep (aU.alloc _ _)⟩,(gZ W [.string d.name,TY T6 d.kind,TY T6 d.num,T0 J d.conds.length L] 80 4 1 rfl).more (by simp)⟩
    exact Any.st_old1 32 3 _ _ (.plain rfl) rfl (by decide) rfl (fun a w h=>by unfold execOp;simp only[h];simp[go_sem]) (fun _ _=>rfl)
   case late=>
    exact⟨⟨_,rfl,Any.free_old1 32 3 _ _ rfl rfl (by decide) (by decide) rfl (fun a w h=>by unfold execOp;simp only[h];simp[go_sem]) rfl⟩,trivial⟩
   case app=>
    intro a G h;obtain⟨A4,c4,vs,hx,ag,F,cf⟩:JL 162 d (a.eval (.tmp 30)) G:=h.at 30 (by decide);refine fO G (.tmp 23) (.tmp 30) 44 rfl (w.heap.size+3) 80 i0 _ 4 56 underlying44 cc b5 bq bb rfl (by omega) v k vss.flatten (h.eqv 23 (by decide) rfl) (cC h.grows m.drew) G.heap.size A4 1 c4 vs hx cf (NC F) (by simp only[maxLen];omega) (by omega) (ax bi h.grows.size) ?_;intro v' w' h1 h2 _;exact⟨v',rfl,vs,h1,ag,F,h2⟩
   case done=>
    intro f G w2 M hf ⟨vs,q,ag,F,H⟩;have ba:f 32=_:=hf 32 rfl (by decide);obtain⟨A9,c9,ak,_⟩:=cX q;rw[ak]at q;simp only[Any.fill,bC,bL,aq,aI,aH,ak,ba,bg,bZ];have S:=z.drew.below M z.lt;have bq:wr.heap.size<=G.heap.size:=M.size;have bb:=H.size;have o:=S.grown H (fun e=>by have:=(m.lt _ e.symm).1;omega);have ap:Below (w.heap.size+2) W0 G:=hB.drew.trans (M.mono (by show _<=wr.heap.size;omega));have a4:=ap.grown H (by omega) (fun g e=>by have:=(m.lt g e).1;omega);have a2:=a4.setCell (p:=⟨w.heap.size+1+1,3,none⟩) (by simp only;omega) (T0 A9 (k+1) c9);have R:=o.set_ 3 (T0 A9 (k+1) c9);have E:=kf q (p:=⟨w.heap.size+1+1,3,none⟩) (by simp only;omega) (T0 A9 (k+1) c9);have bf:G.ownsRow (w.heap.size+3) 80 4 v k vss.flatten:=cC M m.drew;have Z:aU 162 G (w2.setCell ⟨w.heap.size+1+1,3,none⟩ (T0 A9 (k+1) c9)):=(aU.grown H bf (by decide)).trans (aU.SB o (by decide) _);have D:=(a9.out.imp fun x us hx=>hx.keep ((aU.drew wr).trans (aU.grows M) |>.trans Z)).snoc ag (F.keep Z);have c3:=o.cell 3;have f3:=o.frozen 3;simp only[ao]at c3;have d4:=o.lt;clear hf ak ba M H S o ap a4 q m z bf Z F;generalize f 22=d5,f 23=dl,f 24=de,f 25=d3,f 26=d6,f 27=c2,f 28=d9,f 29=dg,f 30=d1 at*;obtain⟨b9,a5,ab,X⟩:=aB a2 R E D;clear a2 R E D;go_wp2_with fail;go_roundw;case rel=>
     refine⟨k+1,_,vss++[vs],by omega,by go_num,a5.out,?_,?_,b9.out,?_⟩
     ·rw[List.flatten_append];have:=ab.out;simpa using this
     ·rw[ce.out];exact X.out
     simp[World.setCell];omega
    case measure=>simp[intOf];omega
  obtain rfl:n=k:=by omega
  have bo:rs.take n=rs:=bI (by rw[HL.out];exact ae _);rw[bo]at y;obtain⟨A4,c4,rfl,_⟩:=cX m;have B:=B1.out.below hB (by omega);have e0:=z.cell 0;have e1:=z.cell 1;have e2:=z.cell 2;have s0:=B.cell 0;have s1:=B.cell 1;have s2:=B.cell 2;have s3:=B.cell 3;have g0:=B.frozen 0;have g1:=B.frozen 1;have g2:=B.frozen 2;have g3:=B.frozen 3;simp only[ao]at e0 e1 e2 s0 s1 s2 s3;have q0:=B.set_ 0 (TY T6 pk);have q1:=q0.set_ 1 (TY T6 pn);have q2:=q1.set_ 2 (T2 px);have r4:=q2.set_ 3 (T0 A4 n c4);have dd:=B.lt;have bx:=((((ar.out.trans (hB.mono (by omega))).setCell (p:=⟨w.heap.size+1,0,none⟩) (by simp only;omega) (TY T6 pk)).setCell (p:=⟨w.heap.size+1,1,none⟩) (by simp only;omega) (TY T6 pn)).setCell (p:=⟨w.heap.size+1,2,none⟩) (by simp only;omega) (T2 px)).setCell (p:=⟨w.heap.size+1,3,none⟩) (by simp only;omega) (T0 A4 n c4);have br:=kf (kf (kf (kf m (p:=⟨w.heap.size+1,0,none⟩) (by simp only;omega) (TY T6 pk)) (p:=⟨w.heap.size+1,1,none⟩) (by simp only;omega) (TY T6 pn)) (p:=⟨w.heap.size+1,2,none⟩) (by simp only;omega) (T2 px)) (p:=⟨w.heap.size+1,3,none⟩) (by simp only;omega) (T0 A4 n c4);have bs:=(((aU.SB (t:=162) (i:=0) B (by decide) (TY T6 pk)).trans (aU.SB (i:=1) q0 (by decide) (TY T6 pn))).trans (aU.SB (i:=2) q1 (by decide) (T2 px))).trans (aU.SB (i:=3) q2 (by decide) (T0 A4 n c4));obtain⟨J,L,b8,a7⟩:=cX br;injection b8 with b4 eh bS
  obtain rfl:J=A4:=b4.symm;obtain rfl:L=c4:=bS.symm;have O:=(y.imp fun x us hx=>(hx.keep bs).Tp).elems (by omega) a7 HL.out.symm;obtain⟨R1,R4,cb,av⟩:=aB B r4 bx O;clear B r4 bx O;clear br m z y bo bs q0 q1 q2 a7;go_wp2_with fail;refine aO (eJ (p:=2) (ty:=46) rfl _ _ (w.heap.size+1) _ _ _ _ rfl R4.out underlying46 rfl (by kernel_rfl)) rfl ⟨J,⟨L,rfl⟩,av.out,cb.out⟩
end
end Go.Proofs.YtfammloeljmplaaGreatDoor
