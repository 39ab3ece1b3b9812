/- Contracts of the maker's marks and of the vm; conditions: each lemma's own. -/
import Derived.Defers
import Derived.Recover
import Derived.Test.YtfammloeljmplaaGreatDoorZ11
import Derived.Test.YtfammloeljmplaaGreatDoorZ16
open Go.Value renaming int->TY,pointer->TZ,slice->T0,agg->T1,bool->T2,tuple->T4
open Go.IntKind renaming i64->T6,u32->T7,u64->T8,u16->T9
open Go.Obj renaming cells->Ua
open Go renaming World->Ub,Value->Uc
namespace Go.Proofs.YtfammloeljmplaaGreatDoor
open Go.Proofs.Tryz
set_option maxRecDepth 100000
set_option maxHeartbeats 8000000
set_option linter.unusedVariables false
set_option linter.unusedSimpArgs false
section
open Go.RowKit
theorem Ej{P:Program}{b:Array Oper}{rest:List Oper}{o:Oper}{a:Act}{Q:Exit->Act->Ub->Prop}{W:Ub}(c:o.guard=none)(t:TypeId)(m x:Operand)(s:o.op=.lookup t m x false)(d e:TypeId)(i:P.underlying t=some (.map d e))(j:P.underlying d=some (.int T6))
  (r:Nat)(l:List (Int×Uc))(k:Int)(z v:Uc)(y:a.eval m=.map (some r))(u:a.eval x=TY T6 k)(h:ep W r l)(q:(Lit.int T6 k).wf=true)(p:(zeroValue e).run P W=.ok z W)(hv:(IntMaps.look l k).getD z=v)
  (n:wpList P b Q rest (a.put o.dst v) W):wpList P b Q (o::rest) a W:=by
 refine jG c fun K f=>?_
 have g:=gy (P:=P) h t d e i j k z q p;rw[hv]at g;unfold Oper.wp execOp;simp only[s,y,u,aY,g,Result.andThen];exact f _ _ n
theorem Bj(s:Mk)(c:Cd)(wide:Bool)(d e a b:Nat):oA s wide (vY (loAt c) (hiAt c) (nV c.val) (q9 c.val) d e a b)=s.put (mX c wide a b):=by
 cases wide<;>simp[oA,vY,mX,CC]
theorem yl(s:Mk)(c:Cd)(wide:Bool)(d e a b:Nat):oA s wide (qz (loAt c) (hiAt c) (nV c.val) (q9 c.val) d e a b)=s.put (j3 c wide a b):=by
 cases wide<;>simp[oA,qz,j3,CC]
theorem Ek(s:Mk)(c:Cd)(wide:Bool)(a b:Nat):oA s wide (tY (loAt c) (hiAt c) (nV c.val) (q9 c.val) (nV c.mask) (q9 c.mask) a b)=s.put (jc c wide a b):=by
 cases wide<;>simp[oA,tY,jc,CC]
theorem iK{f:FuncId}{a:Func}(d:prog.funcs[f]? =some a)(g:(a.name== "runtime.NumGoroutine")=false)(c:a.body.isNone=false)(args:Array Uc)(w:Ub):(callFunc f args).run prog w=.ok (.enter f args) w:=by
 have b:¬a.name= "runtime.NumGoroutine" :=by simpa using g
 unfold callFunc;simp[d,b];intro e;rw[e]at c;cases c
def Na(gm f:Nat):Uc:=.func (.func f) #[TZ (some ⟨gm,0,none⟩)] #[]
def El(gm:Nat):List (Int×Uc):=[(1,Na gm 315),(2,Na gm 316),(3,Na gm 317),(6,Na gm 318),(7,Na gm 319)]
theorem oR(B gm r:Nat)(s X:Mk)(f:Nat)(c:Cd)(h1:1<=c.op)(h7:c.op<=7)(v:0<=c.arg/\c.arg<=5)(o:c.Ok)(wide:Bool)(i H:Nat)(aE:∀(args:Array Uc) (W:Ub),(callFunc f args).run prog W=.ok (.enter f args) W)
  (C:(IntMaps.look (El gm) c.op).getD .nilFunc=.func (.func f) #[TZ (some ⟨gm,0,none⟩)] #[])
  (O:∀W,iz W B gm r s->Calls prog f #[TZ (some ⟨gm,0,none⟩),T1 (jN (loAt c) (hiAt c) (nV c.val) (q9 c.val) (nV c.mask) (q9 c.mask) wide i H)] W (dZ B gm r X (T4 #[]) W))(w:Ub)(J:iz w B gm r s):
  Calls prog 241 #[TZ (some ⟨gm,0,none⟩),T1 c.vals.toArray,T2 wide,TY T6 i,TY T6 H] w (dZ B gm r X (T4 #[]) w):=by
 have j:=o.val;have n:=o.mask;unfold eC at j n;have e1:(loAt c:Int)=16+8*c.arg:=by unfold loAt;omega
 have e2:(hiAt c:Int)=16+8*c.arg+4:=by unfold hiAt;omega
 have Z:ny c.arg false=(loAt c:Nat):=by unfold ny;rw[af (by omega),e1];simp
 have e4:ny c.arg (!false)=(hiAt c:Nat):=by unfold ny;rw[af (by omega),e2];simp
 have E:=fun(W:Ub)=>JF c.arg (by omega) (by omega) false W
 have y:=fun(W:Ub)=>Nh c.arg (by omega) (by omega) false W
 rw[Z]at E;rw[e4]at y;have k:=fun(W:Ub)=>sR c.val (by omega) W
 have l:=fun(W:Ub)=>sR c.mask (by omega) W
 have el:loAt c<=60:=by omega
 have eh:hiAt c<=60:=by omega
 have t:(Lit.int T6 c.op).wf=true:=WalkArith.wf_i64 (by omega);obtain⟨x,A,d,b⟩:=c;simp only at h1 h7 C v k l j n O t;generalize loAt ⟨x,A,d,b⟩=la at*;generalize hiAt ⟨x,A,d,b⟩=ha at*;have T:nV b=b % 4294967296:=rfl;have q2:q9 b=b / 4294967296:=rfl;have U:nV d=d % 4294967296:=rfl;have Y:q9 d=d / 4294967296:=rfl;rw[<-T,<-q2]at k;rw[<-U,<-Y]at l;generalize nV b=lo at*;generalize q9 b=hi at*;generalize nV d=ml at*;generalize q9 d=mh at*;clear T q2 U Y e1 e2 Z e4 o j n;generalize Eo x=er at*;have hl:=J.lt;show Calls prog _ #[TZ (some ⟨gm,0,none⟩),T1 #[TY T6 x,TY T6 A,TY T8 d,TY T8 b],T2 wide,TY T6 i,TY T6 H] w _
 let D:Ub:=(w.alloc (Ua #[TY T6 x,TY T6 A,TY T8 d,TY T8 b] 162)).alloc (Ua (jN la ha lo hi ml mh wide i H) 396);have m:Below w.heap.size w D:=((aw _ _).alloc (ae _) _).alloc (by simp) _;have z:D.heap.size=w.heap.size+2:=by simp[D]
 let G:Ub:=D.alloc (.map (IntMaps.lit T6 (El gm)) (El gm).length);have a:Below w.heap.size w G:=m.alloc m.size _;have u:=J.grows a;have q:=Fr.grows (B:=B) (gm:=gm) (r:=r) a (ax J.gm (dS hl.1));have p1:=O G u;have F:ep G (w.heap.size+2) (El gm):=by
  show G.heap[w.heap.size+2]? =_
  rw[<-z];exact cq D _
 obtain⟨R,M,V⟩:=aC q F p1;clear q F p1;clear J u m a z O;go_enter func241,ntmps241;go_wp2_with (first
  |(go_at_call 21;(with_reducible refine(k _).mono ?_);rintro e L ⟨rfl,rfl⟩)
  |(go_at_call 21;(with_reducible refine(l _).mono ?_);rintro e L ⟨rfl,rfl⟩)
  |(go_at_call 242;refine(E _).mono ?_;rintro e L ⟨rfl,rfl⟩)
  |(go_at_call 314;refine(y _).mono ?_;rintro e L ⟨rfl,rfl⟩)
  |refine IntMaps.wpList_make rfl 399 rfl T6 _ ?_
  |refine nz rfl 399 (.tmp 53) _ T6 _ _ rfl _ _ underlying399 underlying3 _ _ rfl rfl (by show Value.map (some _)=Value.map (some _);simp) rfl ?_
  |refine Ej rfl 399 (.tmp 64) (.tmp 66) rfl 3 398 underlying399 underlying3 (w.heap.size+2) (El gm) A .nilFunc (.func (.func f) #[TZ (some ⟨gm,0,none⟩)] #[]) rfl rfl M.out t (by kernel_rfl) C ?_)
 refine V.out.mono ?_;rintro e w6 ⟨rfl,p,g⟩;have g:=R.out.trans g;obtain⟨N,S⟩:=aA p g;clear p g;clear V;go_wp2_with fail;go_end0;exact⟨rfl,N.out,S.out⟩
theorem GQ(B gm r:Nat)(s:Mk)(c:Cd)(e:uO c)(wide:Bool)(a b:Nat)(d:(s.put (jY c wide a b)).mu<=1000000)(w:Ub)(g:iz w B gm r s):
  Calls prog 241 #[TZ (some ⟨gm,0,none⟩),T1 c.vals.toArray,T2 wide,TY T6 a,TY T6 b] w (dZ B gm r (s.put (jY c wide a b)) (T4 #[]) w):=by
 unfold jY at d⊢;rcases e.op with⟨h|h|h|h,_⟩|⟨h,_⟩
 ·rw[aj h]at d⊢;refine oR B gm r s _ 315 c (by omega) (by omega) e.arg e.ok wide a b (iK func315 (by kernel_rfl) rfl) (by rw[h];rfl) (fun W f=>?_) w g;rw[<-Bj s c wide (nV c.mask) (q9 c.mask) a b]at d⊢;exact yq B gm r s _ _ _ _ _ _ wide a b d W f
 ·rw[af (by omega),aj h]at d⊢;refine oR B gm r s _ 316 c (by omega) (by omega) e.arg e.ok wide a b (iK func316 (by kernel_rfl) rfl) (by rw[h];rfl) (fun W f=>?_) w g;rw[<-Bj s c wide (nV c.mask) (q9 c.mask) b a]at d⊢;exact CE B gm r s _ _ _ _ _ _ wide a b d W f
 ·rw[af (by omega),af (by omega),aj h]at d⊢;refine oR B gm r s _ 317 c (by omega) (by omega) e.arg e.ok wide a b (iK func317 (by kernel_rfl) rfl) (by rw[h];rfl) (fun W f=>?_) w g;rw[<-yl s c wide (nV c.mask) (q9 c.mask) b a]at d⊢;exact Em B gm r s _ _ _ _ _ _ wide a b d W f
 ·rw[af (by omega),af (by omega),af (by omega),aj h]at d⊢;refine oR B gm r s _ 318 c (by omega) (by omega) e.arg e.ok wide a b (iK func318 (by kernel_rfl) rfl) (by rw[h];rfl) (fun W f=>?_) w g;rw[<-yl s c wide (nV c.mask) (q9 c.mask) a b]at d⊢;exact vZ B gm r s _ _ _ _ _ _ wide a b d W f
 rw[af (by omega),af (by omega),af (by omega),af (by omega)]at d⊢;refine oR B gm r s _ 319 c (by omega) (by omega) e.arg e.ok wide a b (iK func319 (by kernel_rfl) rfl) (by rw[h];rfl) (fun W f=>?_) w g;rw[<-Ek s c wide a b]at d⊢;exact CD B gm r s _ _ _ _ _ _ wide a b d W f
theorem yj{α:Type}[Inhabited α]{l:List α}{k:Nat}(a:k<l.length):l.drop k=l.getD k default::l.drop (k+1):=by
 rw[dm a,aa,ah a];rfl
theorem oQ{α:Type}[Inhabited α]{l:List α}{k:Nat}(a:k<l.length):l.getD k default∈l:=by
 rw[aa,ah a];exact bj a
theorem eP{s s':Mk}{N:Nat}(h:fY s s')(a:s'.mu<=N):s.mu<=N:=ax (Bk h) a
theorem ka{w:Ub}{B gm r:Nat}{s:Mk}(b:iz w B gm r s)(o:Obj):iz (w.alloc o) B gm r s/\Fr B gm r w (w.alloc o):=by
 have a:Below w.heap.size w (w.alloc o):=(aw _ _).alloc (ae _) _;exact⟨b.grows a,Fr.grows a (ax b.gm (dS b.lt.1))⟩
theorem Ei(B gm r:Nat)(wide:Bool)(o:Nat)(l:List PR)(hl:l.length<=1000000)(b8:∀x∈l,x.conds.length<=1000000)(hn:∀x∈l,∀c∈x.conds,uO c)(s:Mk)(hs:(jH wide o l s).mu<=1000000)(A:Option Addr)(c:Nat)(w:Ub)(hm:iz w B gm r s)(hr:Nu w B A l):
  Calls prog 165 #[TZ (some ⟨gm,0,none⟩),T0 A l.length c,T2 wide,TY T6 o] w (dZ B gm r (jH wide o l s) (T4 #[]) w):=by
 have hB:B<=w.heap.size:=ax hm.gm (dS hm.lt.1);have ad:=fun(k:Nat) (t:Mk)=>nW wide o (l.drop k) t
 generalize hX:jH wide o l s=X at*;generalize aE:l.length=n at*;obtain⟨HX,J,cv,HN,HR,bl,HM⟩:=az hX aE b8 hn hr ad hm;clear hX aE b8 hn hr ad hm;go_enter func165,ntmps165;go_wp2_with fail;go_loopw [16] (fun i wr=>∃(k:Nat) (p:Mk),k<=n/\i=TY T6 k/\jH wide o (l.drop k) p=X/\iz wr B gm r p/\Fr B gm r w wr) (fun i _=>n - (intOf i).toNat)
 case atStart=>exact⟨0,s,by omega,rfl,HX.out,HM.out,Fr.refl _ _ _ _⟩
 case round=>
  obtain⟨k,p,hk,rfl,q,ag,O⟩:=hrel;obtain⟨W1,rfl⟩:∃W1,W1=wr:=⟨wr,rfl⟩;have dp:=ag.lt;have d9:=O.below.size;by_cases an:k<n
  ·have d6:(k:Int)<(n:Int):=by omega
   obtain⟨b,ed,A',c',rfl,hb,h0,h1,bb⟩:=(HR.out.below O.below).at_ (k:=k) (by rw[J.out];exact an);have el:b<W1.heap.size:=by omega
   have hd:=yj (l:=l) (k:=k) (by rw[J.out];exact an);have bO:=cv.out _ (oQ (l:=l) (k:=k) (by rw[J.out];exact an));have a4:=HN.out _ (oQ (l:=l) (k:=k) (by rw[J.out];exact an));have bx:=bl.out (k+1);rw[hd]at q;generalize l.getD k default=x at*;obtain⟨C,u⟩:=x;simp only at h0 h1 bb bO a4;have v:jH wide o (⟨C,u⟩::l.drop (k+1)) p=jH wide o (l.drop (k+1)) (lz wide ⟨C,u⟩ p):=rfl;rw[v]at q;have al:(lz wide ⟨C,u⟩ p).mu<=1000000:=eP ((bx _).ext) (by rw[q];exact hs);clear v bx hd;have ak:lz wide ⟨C,u⟩ p=((((gL wide (p.marks+1) C p.mark).goes u).put [bc 5 0 ((gL wide (p.marks+1) C p.mark).to u) 0]).put [du (p.marks+1)]):=rfl;generalize lz wide ⟨C,u⟩ p=R at*;generalize hY:gL wide (p.marks+1) C p.mark=Y at*;have e3:fY ((Y.goes u).put [bc 5 0 (Y.to u) 0]) R:=by rw[ak];exact fY.put _ _
   have e2:fY (Y.goes u) R:=(fY.put _ _).trans e3;have e1:fY Y R:=(fY.goes _ _).trans e2;have e0:fY p.mark R:=by
    refine fY.trans ?_ e1;rw[<-hY];exact(kF wide _ C _).ext
   obtain⟨b3,b7⟩:=ka ag (Ua #[T0 A' C.length c',TY T7 u] 111);have b9:=bK.new W1 111 #[T0 A' C.length c',TY T7 u];have d:=ku B gm r p (eP e0 al) _ b3;have N:=fun(j:Nat) (t:Mk)=>kF wide (p.marks+1) (C.drop j) t
   have bp:p.mark.marks=p.marks+1:=rfl;generalize bv:C.length=m at*;have d3:W1.heap.size<W1.heap.size+1:=by omega
   generalize bR:p.marks+1=T at*;obtain⟨co,a0,E1,E2,E3,bf,bs,B9,cn⟩:=ay q ak e1 e2 e3 O b7 b9 bb;obtain⟨cl,a6,av,HY,ek⟩:=aG a4 bv N hY bR;clear q ak e1 e2 e3 O b7 b9 bb a4 bv N hY bR;clear b3 ag bp;go_wp2_with fail;refine d.mono ?_;rintro e w2 ⟨rfl,bN,ap⟩;have a7:=ap.blk B9.out (by decide) (by omega) (by omega);have a2:=bf.out.trans (bs.out.trans ap);have d0:w2.cell? ⟨W1.heap.size,0,none⟩=some (T0 A' m c'):=a7.cell 0;have br:=bs.out.trans ap;obtain⟨b0,b4,cp,cg⟩:=aB a7 a2 bN br;clear a7 a2 bN br;clear ap d;go_wp2_with fail;go_loopw [25] (fun i w3=>∃(j:Nat) (a:Mk),j<=m/\i=TY T6 j/\gL wide T (C.drop j) a=Y/\iz w3 B gm r a/\Fr B gm r w2 w3) (fun i _=>m - (intOf i).toNat)
   case atStart=>exact⟨0,p.mark,by omega,rfl,HY.out,cp.out,Fr.refl _ _ _ _⟩
   case round=>
    obtain⟨j,a,hj,rfl,F,Z,M⟩:=hrel;have dd:=Z.lt;have en:W1.heap.size+1<=w2.heap.size:=(b0.out).lt;have d7:w2.heap.size<=wr.heap.size:=M.below.size;have ci:Below B W1 wr:=cg.out.below.trans M.below;by_cases a5:j<m
    ·have ei:(j:Int)<(m:Int):=by omega
     obtain⟨b2,c6,rfl,eg,q0,q1,q2,q3⟩:=(cn.out.below ci).Ts a5;have c9:b2<wr.heap.size:=by omega
     have c0:=cl.out _ (oQ (l:=C) (k:=j) (by rw[a6.out];exact a5));have bW:=yj (l:=C) (k:=j) (by rw[a6.out];exact a5);have a1:=av.out (j+1);rw[bW]at F;generalize C.getD j default=y at*;have v:gL wide T (y::C.drop (j+1)) a=gL wide T (C.drop (j+1)) ((a.mark.put (jY y wide (a.marks+1) T)).put [du (a.marks+1)]):=rfl;rw[v]at F;have f3:((a.mark.put (jY y wide (a.marks+1) T)).put [du (a.marks+1)]).mu<=1000000:=eP ((a1 _).ext.trans (by rw[F];exact E1.out)) al;have f2:(a.mark.put (jY y wide (a.marks+1) T)).mu<=1000000:=eP (fY.put _ _) f3;have f1:a.mark.mu<=1000000:=eP (fY.put _ _) f2;obtain⟨bq,bB⟩:=ka Z (Ua y.vals.toArray 162);have bA:=bK.new wr 162 y.vals.toArray;have d:=ku B gm r a f1 _ bq;have D:=fun W hW=>GQ B gm r a.mark y c0 wide (a.marks+1) T f2 W hW
     have g:=fun W hW=>kv B gm r (a.mark.put (jY y wide (a.marks+1) T)) (a.marks+1) f3 W hW
     generalize ((a.mark.put (jY y wide (a.marks+1) T)).put [du (a.marks+1)])=S3 at*;generalize (a.mark.put (jY y wide (a.marks+1) T))=S2 at*;generalize a.marks+1=ys at*;obtain⟨ya,yo,ym,yv⟩:=y;replace D:∀W,iz W B gm r a.mark->Calls prog 241 #[TZ (some ⟨gm,0,none⟩),T1 #[TY T6 ya,TY T6 yo,TY T8 ym,TY T8 yv],T2 wide,TY T6 ys,TY T6 T] W (dZ B gm r S2 (T4 #[]) W):=D;replace d:Calls prog 44 #[TZ (some ⟨gm,0,none⟩)] (wr.alloc (Ua #[TY T6 ya,TY T6 yo,TY T8 ym,TY T8 yv] 162)) (dZ B gm r a.mark (TY T6 ys) (wr.alloc (Ua #[TY T6 ya,TY T6 yo,TY T8 ym,TY T8 yv] 162))):=d;simp only at q0 q1 q2 q3;obtain⟨cu,bo,cs,BA,be,L⟩:=aF F M bB bA D g;clear F M bB bA D g;clear bq Z v bW a1 f1 f2 f3;go_wp2_with fail;refine d.mono ?_;rintro e w5 ⟨rfl,V,z⟩;have b5:=z.blk BA.out (by decide) (by omega) (by omega);have k0:w5.cell? ⟨wr.heap.size,0,none⟩=some (TY T6 ya):=b5.cell 0;have k1:w5.cell? ⟨wr.heap.size,1,none⟩=some (TY T6 yo):=b5.cell 1;have k2:w5.cell? ⟨wr.heap.size,2,none⟩=some (TY T8 ym):=b5.cell 2;have k3:w5.cell? ⟨wr.heap.size,3,none⟩=some (TY T8 yv):=b5.cell 3;have b1:=be.out w5 V;have z:=cs.out.trans z;have ex:=b5.lt;obtain⟨bk,B5⟩:=aA z b5;clear z b5;clear d V;go_wp2_with fail;refine b1.mono ?_;rintro e w6 ⟨rfl,H,f⟩;have ab:=L.out w6 H;have f:=bk.out.trans f;have ai:=Lib.hid f;clear f;clear b1 H k0 k1 k2 k3;go_wp2_with fail;refine ab.mono ?_;rintro e w7 ⟨rfl,U,E⟩;have E:=bo.out.trans (ai.out.trans E);obtain⟨ba,bi⟩:=aA E U;clear E U;clear ab;go_wp2_with fail;go_roundw;case rel=>exact⟨j+1,S3,by omega,by go_num,cu.out,bi.out,ba.out⟩
     case measure=>simp[intOf];omega
    obtain rfl:m=j:=by omega
    have G:C.drop m=[]:=kj (by rw[a6.out];exact ae _);rw[G]at F;have F:a=Y:=F;subst F;have ar:=M.blk b0.out (by decide) (by omega) (by omega);have k1:wr.cell? ⟨W1.heap.size,1,none⟩=some (TY T7 u):=ar.cell 1;have ef:=ar.lt;have b6:=ky B gm r a u (eP E2.out al) wr Z;have a3:=fun W hW=>fV (B:=B) (gm:=gm) (r:=r) (s:=a.goes u) [bc 5 0 (a.to u) 0] 1 rfl #[TY T6 0,TY T9 5,TY T7 0,TY T6 (a.to u:Nat),TY T6 0] (by simp[dq,It.vals,bc]) W hW (eP E3.out al)
    have g:=fun W hW=>kv B gm r ((a.goes u).put [bc 5 0 (a.to u) 0]) T (by rw[<-a0.out];exact al) W hW
    rw[<-a0.out]at g;generalize ((a.goes u).put [bc 5 0 (a.to u) 0])=S2 at*;generalize a.goes u=S1 at*;generalize a.to u=eo at*;obtain⟨e7,bS,L,bo⟩:=aB ar a3 g M;clear ar a3 g M;clear Z G;go_wp2_with fail;refine b6.mono ?_;rintro e w5 ⟨rfl,V,z⟩;have S:=bS.out w5 V;have z:=bo.out.trans z;have bk:=Lib.hid z;clear z;clear b6 V;go_wp2_with fail;refine S.mono ?_;rintro e w6 ⟨rfl,H,f⟩;have ab:=L.out w6 H;have f:=bk.out.trans f;have ai:=Lib.hid f;clear f;clear S H;go_wp2_with fail;refine ab.mono ?_;rintro e w7 ⟨rfl,U,E⟩;have E:=b4.out.trans (ai.out.trans E);obtain⟨ba,bi⟩:=aA E U;clear E U;clear ab;go_wp2_with fail;go_roundw;case rel=>exact⟨k+1,R,by omega,by go_num,co.out,bi.out,ba.out⟩
    case measure=>simp[intOf];omega
  obtain rfl:n=k:=by omega
  have G:l.drop n=[]:=kj (by rw[J.out];exact ae _);rw[G]at q;have q:p.put [bc 5 0 o 0]=X:=q;have S:=fV (B:=B) (gm:=gm) (r:=r) (s:=p) [bc 5 0 o 0] 1 rfl #[TY T6 0,TY T9 5,TY T7 0,TY T6 o,TY T6 0] (by simp[dq,It.vals,bc]) _ ag (by rw[q];exact hs);rw[q]at S;have bf:=Lib.hid O;clear O;clear q G ag;go_wp2_with fail;refine S.mono ?_;rintro e w6 ⟨rfl,H,f⟩;have f:=bf.out.trans f;obtain⟨ai,cm⟩:=aA f H;clear f H;clear S;go_wp2_with fail;go_end0;exact⟨rfl,cm.out,ai.out⟩
theorem gh{w:Ub}{B:Nat}{e:TypeId}{size n:Nat}{v:Uc}{xs:List Uc}(h:w.ownsRow B e size v n xs){g:Nat}(a:v.ownBlock=some g):B<=g/\g<w.heap.size/\∃cs fr,w.heap[g]? =some (Ua cs e fr):=by
 rcases h.2 with⟨rfl,_⟩|⟨d,cap,f,rfl,c,b,_⟩
 ·simp[Value.ownBlock]at a
 obtain rfl:d=g:=by simpa[Value.ownBlock]using a
 exact⟨c,dw b,_,_,b⟩
theorem iz.Ss{w w':Ub}{B gm r:Nat}{s:Mk}(h:iz w B gm r s){z:Nat}{e:TypeId}{size n:Nat}{v:Uc}{xs:List Uc}(f:w.ownsRow z e size v n xs)(c:w.grownBy w' v.ownBlock)(l:e≠129)(k:e≠125):iz w' B gm r s:=by
 obtain⟨u,d,i⟩:=h.at_;have e1:some gm≠v.ownBlock:=fun q=>by
  obtain⟨_,_,cs,fr,a⟩:=gh f q.symm;unfold bK at d;rw[d]at a;injection a with a
  injection a with _ a;exact k a.symm
 have e2:some r≠v.ownBlock:=fun q=>by
  obtain⟨_,_,cs,fr,a⟩:=gh f q.symm;have j:=h.row;unfold GMap.Row at j;rw[j]at a;injection a with a
  cases a
 have e3:u.ownBlock=none\/v.ownBlock≠u.ownBlock:=by
  cases o:u.ownBlock with
  |none=>exact .inl rfl
  |some g=>
   refine .inr fun q=>?_
   obtain⟨_,_,cs,fr,a⟩:=gh i o;obtain⟨_,_,m,p,b⟩:=gh f q;rw[a]at b;injection b with b
   injection b with _ b;exact l b.symm
 refine⟨⟨u,d.grown c e1,?_⟩,h.row.grown c e2,h.gm,h.r⟩;rcases e3 with e3|e3
 ·exact i.kept c (.inl e3)
 exact i.kept c (.inr fun q=>e3 q.symm)
theorem Fr.Ss{w w' w0:Ub}{B gm r z:Nat}(h:Fr B gm r w0 w)(o:w0.heap.size<=z){e:TypeId}{size n:Nat}{v:Uc}{xs:List Uc}(l:w.ownsRow z e size v n xs)(a:w.grownBy w' v.ownBlock)(q:B<=w0.heap.size):Fr B gm r w0 w':=by
 have c:∀g,v.ownBlock=some g->z<=g:=fun g e=>(gh l e).1
 refine⟨⟨a.os.trans h.below.os,a.tape.trans h.below.tape,a.output.trans h.below.output,ax h.below.size a.size,fun k b=>?_⟩,fun i d j f m=>?_⟩
 ·have p:=h.below.size;exact(a.block k (by omega) fun e=>by have:=c k e.symm;omega).trans (h.below.block k b)
 exact(a.block i (bn d h.below.size) fun e=>by have:=c i e.symm;omega).trans (h.keep i d j f m)
theorem Fr.own{w w':Ub}{B gm r:Nat}{s:Mk}(h:Fr B gm r w w')(l:iz w B gm r s){z:Nat}{e:TypeId}{size n:Nat}{v:Uc}{xs:List Uc}(b:w.ownsRow z e size v n xs)(j:e≠129)(c:e≠125):w'.ownsRow z e size v n xs:=by
 refine⟨b.1,?_⟩;rcases b.2 with d|⟨g,cap,a,rfl,f,k,i⟩
 ·exact .inl d
 exact .inr ⟨g,cap,a,rfl,f,h.Su l j c g _ _ k,i⟩
theorem mQ{w w':Ub}{z l:Nat}{e j:TypeId}{size n b k:Nat}{v v':Uc}{xs c:List Uc}(h:w.ownsRow z e size v n xs)(m:w.ownsRow l j b v' k c)(d:e≠j)(i:w.grownBy w' v'.ownBlock):w'.ownsRow z e size v n xs:=by
 cases f:v.ownBlock with
 |none=>exact h.kept i (.inl f)
 |some g=>
  refine h.kept i (.inr fun q=>?_);obtain⟨_,_,cs,fr,p⟩:=gh h f;obtain⟨_,_,o,r,a⟩:=gh m (q.symm.trans f);rw[p]at a;injection a with a
  injection a with _ a;exact d a
theorem yZ{w:Ub}{p:Addr}{v:Uc}(h:w.cell? p=some v):p.block<w.heap.size:=fM h
theorem Lh(v:Nat)(g a d:Nat)(b:Uc)(s:Vs)(u:s.Ok)(st:Nat)(i:Option Addr)(j f:Nat)(w:Ub)(o:dx w g 246 23 (jB b s st (T0 i j f)))(F:w.cell? ⟨g+1,0,none⟩=some (TZ (some ⟨g,0,none⟩)))
  (m:dx w a 88 3 [TY T7 0,TY T6 0,T0 none 0 0])(q:dx w d 40 1 [TY T6 0])(G:a<g)(J:d<g)(l:a≠d):
  CallsD prog 118 #[TZ (some ⟨g+1,0,none⟩),TZ (some ⟨a,0,none⟩),TZ (some ⟨d,0,none⟩)] (.panicking [{v:=.iface 248 (T1 #[TY T7 v]),recovered:=false}]) w fun e D w'=>
   e=.returned (T4 #[])/\D=.panicking [{v:=.iface 248 (T1 #[TY T7 v]),recovered:=true}]/\dx w' a 88 3 [TY T7 v,TY T6 st,T0 i j f]/\dx w' d 40 1 [TY T6 0]/\(∀B,B<=a->B<=d->Below B w w'):=by
 refine callsD_of_wpS func118 rfl fun W cs N=>?_
 apply wpS_seq
 apply wpS_region
 simp[wpOpsS,go_sem,recoverD,N,ntmps118,Exit.thenS];have S:∀(n:Int) (w:Ub),(Instr.typeAssert (.iface 248 (T1 #[TY T7 n])) 20 248 true).run prog w=.ok (T4 #[T1 #[TY T7 n],T2 true]) w:=fun _ _=>by first|rfl|kernel_rfl
 refine wpS_of_wp ?_;have t:(#[Value.pointer (some ⟨g+1,0,none⟩),Value.pointer (some ⟨a,0,none⟩),Value.pointer (some ⟨d,0,none⟩)]++((Array.replicate 24 undef).setIfInBounds 3 (.iface 248 (T1 #[TY T7 v]))).setIfInBounds 0 (.iface 248 (T1 #[TY T7 v])))=#[(TZ (some ⟨g+1,0,none⟩)),(TZ (some ⟨a,0,none⟩)),(TZ (some ⟨d,0,none⟩)),(.iface 248 (T1 #[TY T7 v])),undef,undef,(.iface 248 (T1 #[TY T7 v])),undef,undef,undef,undef,undef,undef,undef,undef,undef,undef,undef,undef,undef,undef,undef,undef,undef,undef,undef,undef]:=by simp[Array.replicate,List.replicate]
 rw[t];clear t;have c:=u.len;have V:=o.cell (k:=20) (GV c);have H:=o.frozen 20;have R:=o.cell (k:=21) (yw c);have U:=o.cell (k:=22) (yx c);have O:=o.lt;have T:=yZ F;have a0:=m.cell (k:=0) rfl;have a1:=m.cell (k:=1) rfl;have a2:=m.cell (k:=2) rfl;have X:=q.cell (k:=0) rfl;have e0:=m.frozen 0;have e1:=m.frozen 1;have e2:=m.frozen 2;have Z:=q.frozen 0;have L:=m.lt;have A:=q.lt;obtain⟨C,y,Y⟩:=aC m q o;have n1:a≠g:=by omega
 have n2:d≠g:=by omega
 clear o m q u c;go_wp2_with fail;have z:=((((C.out.far (p:=⟨g,20,none⟩) n1 (TY T7 v)).set_ 0 (TY T7 v)).set_ 1 (TY T6 st)).set_ 2 (T0 i j f)).far (p:=⟨d,0,none⟩) l (TY T6 0);have E:=((((y.out.far (p:=⟨g,20,none⟩) n2 (TY T7 v)).far (p:=⟨a,0,none⟩) (kn l) (TY T7 v)).far (p:=⟨a,1,none⟩) (kn l) (TY T6 st)).far (p:=⟨a,2,none⟩) (kn l) (T0 i j f)).set_ 0 (TY T6 0);have M:∀B,B<=a->B<=d->Below B w _:=fun B r x=>(((((((aw B w).setCell (p:=⟨g,20,none⟩) (by show B<=g;omega) (TY T7 v)).setCell (p:=⟨a,0,none⟩) r (TY T7 v)).setCell (p:=⟨a,1,none⟩) r (TY T6 st)).setCell (p:=⟨a,2,none⟩) r (T0 i j f)).setCell (p:=⟨d,0,none⟩) x (TY T6 0)).alloc (by simp[World.setCell];omega) (Ua #[TY T7 v] 248))
 refine⟨rfl,_,rfl,_,l5 rfl _ _ _,rfl,rfl,z.alloc _,E.alloc _,M⟩
theorem mT{P:Program}{f:FuncId}{a:Func}(d:P.funcs[f]? =some a)(g:(a.name== "runtime.NumGoroutine")=false)(c:a.body.isNone=false)(args:Array Uc)(w:Ub):(callFunc f args).run P w=.ok (.enter f args) w:=by
 have b:¬a.name= "runtime.NumGoroutine" :=by simpa using g
 unfold callFunc;simp[d,b];intro e;rw[e]at c;cases c
theorem Li{d:Nat}(a:16<=d)(b:d<=24):yu d=116:=by unfold yu;rw[af (by omega),aj a]
theorem Lj{d:Nat}(a:25<=d):yu d=115:=by unfold yu;rw[aj a]
def QG(d:List Nat)(i:I)(s:Vs)(g:Nat)(b:Uc)(st q:Nat)(w:Ub)(e:Ending)(w':Ub):Prop:=
 (∃v ld c a,jM i s=some v/\e=JH v/\dx w' g 246 23 (jB b s st ld)/\c<=q+1/\w'.ownsRow (g+2) 3 1 ld c a/\nR g w w')\/
 (∃ld c a,jM i s=none/\e=.returned (T4 #[])/\dx w' g 246 23 (jB b (iC (fun k=>getN d k 4 false) i s) st ld)/\c<=q+1/\w'.ownsRow (g+2) 3 1 ld c a/\nR g w w')
def SimpK(d:Nat):Prop:=d=1\/d=2\/d=13\/d=14\/d=21\/d=25\/d=26\/d=27\/d=28
theorem Rm{d:Nat}(h:SimpK d)(args:Array Uc)(w:Ub):(callFunc (yu d) args).run prog w=.ok (.enter (yu d) args) w:=by
 rcases h with rfl|rfl|rfl|rfl|rfl|rfl|rfl|rfl|rfl
 ·exact mT (f:=184) func184 (by kernel_rfl) rfl args w
 ·exact mT (f:=185) func185 (by kernel_rfl) rfl args w
 ·exact mT (f:=196) func196 (by kernel_rfl) rfl args w
 ·exact mT (f:=197) func197 (by kernel_rfl) rfl args w
 ·exact mT (f:=116) func116 (by kernel_rfl) rfl args w
 all_goals exact mT (f:=115) func115 (by kernel_rfl) rfl args w
def RO(n g:Nat)(b:Uc)(s:Vs)(st:Nat)(ld:Uc)(w:Ub)(cs:Array Uc)(e:Ending)(a:Ub):Prop:=
 e=.returned (TY T7 n)/\dx a w.heap.size 243 cs.size cs.toList/\dx a g 246 23 (jB b s st ld)/\gN g w a
theorem ET(i:I)(f d:Nat)(g:Nat)(b:Uc)(s:Vs)(j:s.Ok)(st:Nat)(ld:Uc)(w:Ub)(a:dx w g 246 23 (jB b s st ld))(cs:Array Uc):
  Calls prog 199 #[TZ (some ⟨g,0,none⟩),F9 i f d (kx i)] (w.alloc (Ua cs 243)) (RO (othN i s) g b s st ld w cs):=
 (KG i f d g b s j st ld _ (a.alloc _)).mono fun e k ⟨h,c⟩=>⟨h,(dx.new w 243 cs cs.toList (bI (ae _))).below c (by simp),(a.alloc _).below c (by have:=a.lt;simp;omega),((gN.refl g w).alloc _).trans (.SC c)⟩
theorem EU(i:I)(z:i.Ok)(f:Nat)(u:kd i=25\/kd i=26\/kd i=27\/kd i=28)(g:Nat)(b:Uc)(s:Vs)(y:s.Ok)(D:s.at_<=1000000)(st:Nat)(ld:Uc)(w:Ub)(v:dx w g 246 23 (jB b s st ld)):
  Calls prog 115 #[TZ (some ⟨g,0,none⟩),F9 i f (kd i) (kx i)] w fun e w'=>e=.returned (T4 #[])/\dx w' g 246 23 (jB b {s with at_:=s.at_+if Ds (kd i) s.a (othN i s)=true then i.jt else i.jf} st ld)/\gN g w w':=by
 have a:=ET i f (kd i) g b s y st ld w v;have t:othN i s<4294967296:=by unfold othN;split;exact y.x;exact z.2.2.2
 have L:=y.a;obtain⟨F,E,G,J⟩:=z;have j:=u32_and_nat s.a (othN i s) L t;generalize othN i s=n at*;generalize kx i=x at*;generalize kd i=d at*;generalize l:Ds d s.a n=C;obtain⟨W,H,B,xk⟩:=i;simp only at F E G J;unfold F9 at a⊢;simp only at a⊢;have p:=Lib.hid a;clear a;have M:=v.lt;clear v;unfold Ds at l;rcases u with rfl|rfl|rfl|rfl<;>cases C<;>simp at l
 all_goals
  try have U:((s.a:Int)==(n:Int))=true:=by simp;omega
  try have q2:((s.a:Int)==(n:Int))=false:=by simp;omega
  try have V:(n:Int)<(s.a:Int):=by omega
  try have q4:¬(n:Int)<(s.a:Int):=by omega
  try have X:(n:Int)<=(s.a:Int):=by omega
  try have S:¬(n:Int)<=(s.a:Int):=by omega
  try have O:(bits .and T7 (s.a:Int) (n:Int) != 0)=true:=by rw[j];simp;omega
  try have q8:(bits .and T7 (s.a:Int) (n:Int) != 0)=false:=by rw[j];simp;omega
  clear l j;go_enter func115,ntmps115;go_wp2_with fail;refine(p.out _).mono ?_;rintro e N ⟨rfl,o,c,q⟩;have g1:=o.cell (k:=1) rfl;have R:=o.cell (k:=2) rfl;have g5:=o.cell (k:=5) rfl;have Y:=c.cell (k:=1) rfl;have T:=c.frozen 1;have Z:=c.cell (k:=2) rfl;have A:=c.lt;obtain⟨r,m⟩:=aA c q;clear o c q p;go_wp2_with fail;go_region
 all_goals
  first|go_end0|(go_wp2_with fail;refine aO (l5 rfl _ _ _) rfl ?_)
  refine⟨rfl,?_,?_⟩
  ·first
    |exact r.out.set_ 1 (TY T6 (s.at_+H:Nat))
    |exact r.out.set_ 1 (TY T6 (s.at_+B:Nat))
  first
   |exact m.out.setCell rfl _
   |exact(m.out.drew).setCell rfl _
   |exact(m.out.setCell rfl _).drew
   |exact(m.out.drewN _).setCell rfl _
theorem NW(i:I)(s:Vs)(v:i.Ok)(f:Nat)(u:kd i=21)(g:Nat)(b:Uc)(st:Nat)(ld:Uc)(w:Ub)(t:s.Ok)(r:dx w g 246 23 (jB b s st ld)):
  Calls prog 116 #[TZ (some ⟨g,0,none⟩),F9 i f (kd i) (kx i)] w fun e w'=>e=.returned (T4 #[])/\dx w' g 246 23 (jB b {s with a:=AQ (kd i) s.a (othN i s)} st ld)/\gN g w w':=by
 have c:=ET i f (kd i) g b s t st ld w r;have o:othN i s<4294967296:=by unfold othN;split;exact t.x;exact v.2.2.2
 have D:=u32_and_nat s.a (othN i s) t.a o;have z:=r.lt;rw[u]at c⊢;generalize othN i s=n at*;generalize kx i=x at*;clear u v r;obtain⟨C,F,B,H⟩:=i;unfold F9 at c⊢;simp only at c⊢;have j:=Lib.hid c;clear c;go_enter func116,ntmps116;go_wp2_with fail;refine(j.out _).mono ?_;rintro e A ⟨rfl,m,d,l⟩;have J:=m.cell (k:=5) rfl;have E:=d.cell (k:=2) rfl;have G:=d.frozen 2;have y:=d.lt;obtain⟨q,p⟩:=aA d l;clear m d l j;go_wp2_with fail;go_end0;exact⟨rfl,q.out.set_ 2 (TY T7 (AQ 21 s.a n:Nat)),p.out.setCell rfl _⟩
theorem Lg(i:I)(y:i.Ok)(H:SimpK (kd i))(z:kd i=1->i.k<=60)(g:Nat)(l:List Nat)(A:∀b∈l,b<256)(m d p:Nat)(M:m<g)(s:Vs)(x:s.Ok)(u:s.at_<=1000000)(st:Nat)(ld:Uc)(q:Nat)(xs:List Uc)(J:q<=1000000)(w:Ub)
  (n:dx w g 246 23 (jB (T0 (some ⟨m,d,none⟩) 64 p) s st ld))(D:bh w w.heap.size 1 (some ⟨m,d,none⟩) 64 (dN l))(j:w.ownsRow (g+2) 3 1 ld q xs)(L:∀k,getN l k 4 false<4294967296):
  Calls prog (yu (kd i)) #[TZ (some ⟨g,0,none⟩),F9 i (yu (kd i)) (kd i) (kx i)] w (QG l i s g (T0 (some ⟨m,d,none⟩) 64 p) st q w):=by
 have goes:∀{f:Nat} {args:Array Uc} {s':Vs},jM i s=none->iC (fun k=>getN l k 4 false) i s=s'->Calls prog f args w (fun e w'=>e=.returned (T4 #[])/\dx w' g 246 23 (jB (T0 (some ⟨m,d,none⟩) 64 p) s' st ld)/\gN g w w')->Calls prog f args w (QG l i s g (T0 (some ⟨m,d,none⟩) 64 p) st q w):=fun C G E=>E.mono fun e w' ⟨a,b,c⟩=>by
  subst G;exact .inr ⟨ld,q,xs,C,a,b,by omega,JG j c (by omega),.SF c⟩
 have ends:∀{f:Nat} {args:Array Uc} {v:Nat},jM i s=some v->Calls prog f args w (fun e w'=>e=JH v/\Below w.heap.size w w')->Calls prog f args w (QG l i s g (T0 (some ⟨m,d,none⟩) 64 p) st q w):=fun C E=>E.mono fun e w' ⟨a,c⟩=>
  .inl ⟨_,ld,q,xs,C,a,n.below c n.lt,by omega,sT j c,.SF (.SC c)⟩
 have st0:kd i≠14->kd i≠15->kd i≠19->jM i s=none:=fun a b c=>by unfold jM;rw[af a,af b,af (fun h=>c h.1)]
 rcases H with h|h|h|h|h|h
 ·rw[h];refine(Nl i y (z h) _ _ _ g l A m d p (by omega) s x st ld q xs J w n D j (L _)).mono fun e w' ⟨a,⟨F,B,r,o⟩,c⟩=>.inr ⟨F,q+1,B,st0 (by omega) (by omega) (by omega),a,?_,ae _,o,c⟩
  have e1:iC (fun k=>getN l k 4 false) i s={s with a:=getN l i.k 4 false}:=by unfold iC;rw[aj h]
  rw[e1];exact r
 ·rw[h];exact goes (st0 (by omega) (by omega) (by omega)) (by unfold iC;simp[h]) (Pg i _ _ _ g _ s x st ld w n)
 ·rw[h];exact goes (st0 (by omega) (by omega) (by omega)) (by unfold iC;simp[h]) (No i _ _ _ g _ s x st ld w n u y.2.2.2)
 ·rw[h];exact ends (by unfold jM;rw[aj h]) (Nn i _ _ _ g w)
 ·rw[Li (by omega) (by omega)];exact goes (st0 (by omega) (by omega) (by omega)) (by unfold iC;simp[h]) (NW i s y _ h g _ st ld w x n)
 have t:25<=kd i:=by omega
 rw[Lj t];exact goes (st0 (by omega) (by omega) (by omega)) (by unfold iC;rw[af (by omega),af (by omega),af (by omega),af (by omega),af (by omega),af (by omega),af (by omega),af (by omega),af (by omega),af (by omega),af (by omega),af (by omega),af (by omega),aj t]) (EU i y _ h g _ s x u st ld w n)
end
end Go.Proofs.YtfammloeljmplaaGreatDoor
