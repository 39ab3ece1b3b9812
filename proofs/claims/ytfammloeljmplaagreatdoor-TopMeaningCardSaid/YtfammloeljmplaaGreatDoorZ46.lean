/- The contract of asm.Assemble; conditions: each lemma's own. -/
import Derived.Test.YtfammloeljmplaaGreatDoorZ30
open Go.Value renaming int->TY,pointer->TZ,slice->T0,agg->T1,bool->T2,tuple->T4
open Go.IntKind renaming i64->T6,u32->T7,u16->T9
open Go.Obj renaming cells->Ua
open Go renaming World->Ub,Value->Uc
namespace Go.Proofs.YtfammloeljmplaaGreatDoor
open Go.Proofs.Tryz
set_option maxRecDepth 100000
set_option maxHeartbeats 8000000
set_option linter.unusedVariables false
set_option linter.unusedSimpArgs false
section
open Go.RowKit
def wX(l:List It)(F:Nat->Bool):List I×Nat:=if 4096<plN l F (dR l).length then([],3)else if(fK (kS l F)).2≠0 then([],(fK (kS l F)).2)else(kS l F,0)
def Ot(l:List It)(w:Ub)(e:Ending)(w':Ub):Prop:=
 ∃(F:Nat->Bool) (v:Uc),Laid l F/\e=.returned (T4 #[v,TY T6 ((wX l F).2:Nat)])/\w'.ownsRow w.heap.size 157 4 v (wX l F).1.length (gx (wX l F).1)/\Below w.heap.size w w'
theorem zz(W:Ub)(cs:Array Uc)(t:TypeId)(o:Obj)(j:Nat)(v:Uc)(h:cs[j]? =some v):((W.alloc (Ua cs t)).alloc o).cell? ⟨W.heap.size,j,none⟩=some v:=by
 rw[cz _ _ ⟨W.heap.size,j,none⟩ (by simp),World.cell?_alloc_at _ _ _ _ rfl];exact h
theorem rT{W:Ub}{p:Addr}{v:Uc}(h:W.cell? p=some v)(c b:Obj):((W.alloc c).alloc b).cell? p=some v:=by
 have a:=fM h;rw[cz _ _ p (by simp;omega),cz _ _ p a];exact h
theorem Ou(W:Ub)(a:Obj)(cs:Array Uc)(t:TypeId):((W.alloc a).alloc (Ua cs t)).drew.heap[W.heap.size+1]? =some (Ua cs t (0,0)):=by show((W.heap.push a).push (Ua cs t))[W.heap.size+1]? =_;rw[show W.heap.size+1=(W.heap.push a).size by simp,QT]
theorem Ov{W:Ub}{g:Nat}(h:g<W.heap.size)(b a:Obj):g<((W.alloc b).alloc a).drew.heap.size:=by show g<((W.alloc b).alloc a).heap.size;simp<;>omega
theorem Cg{W:Ub}{g o:Nat}{cs:List Uc}(h:W.rangeAt g o cs)(b a:Obj):((W.alloc b).alloc a).drew.rangeAt g o cs:=fun j v hv=>rT (h j v hv) b a
theorem QP{w:Ub}{B B':Nat}{e:TypeId}{size n:Nat}{xs:List Uc}{v:Uc}(f:B'<=B)(h:w.ownsRow B e size v n xs):w.ownsRow B' e size v n xs:=by
 refine⟨h.1,?_⟩;rcases h.2 with d|⟨g,cap,a,c,b,i⟩
 ·exact .inl d
 exact .inr ⟨g,cap,a,c,ax f b,i⟩
theorem Ow(a b:Nat)(h:b+1<=a)(e:a<=1000000):IntKind.u32.wrap (IntKind.i64.wrap (IntKind.i64.wrap ((a:Int) - (b:Int)) - 1))=((a - b - 1:Nat):Int):=by
 have d:IntKind.i64.wrap ((a:Int) - (b:Int))=(a:Int) - (b:Int):=IntWalk.i64_in _ (by omega);have c:IntKind.i64.wrap ((a:Int) - (b:Int) - 1)=(a:Int) - (b:Int) - 1:=IntWalk.i64_in _ (by omega);rw[d,c];simp[IntKind.wrap,IntKind.bits,IntKind.signed];omega
theorem J3(a b:Nat)(h:b+1<=a)(e:a - b - 1<=255):IntKind.u8.wrap (IntKind.i64.wrap (IntKind.i64.wrap ((a:Int) - (b:Int)) - 1))=((a - b - 1:Nat):Int):=by
 have d:IntKind.i64.wrap ((a:Int) - (b:Int))=(a:Int) - (b:Int):=IntWalk.i64_in _ (by omega);have c:IntKind.i64.wrap ((a:Int) - (b:Int) - 1)=(a:Int) - (b:Int) - 1:=IntWalk.i64_in _ (by omega);rw[d,c];simp[IntKind.wrap,IntKind.bits,IntKind.signed];omega
theorem nO{P:Program}{l:Array Oper}{rest:List Oper}{o:Oper}{a:Act}{Q:Exit->Act->Ub->Prop}(p:o.guard=none)(s x:Operand)(t:TypeId)
  (J:o.op=.call {callee:=.builtin .append,args:=#[s,x],argTypes:=#[t,t]})
  (base:Nat)(e:TypeId)(i:TypeInfo)(z:Uc)(size bytes:Nat)(D:P.underlying t=some (.slice e))(N:P.info? e=some i)(H:i.zero=some z)
  (g:i.size=size)(y:i.bytes=bytes)(A:z.cells.size=size)(r:0<size)
  (w:Ub)(v:Uc)(n:Nat)(xs:List Uc)(M:a.eval s=v)(f:w.ownsRow base e size v n xs)
  (b m c:Nat)(E:b=w.heap.size)(news:List Uc)(O:a.eval x=T0 (some ⟨b,0,none⟩) m c)(L:news.length=m*size)(G:∀u∈news,u.oneCell'=true)
  (q:n+m<=maxLen)(d:(n+m)*bytes<=140737488355328)(j:base<=w.heap.size)
  (h:∀v' w',w'.ownsRow base e size v' (n+m) (xs++news)->Below base w w'->w.heap.size<w'.heap.size->wpList P l Q rest (a.put o.dst v') w'):
  wpList P l Q (o::rest) a ((w.alloc (Ua news.toArray e)).drew):=by
 refine wpList_append_own _ p s x t J base e i z size bytes D N H g y A r v n xs M (f.alloc _).drew ⟨b,0,none⟩ m c news O L (uM w news e b E) G q d (by simp;omega) ?_;intro v' w' C B _;refine h v' w' C ?_ (by have:=B.size;simp at this;omega);refine R5 ((aw base w).alloc j _).drew B (by simp;omega) (fun k F=>?_);exact(f.lt k F).1
def RQ(v:Uc)(B g n cap a t u:Nat)(e b:Int)(i f:List Uc)(c d:Nat):Tmp->Kd:=nQ [(42,.eq v),(43,.eq (T1 #[TY T9 e,TY .u8 0,TY .u8 1,TY T7 b])),(44,.eq (TZ (some ⟨B,9,none⟩))),(45,.eq (TY T6 a)),(46,.eq (TY T6 ((a+1:Nat):Int))),
 (47,.eq (T0 (some ⟨g,0,none⟩) n cap)),(48,.eq (TZ (some ⟨B,6,none⟩))),(49,.eq (TY T6 t)),(50,.eq (TZ (some ⟨g,t*11,none⟩))),(51,.eq (T1 i.toArray)),(52,.eq (T1 #[TY T9 5,TY .u8 0,TY .u8 0,TY T7 c])),
 (53,.eq (TZ (some ⟨B,9,none⟩))),(54,.eq (TY T6 a)),(55,.eq (TY T6 ((a+2:Nat):Int))),(56,.eq (T0 (some ⟨g,0,none⟩) n cap)),(57,.eq (TZ (some ⟨B,7,none⟩))),(58,.eq (TY T6 u)),(59,.eq (TZ (some ⟨g,u*11,none⟩))),(60,.eq (T1 f.toArray)),(61,.eq (T1 #[TY T9 5,TY .u8 0,TY .u8 0,TY T7 d])),
 (62,.row 4 3 [TY T9 e,TY .u8 0,TY .u8 1,TY T7 b,TY T9 5,TY .u8 0,TY .u8 0,TY T7 c,TY T9 5,TY .u8 0,TY .u8 0,TY T7 d])]
theorem Dh(l:List It)(a0:∀x∈l,x.Ok)(hF:fZ l)(A:Option Addr)(n c:Nat)(w:Ub)(U:bh w w.heap.size 5 A n (dq l))(hn:n<=100000):
  Calls prog 18 #[T0 A n c] w (Ot l w):=by
 obtain⟨i0,a4,a1,a5,a3⟩:=cZ BE;have hl:n=l.length:=by have:=U.1;rw[jr]at this;omega
 have cl:(dR l).length<=100000:=by
  have:=xG l l.length (ae _);rw[nZ]at this;omega
 have HL:=Lib.hid hl;clear hl;go_enter func18,ntmps18;go_wp2_with fail;refine(wI l a0 A n c w U (by omega)).mono ?_;rintro e w1 ⟨b,rfl,hb,hB⟩;have c9:b=true:=hb.2 hF;subst c9;clear hb;go_wp2_with fail;refine(Ox l a0 hF A n c w1 ((U.below hB).more hB.size) hn).mono ?_;rintro e w2 ⟨F,g,cap,hL,rfl,hg,bi,cb,fi,cm⟩;have M:=hB.trans (cm.mono hB.size);have eq:=sE l F;by_cases bk:4096<plN l F (dR l).length
 ·have ce:(4096:Int)<(plN l F (dR l).length:Nat):=by omega
  have r:wX l F=([],3):=by unfold wX;rw[aj bk]
  have B:=Lib.hid r;clear r;go_wp2_with fail;go_ret2;exact⟨F,T0 none 0 0,hL,by rw[B.out];rfl,by rw[B.out];exact aX _ _ _ _,M⟩
 have ce:¬(4096:Int)<(plN l F (dR l).length:Nat):=by omega
 obtain⟨N,hN⟩:∃N,N=(dR l).length:=⟨_,rfl⟩;rw[<-hN]at cb cl;rw[<-hN]at ce;rw[<-hN];have V:=Lib.hid hN;have ek:qg l F 0=[]:=rfl;have c3:=bi.lt;have ar:=bk;have b7:=Lib.hid ar;clear hN hB cm ar;go_wp2_with fail;go_loopw [6,24] (fun v i wr=>∃k:Nat,k<=N/\i=TY T6 k/\wr.ownsRow w2.heap.size 157 4 v (plN l F k) (gx (qg l F k))/\dx wr g 155 (cap*11) (fc (lj (dR l) (dY l) (jo l) F (plN l F) fun n=> !reachB l n))/\Below w2.heap.size w2 wr) (fun _ i _=>N - (intOf i).toNat)
 case atStart=>exact⟨0,by omega,rfl,aX _ _ _ _,bi,aw _ _⟩
 case round=>
  obtain⟨k,hk,rfl,D,U,z⟩:=hrel;by_cases e4:k<N
  ·have z0:(0:Int)<=(k:Int):=by omega
   have z1:(k:Int)<(N:Int):=by omega
   have Z:k<(dR l).length:=by have:=V.out;omega
   have G:=rU Z U;have c4:((dR l).getD k default).Ok:=oM (fun x hx=>by unfold dR at hx;exact a0 x (gO.1 hx).1) Z;have R:=sB l F k;have C:=lU l F k;have bo:=Gp l F k;have f3:=sE l F k;have ez:plN l F k<=plN l F N:=jK l F (by omega);have ei:plN l F (k+1)<=plN l F N:=jK l F (by omega);have dk:(dR l).getD k default=gw l k:=rfl;rw[dk]at G c4;have y:(prog.info? 155).map (·.size)=some (11:Nat):=by kernel_rfl
   have et:F k=true->reachB l k=true:=fun h=>(hF.Sq (by omega)).2 (hL.br k h).2.1
   have cn:St.vals ⟨gw l k,dY l k,jo l k,F k,plN l F k,!reachB l k⟩=[TY T6 (gw l k).mark,TY T9 (gw l k).code,TY T7 (gw l k).k,TY T6 (gw l k).tr,TY T6 (gw l k).fa,TY T6 ((gw l k).kd:Nat),TY T6 (dY l k),TY T6 (jo l k),T2 (F k),TY T6 (plN l F k:Nat),T2 (!reachB l k)]:=rfl;rw[cn]at G;have E:=Lib.hid G;clear G cn;generalize hx:gw l k=x at*;obtain⟨xm,xc,xk,xt,xf⟩:=x;generalize hD:It.kd ⟨xm,xc,xk,xt,xf⟩=d at*;simp only at*;have b9:=U.lt;have e8:=z.size;cases s:reachB l k with
   |false=>
    rw[s]at E;have m:=xD (F:=F) s;go_wp2_with (refine wpList_load_mid rfl 155 (.tmp 26) rfl g (k*11) rfl _ _ E.out underlying155 rfl y ?_;simp only[Act.put,aq,aI,aH]);have dg:wZ l F k=0:=by rw[vB,s];rfl
    rw[dg,cP]at C;rw[m,dL]at R;go_roundw;case rel=>exact⟨k+1,by omega,by go_num,by rw[C,R];exact(D.alloc _).alloc _,(U.alloc _).alloc _,(z.alloc z.size _).alloc (by simp;omega) _⟩
    case measure=>simp[intOf]<;>omega
   |true=>
    rw[s]at E;have W:=Lib.hid R;cases L:F k with
    |true=>
     rw[L]at E;have am:wZ l F k=3:=by rw[vB,s,L];rfl
     obtain⟨t,u,ey,eo,an,ap,b2,bp⟩:=hF.ways Z (hL.br k L).2.2;have al:=kH F s an;have bS:=kH F s b2;rw[am]at C al bS;have T:=Lib.hid C;clear C R am;have m:=rj s L ey eo;rw[hx]at m;rw[ey,eo]at E;have co:=jK l F (show t<=N by have:=V.out;omega);have ef:=jK l F (show u<=N by have:=V.out;omega);have hA:=fun(j:Nat) (v:Uc) (o:Obj) (h:(#[TY T6 xm,TY T9 xc,TY T7 xk,TY T6 xt,TY T6 xf,TY T6 d,TY T6 t,TY T6 u,T2 true,TY T6 (plN l F k:Nat),T2 false]:Array Uc)[j]? =some v)=>zz wr (#[TY T6 xm,TY T9 xc,TY T7 xk,TY T6 xt,TY T6 xf,TY T6 d,TY T6 t,TY T6 u,T2 true,TY T6 (plN l F k:Nat),T2 false]) 155 o j v h
     have b6:=rU ap U;have bO:=rU bp U;have bW:∀w,TV 55 #[TY T6 ((plN l F k+1:Nat):Int),T1 (St.vals ⟨(dR l).getD t default,dY l t,jo l t,F t,plN l F t,!reachB l t⟩).toArray] w (T1 #[TY T9 5,TY .u8 0,TY .u8 0,TY T7 (plN l F t - (plN l F k+1) - 1:Nat)]):=
      fun w=>Ch (plN l F k+1) ⟨(dR l).getD t default,dY l t,jo l t,F t,plN l F t,!reachB l t⟩ (by show plN l F k+1+1<=plN l F t;omega) (by show plN l F t<=1000000;omega) w
     have b4:∀w,TV 55 #[TY T6 ((plN l F k+2:Nat):Int),T1 (St.vals ⟨(dR l).getD u default,dY l u,jo l u,F u,plN l F u,!reachB l u⟩).toArray] w (T1 #[TY T9 5,TY .u8 0,TY .u8 0,TY T7 (plN l F u - (plN l F k+2) - 1:Nat)]):=
      fun w=>Ch (plN l F k+2) ⟨(dR l).getD u default,dY l u,jo l u,F u,plN l F u,!reachB l u⟩ (by show plN l F k+2+1<=plN l F u;omega) (by show plN l F u<=1000000;omega) w
     have bv:=St.Sn ⟨(dR l).getD t default,dY l t,jo l t,F t,plN l F t,!reachB l t⟩;have b0:=St.Sn ⟨(dR l).getD u default,dY l u,jo l u,F u,plN l F u,!reachB l u⟩;generalize St.vals ⟨(dR l).getD t default,dY l t,jo l t,F t,plN l F t,!reachB l t⟩=c1 at b6 bW bv;generalize St.vals ⟨(dR l).getD u default,dY l u,jo l u,F u,plN l F u,!reachB l u⟩=c2 at bO b4 b0;obtain⟨ed,de,d1,dp⟩:=aB bW b4 b6 bO;have a6:=fun o=>hA 6 _ o rfl
     have a7:=fun o=>hA 7 _ o rfl
     have a9:=fun o=>hA 9 _ o rfl
     obtain⟨J,av,b5,Y,d3,d6⟩:=aF m a6 a7 a9 bv b0;have bx:(0:Int)<=(t:Int):=by omega
     have bs:(t:Int)<(N:Int):=by have:=V.out;omega
     have cy:(0:Int)<=(u:Int):=by omega
     have cc:(u:Int)<(N:Int):=by have:=V.out;omega
     clear m bW b4 b6 bO hA a6 a7 a9 ey eo bv b0;go_wp2_with (refine wpList_load_mid rfl 155 (.tmp 26) rfl g (k*11) rfl _ _ E.out underlying155 rfl y ?_;simp only[Act.put,aq,aI,aH]);have cs:IntKind.i64.wrap ((plN l F k:Nat)+1:Int)=((plN l F k+1:Nat):Int):=by rw[IntWalk.i64_in _ (by omega)];omega
     have cr:IntKind.i64.wrap ((plN l F k:Nat)+2:Int)=((plN l F k+2:Nat):Int):=by rw[IntWalk.i64_in _ (by omega)];omega
     refine Any.wp_region_tailD 21 eL (RQ u6 wr.heap.size g N cap (plN l F k) t u xc xk c1 c2 (plN l F t - (plN l F k+1) - 1) (plN l F u - (plN l F k+2) - 1)) (Any.Slot 6 u6) (by unfold Any.Slot;rfl) [42,43,44,45,46,47,48,49,50,51,52,53,54,55,56,57,58,59,60,61,62,63,6] [42,43,44,45,46,47,48,49,50,51,52,53,54,55,56,57,58,59,60,61,62] (by kernel_rfl) (by kernel_rfl) (by kernel_rfl) (by kernel_rfl) (by kernel_rfl) (by simp) ?steps ?done;case steps=>
      refine⟨?_,?_,?_,?_,?_,?_,?_,?_,?_,?_,?_,?_,?_,?_,?_,?_,?_,?_,?_,?_,?_,trivial⟩
      ·exact Any.sj_move rfl rfl rfl (by decide) rfl
      ·exact Any.sj (d:=43) rfl (by decide) (Any.st_load_row 43 9 _ (wr.heap.size+1) _ #[TY T9 xc,TY .u8 0,TY .u8 1,TY T7 xk] _ (.plain rfl) rfl rfl (by decide) rfl (Ou wr _ _ _) underlying157 rfl (by kernel_rfl) rfl)
      ·exact Any.sj (d:=44) rfl (by decide) (Any.st_old1 44 8 _ _ (.plain rfl) rfl (by decide) rfl (fun a w h=>by unfold execOp;simp only[h];simp[go_sem]) (fun _ _=>rfl))
      ·exact Any.sj (d:=45) rfl (by decide) (Any.sx_load_at 45 44 _ _ _ (.plain rfl) rfl rfl (by decide) rfl (Y.out _) (fun w h=>by simp[go_sem,h]) rfl)
      ·exact Any.sj (d:=46) rfl (by decide) (Any.st_binR 46 45 _ _ _ _ _ _ (.plain rfl) rfl rfl (by decide) rfl (fun w=>by simp[go_sem]) (fun w=>by simp[go_sem,cs]) rfl)
      ·exact Any.sj (d:=47) rfl (by decide) (Any.st_was 47 4 (.plain rfl) (.inl rfl) rfl (by decide) rfl)
      ·exact Any.sj (d:=48) rfl (by decide) (Any.st_old1 48 8 _ _ (.plain rfl) rfl (by decide) rfl (fun a w h=>by unfold execOp;simp only[h];simp[go_sem]) (fun _ _=>rfl))
      ·exact Any.sj (d:=49) rfl (by decide) (Any.sx_load_at 49 48 _ _ _ (.plain rfl) rfl rfl (by decide) rfl (av.out _) (fun w h=>by simp[go_sem,h]) rfl)
      ·exact Any.sj (d:=50) rfl (by decide) (Any.sx_two 50 47 49 _ _ _ (.plain rfl) rfl (by decide) (by decide) rfl rfl (fun a w h1 h2=>by unfold execOp;simp only[h1,h2];simp[go_sem,bx,bs]) rfl)
      ·exact Any.sj (d:=51) rfl (by decide) (Any.sx_load_mid 51 50 _ g (t*11) c1 _ (.plain rfl) rfl rfl (by decide) rfl (Ov b9 _ _) (Cg d1.out _ _) underlying155 rfl (y.trans (by rw[d3.out])) rfl)
      ·exact Any.sj (d:=52) rfl (by decide) (Any.st_callv 52 _ (.plain rfl) rfl rfl func55 rfl rfl (fun a w h=>by have e1:a.eval (.tmp 46)=TY T6 ((plN l F k+1:Nat):Int):=h.eqv 46 (by decide) rfl;have e2:a.eval (.tmp 51)=T1 c1.toArray:=h.eqv 51 (by decide) rfl;simp only[aQ,aJ,a8,e1,e2]) (fun w _=>(ed.out w).mono (fun e w' h=>⟨_,h.1,rfl,h.2⟩)))
      ·exact Any.sj (d:=53) rfl (by decide) (Any.st_old1 53 8 _ _ (.plain rfl) rfl (by decide) rfl (fun a w h=>by unfold execOp;simp only[h];simp[go_sem]) (fun _ _=>rfl))
      ·exact Any.sj (d:=54) rfl (by decide) (Any.sx_load_at 54 53 _ _ _ (.plain rfl) rfl rfl (by decide) rfl (Y.out _) (fun w h=>by simp[go_sem,h]) rfl)
      ·exact Any.sj (d:=55) rfl (by decide) (Any.st_binR 55 54 _ _ _ _ _ _ (.plain rfl) rfl rfl (by decide) rfl (fun w=>by simp[go_sem]) (fun w=>by simp[go_sem,cr]) rfl)
      ·exact Any.sj (d:=56) rfl (by decide) (Any.st_was 56 4 (.plain rfl) (.inl rfl) rfl (by decide) rfl)
      ·exact Any.sj (d:=57) rfl (by decide) (Any.st_old1 57 8 _ _ (.plain rfl) rfl (by decide) rfl (fun a w h=>by unfold execOp;simp only[h];simp[go_sem]) (fun _ _=>rfl))
      ·exact Any.sj (d:=58) rfl (by decide) (Any.sx_load_at 58 57 _ _ _ (.plain rfl) rfl rfl (by decide) rfl (b5.out _) (fun w h=>by simp[go_sem,h]) rfl)
      ·exact Any.sj (d:=59) rfl (by decide) (Any.sx_two 59 56 58 _ _ _ (.plain rfl) rfl (by decide) (by decide) rfl rfl (fun a w h1 h2=>by unfold execOp;simp only[h1,h2];simp[go_sem,cy,cc]) rfl)
      ·exact Any.sj (d:=60) rfl (by decide) (Any.sx_load_mid 60 59 _ g (u*11) c2 _ (.plain rfl) rfl rfl (by decide) rfl (Ov b9 _ _) (Cg dp.out _ _) underlying155 rfl (y.trans (by rw[d6.out])) rfl)
      ·exact Any.sj (d:=61) rfl (by decide) (Any.st_callv 61 _ (.plain rfl) rfl rfl func55 rfl rfl (fun a w h=>by have e1:a.eval (.tmp 55)=TY T6 ((plN l F k+2:Nat):Int):=h.eqv 55 (by decide) rfl;have e2:a.eval (.tmp 60)=T1 c2.toArray:=h.eqv 60 (by decide) rfl;simp only[aQ,aJ,a8,e1,e2]) (fun w _=>(de.out w).mono (fun e w' h=>⟨_,h.1,rfl,h.2⟩)))
      exact Any.sj (d:=62) rfl (by decide) (Any.sx_builtSlice 62 _ 157 3 4 _ #[(0,T1 #[TY T9 xc,TY .u8 0,TY .u8 1,TY T7 xk]),(1,T1 #[TY T9 5,TY .u8 0,TY .u8 0,TY T7 (plN l F t - (plN l F k+1) - 1:Nat)]),(2,T1 #[TY T9 5,TY .u8 0,TY .u8 0,TY T7 (plN l F u - (plN l F k+2) - 1:Nat)])] [TY T9 xc,TY .u8 0,TY .u8 1,TY T7 xk,TY T9 5,TY .u8 0,TY .u8 0,TY T7 (plN l F t - (plN l F k+1) - 1:Nat),TY T9 5,TY .u8 0,TY .u8 0,TY T7 (plN l F u - (plN l F k+2) - 1:Nat)] (.plain rfl) rfl rfl
       (fun a w h=>by have e1:a.eval (.tmp 43)=T1 #[TY T9 xc,TY .u8 0,TY .u8 1,TY T7 xk]:=h.eqv 43 (by decide) rfl;have e2:a.eval (.tmp 52)=T1 #[TY T9 5,TY .u8 0,TY .u8 0,TY T7 (plN l F t - (plN l F k+1) - 1:Nat)]:=h.eqv 52 (by decide) rfl;have e3:a.eval (.tmp 61)=T1 #[TY T9 5,TY .u8 0,TY .u8 0,TY T7 (plN l F u - (plN l F k+2) - 1:Nat)]:=h.eqv 61 (by decide) rfl;simp only[aQ,aJ,a8,e1,e2,e3]) (fun w=>by kernel_rfl) rfl rfl)
     case done=>
      intro f w3 hg hf;have h4:f 42=u6:=hf 42 rfl;obtain⟨A4,dl,cd,cx⟩:JE 4 3 [TY T9 xc,TY .u8 0,TY .u8 1,TY T7 xk,TY T9 5,TY .u8 0,TY .u8 0,TY T7 (plN l F t - (plN l F k+1) - 1:Nat),TY T9 5,TY .u8 0,TY .u8 0,TY T7 (plN l F u - (plN l F k+2) - 1:Nat)] (f 62) w3:=hf 62 rfl;simp only[Any.fill,bC,bL,aq,aI,aH,h4,cd,bg,bZ];clear hf h4 cd;generalize f 6=f6,f 43=f7,f 44=fn,f 45=fz,f 46=fq,f 47=e9,f 48=fr,f 49=ev,f 50=f2,f 51=ex,f 52=e5,f 53=fs,f 54=fx,f 55=eu,f 56=ff,f 57=e0,f 58=fb,f 59=e6,f 60=f8,f 61=f0,f 63=fv at*;have H:Below wr.heap.size wr w3:=(((aw _ wr).alloc (ae _) _).alloc (by simp) _).drew.trans (hg.mono (by show wr.heap.size<=((wr.alloc _).alloc _).heap.size;simp<;>omega));have q:=cC hg (((D.alloc _).alloc _).drew);have el:=H.size;refine cU w3 rfl (.tmp 42) (.tmp 62) 73 rfl w2.heap.size 157 i0 _ 4 8 underlying73 a4 a1 a5 a3 rfl (by omega) u6 (plN l F k) _ (by rfl) q w3.heap.size A4 3 dl _ (by rfl) cx (by simp[Value.oneCell']) (by simp only[maxLen];omega) (by omega) (by omega) ?_;intro v4 w4 cf c0 cg;have ch:Below w2.heap.size wr w4:=(H.mono z.size).grown c0 (by omega) (fun g e=>(q.lt g e).1);clear hg c0 cg cx q;go_wp2_with fail;go_roundw;case rel=>
       refine⟨k+1,by omega,by go_num,?_,U.below ch c3,z.trans ch⟩;rw[T.out,W.out,J.out,j6];exact cf
      case measure=>simp[intOf]<;>omega
    |false=>
     rw[L]at E;have am:wZ l F k=1:=by rw[vB,s,L];rfl
     rw[am]at C;have T:=Lib.hid C;clear C R am;by_cases be:d=13
     ·subst be;have O:(gw l k).kd=13:=by rw[hx,hD]
      obtain⟨t,ey,an,ap⟩:=hF.SO Z O;have m:=sC s L O ey;rw[hx]at m;rw[ey]at E;have al:=kH F s an;have co:=jK l F (show t<=N by have:=V.out;omega);have hA:=fun(j:Nat) (v:Uc) (o:Obj) (h:(#[TY T6 xm,TY T9 xc,TY T7 xk,TY T6 xt,TY T6 xf,TY T6 (13:Nat),TY T6 t,TY T6 (jo l k),T2 false,TY T6 (plN l F k:Nat),T2 false]:Array Uc)[j]? =some v)=>zz wr (#[TY T6 xm,TY T9 xc,TY T7 xk,TY T6 xt,TY T6 xf,TY T6 (13:Nat),TY T6 t,TY T6 (jo l k),T2 false,TY T6 (plN l F k:Nat),T2 false]) 155 o j v h
      have hG:=fun(o1 o2:Obj)=>rT (fk ap U 9 (by omega) _ rfl) o1 o2
      have a6:=fun o=>hA 6 _ o rfl
      have a9:=fun o=>hA 9 _ o rfl
      simp only at hG;have hV:IntKind.u32.wrap (IntKind.i64.wrap (IntKind.i64.wrap ((plN l F t:Nat) - (plN l F k:Nat):Int) - 1))=((plN l F t - plN l F k - 1:Nat):Int):=Ow _ _ (by omega) (by omega);obtain⟨HV,J,av,Y,HG⟩:=aG hV m a6 a9 hG;have bx:(0:Int)<=(t:Int):=by omega
      have bs:(t:Int)<(N:Int):=by have:=V.out;omega
      clear m O hV hA a6 a9 hG ey al;go_wp2_with (refine wpList_load_mid rfl 155 (.tmp 26) rfl g (k*11) rfl _ _ E.out underlying155 rfl y ?_;simp only[Act.put,aq,aI,aH]);go_region_held3 (fun w'=>w'.cell? ⟨wr.heap.size,6,none⟩=some (TY T6 t)/\w'.cell? ⟨wr.heap.size,9,none⟩=some (TY T6 (plN l F k:Nat))/\w'.cell? ⟨g,t*11+9,none⟩=some (TY T6 (plN l F t:Nat)))
       (first|exact⟨av.out _,Y.out _,HG.out _ _⟩|go_keep) (fail)
      rw[HV.out];go_wp2_with (at_builtin;refine nO rfl (.tmp 108) (.tmp 110) 73 rfl w2.heap.size 157 i0 _ 4 8 underlying73 a4 a1 a5 a3 rfl (by omega) _ _ (plN l F k) _ rfl ((D.alloc _).alloc _) _ 1 1 (by simp) _ rfl rfl (by simp[Value.oneCell']) (by simp only[maxLen];omega) (by omega) (by simp;omega) ?_;intro v3 w3 q H bo);go_roundw;case rel=>
       refine⟨k+1,by omega,by go_num,?_,?_,((z.alloc z.size _).alloc (by simp;omega) _).trans H⟩
       ·rw[T.out,W.out,J.out,j6];exact q
       exact((U.alloc _).alloc _).below H (by omega)
      case measure=>simp[intOf]<;>omega
     by_cases cu:25<=d
     ·have O:(gw l k).kd=d:=by rw[hx,hD]
      obtain⟨t,u,ey,eo,an,ap,b2,bp⟩:=hF.ways Z (by show 25<=(gw l k).kd;omega);have m:=sD s L (by omega) ey eo;rw[hx]at m;rw[ey,eo]at E;have al:=kH F s an;have bS:=kH F s b2;have co:=jK l F (show t<=N by have:=V.out;omega);have ef:=jK l F (show u<=N by have:=V.out;omega);have S:=hL.closed k ⟨Z,(hF.Sq (by omega)).1 s,by show 25<=(gw l k).kd;omega⟩ L;rw[AM F ey eo]at S;have hA:=fun(j:Nat) (v:Uc) (o:Obj) (h:(#[TY T6 xm,TY T9 xc,TY T7 xk,TY T6 xt,TY T6 xf,TY T6 d,TY T6 t,TY T6 u,T2 false,TY T6 (plN l F k:Nat),T2 false]:Array Uc)[j]? =some v)=>zz wr (#[TY T6 xm,TY T9 xc,TY T7 xk,TY T6 xt,TY T6 xf,TY T6 d,TY T6 t,TY T6 u,T2 false,TY T6 (plN l F k:Nat),T2 false]) 155 o j v h
      have hG:=fun(o1 o2:Obj)=>rT (fk ap U 9 (by omega) _ rfl) o1 o2
      have bN:=fun(o1 o2:Obj)=>rT (fk bp U 9 (by omega) _ rfl) o1 o2
      have a6:=fun o=>hA 6 _ o rfl
      have a7:=fun o=>hA 7 _ o rfl
      have a9:=fun o=>hA 9 _ o rfl
      simp only at hG bN;have hV:IntKind.u8.wrap (IntKind.i64.wrap (IntKind.i64.wrap ((plN l F t:Nat) - (plN l F k:Nat):Int) - 1))=((plN l F t - plN l F k - 1:Nat):Int):=J3 _ _ (by omega) (by omega);have ct:IntKind.u8.wrap (IntKind.i64.wrap (IntKind.i64.wrap ((plN l F u:Nat) - (plN l F k:Nat):Int) - 1))=((plN l F u - plN l F k - 1:Nat):Int):=J3 _ _ (by omega) (by omega);obtain⟨HV,d9,J,av,b5,Y,HG,d8⟩:=aD hV ct m a6 a7 a9 hG bN;have bx:(0:Int)<=(t:Int):=by omega
      have bs:(t:Int)<(N:Int):=by have:=V.out;omega
      have cy:(0:Int)<=(u:Int):=by omega
      have cc:(u:Int)<(N:Int):=by have:=V.out;omega
      have q1:((d:Int)==13)=false:=by simp;omega
      have q2:(25:Int)<=(d:Int):=by omega
      clear m O hV ct hA a6 a7 a9 hG bN ey eo al bS S;go_wp2_with (refine wpList_load_mid rfl 155 (.tmp 26) rfl g (k*11) rfl _ _ E.out underlying155 rfl y ?_;simp only[Act.put,aq,aI,aH]);go_region_held3 (fun w'=>w'.cell? ⟨wr.heap.size,6,none⟩=some (TY T6 t)/\w'.cell? ⟨wr.heap.size,7,none⟩=some (TY T6 u)/\w'.cell? ⟨wr.heap.size,9,none⟩=some (TY T6 (plN l F k:Nat))/\w'.cell? ⟨g,t*11+9,none⟩=some (TY T6 (plN l F t:Nat))/\w'.cell? ⟨g,u*11+9,none⟩=some (TY T6 (plN l F u:Nat)))
       (first|exact⟨av.out _,b5.out _,Y.out _,HG.out _ _,d8.out _ _⟩|go_keep) (fail)
      rw[HV.out,d9.out];go_wp2_with (at_builtin;refine nO rfl (.tmp 108) (.tmp 110) 73 rfl w2.heap.size 157 i0 _ 4 8 underlying73 a4 a1 a5 a3 rfl (by omega) _ _ (plN l F k) _ rfl ((D.alloc _).alloc _) _ 1 1 (by simp) _ rfl rfl (by simp[Value.oneCell']) (by simp only[maxLen];omega) (by omega) (by simp;omega) ?_;intro v3 w3 q H bo);go_roundw;case rel=>
       refine⟨k+1,by omega,by go_num,?_,?_,((z.alloc z.size _).alloc (by simp;omega) _).trans H⟩
       ·rw[T.out,W.out,J.out,j6];exact q
       exact((U.alloc _).alloc _).below H (by omega)
      case measure=>simp[intOf]<;>omega
     have O:(gw l k).kd=d:=by rw[hx,hD]
     have m:=qh s L (by rw[O];exact be) (by rw[O];exact cu);rw[hx]at m;have J:=Lib.hid m;have q1:((d:Int)==13)=false:=by simp;omega
     have q2:¬(25:Int)<=(d:Int):=by omega
     clear m O;go_wp2_with (first
      |(refine wpList_load_mid rfl 155 (.tmp 26) rfl g (k*11) rfl _ _ E.out underlying155 rfl y ?_;simp only[Act.put,aq,aI,aH])
      |(at_builtin;refine fo rfl (.tmp 108) (.tmp 110) 73 rfl w2.heap.size 157 i0 _ 4 8 underlying73 a4 a1 a5 a3 rfl (by omega) _ _ (plN l F k) _ rfl ((D.alloc _).alloc _) _ 1 1 (by simp) _ rfl rfl (by simp[Value.oneCell']) (by simp only[maxLen];omega) (by omega) (by simp;omega) ?_;intro v3 w3 q H bo))
     go_roundw;case rel=>
      refine⟨k+1,by omega,by go_num,?_,?_,((z.alloc z.size _).alloc (by simp;omega) _).trans H⟩
      ·rw[T.out,W.out,J.out,j6];exact q
      exact((U.alloc _).alloc _).below H (by omega)
     case measure=>simp[intOf]<;>omega
  have ea:k=N:=by omega
  subst ea;have z1:¬(k:Int)<(k:Int):=by omega
  have ak:qg l F k=kS l F:=by unfold kS;rw[V.out]
  rw[ak]at D;obtain⟨A5,c5,rfl,d4⟩:=cX D;have X:=Bt (kS l F) (Ju a0 hF hL (by have:=V.out;omega)) A5 (plN l F k) c5 wr d4 (by omega);have bR:(kS l F).length=plN l F k:=by unfold kS;rw[<-V.out];exact jS l F k
  have r:wX l F=if(fK (kS l F)).2≠0 then([],(fK (kS l F)).2)else(kS l F,0):=by unfold wX;rw[af b7.out]
  generalize fK (kS l F)=p at X r;obtain⟨p1,p2⟩:=p;unfold yB at X;simp only at X r;obtain⟨ca,d2⟩:=aA X bR;by_cases he:p2=0
  ·subst he;rw[af (by simp)]at r;have B:=Lib.hid r;clear X bR r ak;go_wp2_with fail;refine ca.out.mono ?_;rintro e w5 ⟨rfl,a2⟩;go_wp2_with fail;go_ret2;refine⟨F,T0 A5 (plN l F k) c5,hL,by rw[B.out];rfl,?_,M.trans ((z.trans (a2.mono z.size)).mono M.size)⟩;rw[B.out];simp only;rw[d2.out];exact QP M.size (cC a2 D)
  rw[aj he]at r;have B:=Lib.hid r;have f4:¬(p2:Int)=0:=by omega
  have e7:((p2:Int) != 0)=true:=by simp;omega
  clear X bR r ak;go_wp2_with fail;refine ca.out.mono ?_;rintro e w5 ⟨rfl,a2⟩;go_wp2_with fail;go_ret2;exact⟨F,T0 none 0 0,hL,by rw[B.out];rfl,by rw[B.out];exact aX _ _ _ _,M.trans ((z.trans (a2.mono z.size)).mono M.size)⟩
def PT(w:Ub)(e:Ending)(w':Ub):Prop:=e=.returned (T4 #[T0 none 0 0,TY T6 1])/\Below w.heap.size w w'
theorem FO(l:List It)(d:∀x∈l,x.Ok)(g:¬fZ l)(A:Option Addr)(n c:Nat)(w:Ub)(i:bh w w.heap.size 5 A n (dq l))(m:n<=100000):
  Calls prog 18 #[T0 A n c] w (PT w):=by
 go_enter func18,ntmps18;go_wp2_with fail;refine(wI l d A n c w i (by omega)).mono ?_;rintro e k ⟨b,rfl,f,j⟩;have a:b=false:=by
  cases b with
  |false=>rfl
  |true=>exact absurd (f.1 rfl) g
 subst a;clear f;go_wp2_with fail;go_ret2;exact⟨rfl,j⟩
end
end Go.Proofs.YtfammloeljmplaaGreatDoor
