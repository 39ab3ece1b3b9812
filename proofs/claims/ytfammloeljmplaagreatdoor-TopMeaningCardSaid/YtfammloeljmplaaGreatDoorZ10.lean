/- The contract of word.Get over its iterator; conditions: each lemma's own. -/
import Derived.LoopIn
import Derived.LoopNIn
import Derived.OwnWalkIn
import Derived.RangeFuncBound
import Derived.RangeFuncBox
import Derived.RangeFuncCalls
import Derived.RangeFuncLeaves
import Derived.RangeFuncNested
import Derived.Shelf.Abstract
import Derived.Shelf.RegionOpen
import Derived.TacticsInMore
import Derived.Test.YtfammloeljmplaaGreatDoorZ9
open Go.Value renaming int->TY,pointer->TZ,slice->T0,bool->T2,tuple->T4
open Go.IntKind renaming i64->T6,u64->T8
open Go.Obj renaming cells->Ua
open Go renaming World->Ub,Value->Uc
namespace Go.Proofs.YtfammloeljmplaaGreatDoor
open Go.Proofs.Tryz
set_option maxRecDepth 100000
set_option maxHeartbeats 8000000
set_option linter.unusedVariables false
set_option linter.unusedSimpArgs false
section
open Go.RowKit Go.Shelf
attribute [local go_sem] Oper.semAt_some
structure dC(lo hi:Nat)(W W':Ub):Prop where
 size:W.heap.size<=W'.heap.size
 same:∀b,lo<=b->b<hi->W'.heap[b]? =W.heap[b]?
theorem dC.refl(a b:Nat)(W:Ub):dC a b W W:=⟨ae _,fun _ _ _=>rfl⟩
theorem dC.trans{a c:Nat}{A B C:Ub}(h:dC a c A B)(k:dC a c B C):dC a c A C:=
 ⟨ax h.size k.size,fun b e d=>(k.same b e d).trans (h.same b e d)⟩
theorem dC.cell{a b:Nat}{W c:Ub}(h:dC a b W c){p:Addr}(e:a<=p.block)(d:p.block<b):c.cell? p=W.cell? p:=lS (h.same p.block e d)
theorem dC.putObj{c a:Nat}(W:Ub)(l:Nat)(o:Obj)(h:a<=l):dC c a W (W.putObj l o):=
 ⟨by simp[World.putObj],fun b _ d=>World.putObj_heap_other (by omega)⟩
theorem dC.setCell{a c:Nat}{W d:Ub}(h:dC a c W d){p:Addr}(e:p.block<a\/c<=p.block)(u:Uc):dC a c W (d.setCell p u):=
 h.trans ⟨by simp[World.setCell],fun b g f=>cK _ _ _ _ (by omega)⟩
theorem dC.drew{a b:Nat}{W c:Ub}(h:dC a b W c):dC a b W c.drew:=⟨h.size,h.same⟩
def lG{α:Type}(f:Nat->α)(k:Nat):List α:=(List.range k).map f
theorem uY{α:Type}(f:Nat->α)(k:Nat):lG f (k+1)=lG f k++[f k]:=by simp[lG,fI]
theorem og{α:Type}(f:Nat->α)(k:Nat):(lG f k).length=k:=by simp[lG]
def mc(at_ width:Nat)(a:Bool)(k:Nat):Nat:=if a then at_+k else at_+(width - 1 - k)
section
variable {α:Type} (val:α->Nat) (pl:Nat->α)
theorem GZ(F:Fence)(n:Nat)(A:F.fn 183)(y:F.round=none)(hn:1<=n)(l B at_ width:Nat)(g:Bool)(R:at_<=1000000)(Y:width<=8)(f:∀k,k<width->val (pl k)=mc at_ width g k)(z G:Nat)(U:z<=B)(T:B+3<=G)(J H:List α->Ub->Prop)
  (D:∀b x W,J b W->b.length<width->YieldAt F (n - 1) prog l #[TY T6 (val x:Int)] W fun e o=>
    (e=.returned (T2 true)/\J (b++[x]) o/\dC z G W o)\/(e=.returned (T2 false)/\H (b++[x]) o))
  (W:Ub)(C:W.cell? ⟨B,0,none⟩=some (TY T6 at_))(u:W.cell? ⟨B+1,0,none⟩=some (TY T6 width))(E:W.cell? ⟨B+2,0,none⟩=some (T2 g))(O:J [] W):
  CallsIn F n prog 183 #[.func (.yield l) #[] #[],TZ (some ⟨B+1,0,none⟩),TZ (some ⟨B,0,none⟩),TZ (some ⟨B+2,0,none⟩)] W fun e o=>(∃v,e=.returned v)/\
   ((∃M,M=lG pl width/\J M o)\/(∃b,(∃k,k<=width/\b=lG pl k)/\H b o)):=by
 refine callsIn_of_wp func183 rfl A ?_ y;simp only[ntmps183,dr,aM,bD,Nat.reduceAdd,Nat.reduceSub,dG,dH,dJ,dV,dc,dA];gi_wp2;gi_loopw [8] (fun i wr=>∃k:Nat,k<=width/\i=TY T6 k/\J (lG pl k) wr/\dC z G W wr)
  (fun i _=>width - (intOf i).toNat)
 case atStart=>exact⟨0,iS _,rfl,O,dC.refl _ _ _⟩
 case round=>
  obtain⟨k,V,rfl,r,s⟩:=hrel;have Z:wr.cell? ⟨B,0,none⟩=some (TY T6 at_):=(s.cell (p:=⟨B,0,none⟩) U (by simp;omega)).trans C;have X:wr.cell? ⟨B+1,0,none⟩=some (TY T6 width):=(s.cell (p:=⟨B+1,0,none⟩) (by simp;omega) (by simp;omega)).trans u;have g3:wr.cell? ⟨B+2,0,none⟩=some (T2 g):=(s.cell (p:=⟨B+2,0,none⟩) (by simp;omega) (by simp;omega)).trans E;by_cases q:k<width
  ·obtain⟨fn,tmps,assign,body,L,N⟩:=D _ (pl k) wr r (by rw[og];exact q);have hv:=f k q;unfold mc at hv;have a:=uY pl k;cases g with
   |true=>
    have c:((val (pl k):Nat):Int)=(at_:Int)+(k:Int):=by simp at hv;omega
    rw[c]at L;have t:=Lib.hid a;clear hv c f a C u E D;gi_wp2;refine N.mono ?_;rintro e S (⟨rfl,j,m⟩|⟨rfl,d⟩)
    ·gi_wp2
     go_roundw;case rel=>exact⟨k+1,by omega,by go_num,by rw[t.out];exact j,s.trans m⟩
     case measure=>simp[intOf]<;>omega
    gi_wp2
    refine aO (l5 rfl _ _ _) rfl ?_;exact⟨⟨_,rfl⟩,.inr ⟨_,⟨k+1,by omega,t.out.symm⟩,d⟩⟩
   |false=>
    have c:((val (pl k):Nat):Int)=(at_:Int)+(width:Int) - 1 - (k:Int):=by simp at hv;omega
    rw[c]at L;have t:=Lib.hid a;clear hv c f a C u E D;gi_wp2;refine N.mono ?_;rintro e S (⟨rfl,j,m⟩|⟨rfl,d⟩)
    ·gi_wp2
     go_roundw;case rel=>exact⟨k+1,by omega,by go_num,by rw[t.out];exact j,s.trans m⟩
     case measure=>simp[intOf]<;>omega
    gi_wp2
    refine aO (l5 rfl _ _ _) rfl ?_;exact⟨⟨_,rfl⟩,.inr ⟨_,⟨k+1,by omega,t.out.symm⟩,d⟩⟩
  obtain rfl:k=width:=by omega
  clear f;gi_wp2;go_end0;exact⟨⟨_,rfl⟩,.inl ⟨_,rfl,r⟩⟩
theorem CG(F:Fence)(n:Nat)(f:F.fn 183)(d:F.round=none)(z:1<=n)(B at_ width:Nat)(a:Bool)(c:at_<=1000000)(u:width<=8)(b:∀k,k<width->val (pl k)=mc at_ width a k)(j:Nat)(w:Ub)(C:j<=B)(i:B+3<=w.heap.size)
  (s:w.cell? ⟨B,0,none⟩=some (TY T6 at_))(m:w.cell? ⟨B+1,0,none⟩=some (TY T6 width))(y:w.cell? ⟨B+2,0,none⟩=some (T2 a)):
  SeqStopsK F n prog 183 #[TZ (some ⟨B+1,0,none⟩),TZ (some ⟨B,0,none⟩),TZ (some ⟨B+2,0,none⟩)] (fun x:α=>#[Value.int T6 (val x:Int)]) (dC j w.heap.size) (fun A=>A=lG pl width)
   (fun g=>∃k,k<=width/\g=lG pl k) width w:=fun l J q W e _ _ t o=>by
 have v:=(e.cell (p:=⟨B,0,none⟩) (by simp;omega)).trans s;have r:=(e.cell (p:=⟨B+1,0,none⟩) (by simp;omega)).trans m;have D:=(e.cell (p:=⟨B+2,0,none⟩) (by simp;omega)).trans y;exact GZ val pl F n f d z l B at_ width a c u b j w.heap.size C i J q t W v r D o
end
theorem KK(F:Fence)(n:Nat)(b:F.fn 113)(c:F.round=none)(at_ width:Int)(a:Bool)(w:Ub):
  CallsIn F n prog 113 #[TY T6 at_,TY T6 width,T2 a] w fun e w'=>
   e=.returned (.func (.func 183) #[] #[TZ (some ⟨w.heap.size+1,0,none⟩),TZ (some ⟨w.heap.size,0,none⟩),TZ (some ⟨w.heap.size+2,0,none⟩)])/\
   w'=((w.alloc (Ua #[TY T6 at_] 3)).alloc (Ua #[TY T6 width] 3)).alloc (Ua #[T2 a] 4):=by
 refine callsIn_of_wp func113 rfl b ?_ c;simp only[ntmps113,dr,aM,bD,Nat.reduceAdd,Nat.reduceSub,dG,dH,dJ,dV,dc,dA];gi_wp2;go_ret;exact⟨rfl,rfl⟩
end
section
open Go.RowKit Go.Shelf
attribute [local go_sem] Oper.semAt_some
def pT(l:List Nat)(at_ width:Nat)(a:Bool):List Nat:=(List.range width).map fun k=>l.getD (mc at_ width a k) 0
def getN(l:List Nat)(at_ width:Int)(a:Bool):Nat:=if wrongN l.length at_ width=0 then lW (pT l at_.toNat width.toNat a)else 0
def uc(l:List Nat)(at_ width:Int)(a:Bool)(w:Ub)(e:Ending)(w':Ub):Prop:=
 e=.returned (T4 #[TY T8 (getN l at_ width a:Nat),TY T6 (wrongN l.length at_ width:Nat)])/\Below w.heap.size w w'
theorem QA(l:List Nat)(A:Option Addr)(n c:Nat)(at_ width:Int)(a:Bool)(w:Ub)(b:n=l.length)(p:n<=1000000)(f:wrongN n at_ width≠0):
  Calls prog 59 #[T0 A n c,TY T6 at_,TY T6 width,T2 a] w (uc l at_ width a w):=by
 have d:getN l at_ width a=0:=by unfold getN;rw[af (by rw[<-b];exact f)]
 obtain⟨j,i⟩:=aA b d;have q:((wrongN n at_ width:Int) != 0)=true:=by simp;omega
 clear b d;go_enter func59,ntmps59;go_wp2_with fail;refine(Bp A n c at_ width _ (by omega)).mono ?_;rintro e o ⟨rfl,k⟩;generalize g:wrongN n at_ width=x at*;have m:=Lib.hid g;clear g f;go_wp2_with fail;go_ret2;refine⟨?_,((aw _ w).alloc (ae _) _).trans (k.mono (by simp))⟩;rw[i.out,<-j.out,m.out];rfl
theorem ke{B:Nat}{w w':Ub}(h:Below B w w'){p:Addr}{v:Uc}(a:p.block<B)(b:w.cell? p=some v):w'.cell? p=some v:=(h.cell a).trans b
theorem KH{l:List Nat}(h:∀b∈l,b<256)(a:l.length<=7):lW l<72057594037927936:=by
 have d:=sf l h;have e:256 ^ l.length<=256 ^ 7:=gk (by omega) a;have c:256 ^ 7=72057594037927936:=by decide
 omega
theorem Pj(v y:Nat)(hv:v<72057594037927936)(c:y<256):bits .or T8 (IntKind.u64.wrap ((v:Int)*256)) (IntKind.u64.wrap (y:Int))=((256*v+y:Nat):Int):=by
 have a:IntKind.u64.wrap ((v:Int)*256)=(v:Int)*256:=by simp[IntKind.wrap,IntKind.bits,IntKind.signed];omega
 have b:IntKind.u64.wrap (y:Int)=(y:Int):=by simp[IntKind.wrap,IntKind.bits,IntKind.signed];omega
 rw[a,b];have e:((v:Int)*256)=((v*256:Nat):Int):=by simp
 rw[e,u64_or_nat (v*256) y (by omega) (by omega),nat_join 8 (v*256) y (by omega) (by omega)];congr 1;omega
theorem zY(B:Nat)(W:Ub)(a:Addr)(v:Uc):KeepsFrom B W (W.setCell a v).drew:=⟨((KeepsOthers.setCell W a v).from B).size,((KeepsOthers.setCell W a v).from B).same⟩
theorem Er{b c:Nat}{W:Ub}{a:Addr}(h:a.block<b\/c<=a.block)(v:Uc):dC b c W (W.setCell a v).drew:=((dC.refl b c W).setCell h v).drew
theorem KI{B:Nat}{w W:Ub}(h:Below B w W){a:Addr}(b:B<=a.block)(v:Uc):Below B w (W.setCell a v).drew:=(h.setCell b v).drew
theorem JI(l:List Nat)(F:∀b∈l,b<256)(A:Option Addr)(n c:Nat)(at_ width:Nat)(a:Bool)(w:Ub)(C:bh w w.heap.size 1 A n (dN l))(hl:n=l.length)(hn:n<=1000000)
  (hw:wrongN n at_ width=0)(ak:width<=8)(bi:at_+width<=n)(a1:0<width):
  Calls prog 59 #[T0 A n c,TY T6 at_,TY T6 width,T2 a] w (uc l at_ width a w):=by
 have z:getN l at_ width a=lW (pT l at_ width a):=by unfold getN;rw[aj (by rw[<-hl];exact hw)];rfl
 obtain⟨HL,HG,HW⟩:=aC hl z hw;clear hl z;refine(callsIn_wide (n:=5)).1 ?_;refine callsIn_of_wp_marks func59 rfl trivial ?_ rfl;simp only[ntmps59,dr,aM,bD,Nat.reduceAdd,Nat.reduceSub,dG,dH,dJ,dV,dc,dA];gi_wp2_with fail;refine⟨trivial,?_⟩;refine(callsIn_wide.2 (Bp A n c at_ width _ (by omega))).mono ?_;rintro e f ⟨rfl,t⟩;rw[hw];gi_wp2_with fail;refine⟨trivial,?_⟩;refine(KK Fence.wide _ trivial rfl _ _ _ _).mono ?_;rintro e w2 ⟨rfl,rfl⟩;gi_wp2_with fail;have m:Below w.heap.size w f:=((aw _ w).alloc (ae _) _).trans (t.mono (by simp));have N:f.cell? ⟨w.heap.size,0,none⟩=some (T0 A n c):=ke (p:=⟨w.heap.size,0,none⟩) t (by simp) (by rw[World.cell?_alloc_at _ _ _ _ rfl];rfl);have H:w.heap.size<f.heap.size:=by have:=t.size;simp at this;omega
 have bN:=Boxed.new f 29 (TY T8 0);have V:=Boxed.new (f.alloc (Ua #[TY T8 0] 29)) 3 (TY T6 at_);have bW:=Boxed.new ((f.alloc (Ua #[TY T8 0] 29)).alloc (Ua #[TY T6 at_] 3)) 3 (TY T6 width);have bB:=Boxed.new (((f.alloc (Ua #[TY T8 0] 29)).alloc (Ua #[TY T6 at_] 3)).alloc (Ua #[TY T6 width] 3)) 4 (T2 a);simp only[cE]at V bW bB;have an:Below w.heap.size w ((((f.alloc (Ua #[TY T8 0] 29)).alloc (Ua #[TY T6 at_] 3)).alloc (Ua #[TY T6 width] 3)).alloc (Ua #[T2 a] 4)):=
  (((m.alloc m.size _).alloc (by simp;omega) _).alloc (by simp;omega) _).alloc (by simp;omega) _
 have u:=((bN.alloc (Ua #[TY T6 at_] 3)).alloc (Ua #[TY T6 width] 3)).alloc (Ua #[T2 a] 4);have O:=(V.alloc (Ua #[TY T6 width] 3)).alloc (Ua #[T2 a] 4);have G:=bW.alloc (Ua #[T2 a] 4);have r:((((f.alloc (Ua #[TY T8 0] 29)).alloc (Ua #[TY T6 at_] 3)).alloc (Ua #[TY T6 width] 3)).alloc (Ua #[T2 a] 4)).cell? ⟨w.heap.size,0,none⟩=some (T0 A n c):=by
  rw[World.cell?_alloc_past _ _ _ (by simp;omega),World.cell?_alloc_past _ _ _ (by simp;omega),World.cell?_alloc_past _ _ _ (by simp;omega),World.cell?_alloc_past _ _ _ H];exact N
 have a5:((((f.alloc (Ua #[TY T8 0] 29)).alloc (Ua #[TY T6 at_] 3)).alloc (Ua #[TY T6 width] 3)).alloc (Ua #[T2 a] 4)).heap.size=f.heap.size+4:=by simp
 generalize ((((f.alloc (Ua _ 29)).alloc (Ua _ 3)).alloc (Ua _ 3)).alloc (Ua _ 4))=W0 at*;generalize f.heap.size=j at*;obtain⟨S,i⟩:∃S:Nat->{x:Nat // x<n},∀k,k<width->(S k).1=mc at_ width a k:=by
  refine⟨fun k=>if h:mc at_ width a k<n then⟨_,h⟩else⟨0,by omega⟩,fun k hk=>?_⟩;have:mc at_ width a k<n:=by unfold mc;split<;>omega
  simp[this]
 refine wpIn_rangeFunc_ownG rfl (by omega) (gf:=183) (lb:=#[TZ (some ⟨j+1+1,0,none⟩),TZ (some ⟨j+1,0,none⟩),TZ (some ⟨j+1+2,0,none⟩)]) rfl trivial (enters_of func183 (by kernel_rfl) rfl)
  (CG (fun x:{x:Nat // x<n}=>x.1) S Fence.wide _ trivial rfl (by omega) (j+1) at_ width a (by omega) ak i (j+1) W0 (by omega) (by omega) O.cell G.cell bB.cell)
  (fun h k=>dC.trans h k) (fun W l o o' ai _ _ _=>dC.putObj W l o' ai) (aw _ _) (fun _=>rfl)
  (fun d W=>(W.cell? ⟨j,0,none⟩=some (TY T8 (lW (d.map fun x=>l.getD x.1 0):Nat))/\W.frozen? ⟨j,0,none⟩=false/\W.cell? ⟨w.heap.size,0,none⟩=some (T0 A n c))/\Below w.heap.size w W)
  (fun _ _ _=>False)
  (OwnFrom.and (Own.from (fun s X Y row B z C=>⟨cell_kept B.1 z C,(frozen_kept B.1 z C).trans B.2.1,cell_kept B.2.2 z C⟩) _) (ownFrom_below (ae _) (by omega)))
  (fun _ _ _ _ _ B _ _=>B)
  ⟨⟨u.cell,u.frozen,r⟩,an⟩
  (fun x=>{tmps:=#[T0 A n c,TY T6 at_,TY T6 width,T2 a,TZ (some ⟨w.heap.size,0,none⟩),undef,undef,undef,TY T8 0,TY T6 0,TY T6 0,TZ (some ⟨j,0,none⟩),TY T6 (x.1:Int),T0 A n c,TY T6 at_,TY T6 width,TY T6 0,TY T6 0,T2 false,undef,TY T6 at_,TY T6 width,T2 a,
    .func (.func 183) #[] #[TZ (some ⟨j+1+1,0,none⟩),TZ (some ⟨j+1,0,none⟩),TZ (some ⟨j+1+2,0,none⟩)],TY T6 (x.1:Int),undef,undef,undef,undef,undef,undef,undef,undef,undef],defers:=[]}) ?assign ?body ?done ?stop
 case assign=>
  intro l x W K U;gi_wp2;exact U
 case body=>
  rintro l' d x W ⟨⟨Z,hf,R⟩,T⟩ E;obtain⟨b,a7,rfl,hb,M⟩:=(C.below T).TJ (k:=x.1) x.2;have a4:=M x.1 x.2;have hx:=x.2;have hv:lW (d.map fun x=>l.getD x.1 0)<72057594037927936:=KH (fun b hb=>by
   obtain⟨y,_,rfl⟩:=bt.1 hb;have J:y.1<l.length:=by have:=HL.out;have:=y.2;omega
   have:l.getD y.1 0=l[y.1]:=by simp[J]
   rw[this];exact F _ (bj J)) (by simp;omega)
  have ag:l.getD x.1 0<256:=by
   have J:x.1<l.length:=by have:=HL.out;omega
   have:l.getD x.1 0=l[x.1]:=by simp[J]
   rw[this];exact F _ (bj J)
  have g:lW ((d++[x]).map fun x=>l.getD x.1 0)=256*lW (d.map fun x=>l.getD x.1 0)+l.getD x.1 0:=by
   rw[ew];exact GY _ _
  generalize l.getD x.1 0=y at*;generalize lW (d.map fun x=>l.getD x.1 0)=v at*;have HN:=Lib.hid g;clear g M i u O G bB bN V bW r N E C;have L:bits .or T8 (IntKind.u64.wrap ((v:Int)*256)) (IntKind.u64.wrap (y:Int))=((256*v+y:Nat):Int):=Pj v y hv ag;have ad:=Lib.hid L;clear L;have a3:(0:Int)<=(x.1:Int):=F4 _;have a2:(x.1:Int)<(n:Int):=by omega
  gi_wp2
  gi_region_with (fail)
  all_goals gi_wp2
  all_goals
   rw[ad.out];exact⟨zY _ _ _ _,Er (.inl (by simp)) _,⟨by rw[HN.out];exact jA _ _ _ (by rw[Z];rfl),(lr _ _ _ _).trans hf,(dn _ _ _ _ (fun h=>by injection h;omega)).trans R⟩,KI T (by simp<;>omega) _⟩
 case done=>
  rintro D ys W hD rfl ⟨⟨Z,_⟩,T⟩ U;have q:((lG S width).map fun x=>l.getD x.1 0)=pT l at_ width a:=by
   unfold lG pT;rw[cT];apply fN;intro k hk;simp only[Function.comp];rw[i k (bE.1 hk)]
  rw[q]at Z;have HF:=Lib.hid i;clear i q;gi_wp2;refine⟨by simp,.inl ⟨_,_,rfl,run_takeDeferred U,?_⟩⟩;refine⟨_,results_tmp2 rfl _ _ _,?_⟩;refine⟨?_,T.trans (belowK_b (w:=w) (ae _) W D _ _ (by omega) U rfl rfl)⟩;rw[HG.out,<-HL.out,HW.out];rfl
 case stop=>
  rintro D c d W _ _ h _;exact h.elim
end
end Go.Proofs.YtfammloeljmplaaGreatDoor
