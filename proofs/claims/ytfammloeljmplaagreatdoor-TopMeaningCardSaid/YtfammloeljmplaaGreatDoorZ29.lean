/- Contracts of keys at numbers; conditions: each lemma's own. -/
import Derived.LoopIn
import Derived.LoopNIn
import Derived.OwnWalkIn
import Derived.RangeFuncBound
import Derived.RangeFuncBox
import Derived.RangeFuncCalls
import Derived.RangeFuncLeaves
import Derived.RangeFuncNested
import Derived.RangeFuncWrites
import Derived.Shelf.Abstract
import Derived.Shelf.RegionOpen
import Derived.Sort.MapsRangeIn
import Derived.TacticsInMore
import Derived.Test.YtfammloeljmplaaGreatDoorZ16
open Go.Value renaming int->TY,pointer->TZ,slice->T0,bool->T2
open Go.IntKind renaming i64->T6,u32->T7
open Go.Obj renaming cells->Ua
open Go renaming World->Ub,Value->Uc
namespace Go.Proofs.YtfammloeljmplaaGreatDoor
open Go.Proofs.Tryz
set_option maxRecDepth 100000
set_option maxHeartbeats 8000000
set_option linter.unusedVariables false
set_option linter.unusedSimpArgs false
section
open Go.RowKit Go.Maps Go.Shelf
attribute [local go_sem] Oper.semAt_some
abbrev Mq:={x:Nat // x<4294967296}
def rY(x:Mq):Uc:=.int T7 x.1
def mK(v:Uc):Option (DataW Unit×List MemPlace):=some (.lit (.bool true),[])
theorem NX{key:Uc}{d:Lit}(h:keyOf prog 28 key=some d):∃x:Mq,key=rY x:=by
 have c:prog.underlying 28=some (.int T7):=underlying28;cases key<;>simp[keyOf,c,mapKey]at h
 rename_i q a;obtain⟨⟨rfl,b⟩,_⟩:=h;simp only[Lit.wf,bG,aV]at b;have f:(0:Int)<=a:=b.1;have e:a<=4294967295:=b.2;exact⟨⟨a.toNat,by omega⟩,eQ (Value.int T7) (show a=((a.toNat:Nat):Int)by omega)⟩
theorem Pz{c:Nat}(h:c<4294967296):keyOf prog 28 (p7 (c:Nat))=some (.int T7 c):=
 keyOf_int_mk underlying28 (by
  simp only[Lit.wf,bG,aV];exact⟨by show(0:Int)<=_;omega,by show((c:Nat):Int)<=4294967295;omega⟩)
theorem Lo{W:Ub}{r:Nat}{l:List (Nat×Nat)}(h:GMap.Row W r p7 (oB l))(B:(l.map (·.1)).Nodup)(y:∀p∈l,p.1<4294967296)(t:l.length<=1000000):
  ∃D:DataW Unit,W.ownsMap prog 28 mK r l.length D/\Maps.size D=l.length:=by
 have d:∀x∈(GMap.lit p7 (oB l)).toList,∃(p:Nat×Nat) (j:Nat),p∈l/\j<l.length/\x=⟨p7 (p.1:Nat),.int T6 p.2,j⟩:=fun x f=>by
  rw[GMap.lit_toList]at f;obtain⟨q,z,rfl⟩:=bt.1 f;obtain⟨⟨k,v⟩,j⟩:=q;have o:=Mp z;unfold oB at o;simp only[bu,List.getElem_map,Dv]at o;obtain⟨s,e1,e2⟩:=o;exact⟨l[j],j,bj _,s,by unfold GMap.entry;simp only[e1,e2]⟩
 have c:(GMap.lit p7 (oB l)).size=l.length:=by simp[GMap.lit,oB]
 have m:Go.MapKept.Stamped (GMap.lit p7 (oB l)) l.length:=by
  refine⟨fun x f=>?_,?_,?_⟩
  ·obtain⟨p,j,_,s,rfl⟩:=d x f;exact s
  ·rw[GMap.lit_toList,cT];have e:((fun x:MapEntry=>x.born)∘GMap.entry p7)=fun p:(Int×Uc)×Nat=>p.2:=rfl
   rw[e,Dr];exact Jb
  rw[GMap.lit_toList,cT];have e:((fun x:MapEntry=>x.key)∘GMap.entry p7)=(fun n:Int=>p7 n)∘(fun p:(Int×Uc)=>p.1)∘Prod.fst:=rfl;rw[e,<-cT,<-cT,l4,show(oB l).map (fun p:Int×Uc=>p.1)=l.map (fun p:Nat×Nat=>(p.1:Int))by simp[oB]];have u:(l.map (fun p:Nat×Nat=>(p.1:Int))).map p7=(l.map (·.1)).map (fun n:Nat=>p7 (n:Int)):=by simp
  rw[u];refine Jc _ (fun a b i e=>i ?_) B;unfold p7 at e;injection e with _ e
  omega
 have g:Go.WideElems.Fit prog 28 mK (GMap.lit p7 (oB l)) l.length:=by
  refine⟨by rw[c];simp only[maxLen];omega,m,fun x f=>?_⟩;obtain⟨p,j,A,_,rfl⟩:=d x f;exact⟨_,Go.WideElems.rd_mk (Pz (y p A)) rfl⟩
 refine⟨_,⟨_,_,by have:=h;unfold GMap.Row at this;rw[this,show(oB l).length=l.length by simp[oB]],g,by rw[c];exact ae _,rfl⟩,?_⟩;rw[Maps.size_eq,Go.length_sorted,bu,dW,c]
end
section
open Go.RowKit Go.Maps Go.Shelf
attribute [local go_sem] Oper.semAt_some
theorem LX(F:Fence)(n:Nat)(Z:F.fn 104)(A:F.round=none)(hn:1<=n)(l R b u:Nat)(s:DataW Unit)(J M:List Mq->Ub->Prop)
  (hY:∀a x W,J a W->a.length<Maps.size s->YieldAt F (n - 1) prog l #[rY x] W fun e j=>
    (e=.returned (T2 true)/\J (a++[x]) j/\KeepsWalks W j)\/(e=.returned (T2 false)/\M (a++[x]) j))
  (W:Ub)(O:AbidesFrom W.heap.size J)(hm:W.cell? ⟨R,0,none⟩=some (.map (some b)))(k:W.ownsMap prog 28 mK b u s)(U:J [] W):
  CallsIn F n prog 104 #[.func (.yield l) #[] #[],TZ (some ⟨R,0,none⟩)] W fun e j=>(∃v,e=.returned v)/\
   ((∃d:List Mq,d.length<=Maps.size s/\J d j)\/(∃a:List Mq,True/\M a j)):=by
 refine callsIn_of_wp func104 rfl Z ?_ A;simp only[ntmps104,dr,aM,bD,Nat.reduceAdd,Nat.reduceSub,dG,dH,dJ,dV,dc,dA];gi_wp2_with (first
  |(gi_at_range;refine wpListIn_range_own _ rfl _ 123 rfl 28 3 (int_keyed underlying28) underlying123 _ b u _ rfl k ?_;intro w0 t G X)
  |gi_in)
 go_frame
 gi_loopw [3] (fun _ wr=>∃(left:Lit->Bool) (cnt:Nat) (d:List Mq),wr.ranges prog 28 mK b W.heap.size u s left cnt/\d.length+cnt<=Maps.size s/\J d wr)
  (fun _ wr=>wr.rangeLeft b W.heap.size)
 case atStart=>
  exact⟨_,_,[],t,by simp,O [] W w0 none U G (fun r e=>by cases e)⟩
 case round=>
  obtain⟨left,cnt,d,g,ag,m⟩:=hrel;gi_wp2_with (first
   |(gi_at_next;refine wpListIn_next_ranges _ rfl _ rfl 28 (int_keyed underlying28) mK rY id (fun key kl Y=>NX Y) (fun v _ _=>⟨v,rfl⟩) b W.heap.size u _ _ _ rfl g ?_ ?_)
   |gi_in)
  ·intro S T;gi_wp2;go_end0;exact⟨⟨_,rfl⟩,.inl ⟨d,by omega,m⟩⟩
  intro z i c kl yd yp L q N ai hv V o y C E ab;have B:J d L:=O d wr L (some W.heap.size) m C (fun r e=>by cases e;exact⟨ae _,g.iter_walk⟩);obtain⟨fn,tmps,assign,body,hy,hR⟩:=hY d ⟨z,i⟩ L B (by omega);clear E;gi_wp2;refine hR.mono ?_;rintro e W3 (⟨rfl,D,H⟩|⟨rfl,p⟩)
  ·gi_wp2
   have f:=o.of_walks H;go_roundw;case rel=>exact⟨_,q,d++[⟨z,i⟩],f,by simp;omega,D⟩
   case measure=>rw[f.left_eq,g.left_eq];exact y
  gi_wp2
  refine aO (l5 rfl _ _ _) rfl ?_;exact⟨⟨_,rfl⟩,.inr ⟨d++[⟨z,i⟩],trivial,p⟩⟩
theorem Fy(F:Fence)(n:Nat)(u:F.fn 104)(g:F.round=none)(B:1<=n)(e b i:Nat)(d:DataW Unit)(w:Ub)(j:e<w.heap.size)
  (C:w.cell? ⟨e,0,none⟩=some (.map (some b)))(a:w.ownsMap prog 28 mK b i d):
  SeqStopsK F n prog 104 #[TZ (some ⟨e,0,none⟩)] (fun x:Mq=>#[rY x]) KeepsWalks (fun m=>m.length<=Maps.size d) (fun _=>True) (Maps.size d) w:=fun l J r W k y _ v o=>by
 have c:W.ownsMap prog 28 mK b i d:=by
  have f:=a.lt;obtain⟨z,clock,q,t,A,s⟩:=a;exact⟨z,clock,(k.block b f).trans q,t,A,s⟩
 exact LX F n u g B l e b i d J r v W y ((k.cell (p:=⟨e,0,none⟩) j).trans C) c o
theorem Od(F:Fence)(n:Nat)(c:F.fn 52)(a:F.round=none)(b:Option Nat)(w:Ub):
  CallsIn F n prog 52 #[.map b] w fun e w'=>e=.returned (.func (.func 104) #[] #[TZ (some ⟨w.heap.size,0,none⟩)])/\w'=w.alloc (Ua #[.map b] 123):=by
 refine callsIn_of_wp func52 rfl c ?_ a;simp only[ntmps52,dr,aM,bD,Nat.reduceAdd,Nat.reduceSub,dG,dH,dJ,dV,dc,dA];gi_wp2;go_ret;exact⟨rfl,rfl⟩
end
section
open Go.RowKit Go.Maps Go.Shelf
attribute [local go_sem] Oper.semAt_some
theorem LW:(prog.info? 28).map (fun i=>(i.zero,i.size,i.bytes))=some (some (TY T7 0),1,4):=by kernel_rfl
theorem Au(F:Fence)(n:Nat)(M:F.fn 173)(r:F.round=none)(hn:3<=n)(gf:Nat)(lb:Array Uc)(L:F.fn gf)(V:∀args w,(callFunc gf args).run prog w=.ok (.enter gf args) w)
  (N:Nat)(hN:N<=1000000)(w:Ub)(k:SeqStopsK F (n - 1) prog gf lb (fun x:Mq=>#[rY x]) KeepsWalks (fun p=>p.length<=N) (fun _=>True) N w):
  CallsIn F n prog 173 #[T0 none 0 0,.func (.func gf) #[] lb] w fun e R=>∃(v:Uc) (p:List Mq),e=.returned v/\p.length<=N/\R.ownsRow w.heap.size 28 1 v p.length (p.map rY)/\Below w.heap.size w R:=by
 have U:1<=n:=by omega
 obtain⟨i0,Y,z,C,G⟩:=cZ LW;refine callsIn_of_wp_marks func173 rfl M ?_ r;simp only[ntmps173,dr,aM,bD,Nat.reduceAdd,Nat.reduceSub,dG,dH,dJ,dV,dc,dA];gi_wp2_with fail;have bO:=Boxed.new w 144 (T0 none 0 0);have t:Below w.heap.size w (w.alloc (Ua #[T0 none 0 0] 144)):=(aw _ w).alloc (ae _) _;refine wpIn_rangeFunc_ownG r U (gf:=gf) (lb:=lb) rfl L V
  k walksK_t (fun W l o Z a b c d=>walksK_b (w:=w.alloc (Ua #[T0 none 0 0] 144)) W l o Z a b c d) (t.mono (ae _)) (fun _=>rfl)
  (fun f W=>(∃v,Boxed W w.heap.size 144 v/\W.ownsRow w.heap.size 28 1 v f.length (f.map rY)/\True)/\Below w.heap.size w W)
  (fun _ _ _=>False)
  (OwnFrom.and (Own.from (holdsRow_own w.heap.size w.heap.size 144 28 1 (fun f:List Mq=>f.length) (fun f=>f.map rY) (fun f v=>True)) _) (ownFrom_below (ae _) (by simp)))
  (fun _ _ _ _ _ X _ _=>X)
  ⟨⟨_,bO,aX _ _ _ _,trivial⟩,t⟩
  (fun x=>{tmps:=#[T0 none 0 0,.func (.func gf) #[] lb,TZ (some ⟨w.heap.size,0,none⟩),undef,T0 none 0 0,rY x,.func (.func gf) #[] lb,rY x,undef,undef,undef,undef,undef],defers:=[]}) ?assign ?body ?done ?stop
 case assign=>
  intro l x W K s;gi_wp2_with fail;exact s
 case body=>
  rintro l f ⟨A,H⟩ W ⟨⟨v,hv,g,-⟩,u⟩ S;have hc:=hv.cell;rw[show rY ⟨A,H⟩=Value.int T7 A from rfl];gi_wp2_with (gi_at_builtin;refine wpListIn_append_own _ rfl _ _ 144 rfl w.heap.size 28 i0 (TY T7 0) 1 4 underlying144 Y z C G rfl (by decide) _ _ _ rfl (g.alloc _) ⟨W.heap.size,0,none⟩ 1 1 [Value.int T7 A] rfl rfl (cell_one_new _ _ _) (by simp[Value.oneCell']) (by simp only[maxLen];omega) (by omega) (by have:=u.size;simp;omega) ?_;intro v' w1 i j _;obtain⟨g',O,rfl⟩:=ownsRow_succ i;obtain⟨q,B,y,m,J⟩:=hv.appended (by decide) g u.size (ae _) i j;have ak:=q.cell;have ag:=q.frozen);exact⟨m.from _,m.walks,⟨_,B,by simpa[rY]using y,trivial⟩,u.trans J⟩
 case done=>
  rintro D ys W T E ⟨⟨v,hv,g,-⟩,u⟩ s;have hc:=hv.cell;gi_wp2_with fail;refine⟨by simp,.inl ⟨_,_,rfl,run_takeDeferred s,?_⟩⟩;exact⟨_,results_tmp rfl _ _ _,v,ys,rfl,E,ownsRow_putObj g _ s rfl,u.trans (belowK_b (w:=w) (ae _) W D _ _ (by simp at T;omega) s rfl rfl)⟩
 case stop=>
  rintro D c f W _ _ h _;exact h.elim
theorem C7(gf:Nat)(lb:Array Uc)(k:∀args w,(callFunc gf args).run prog w=.ok (.enter gf args) w)
  (N:Nat)(m:N<=1000000)(w:Ub)(a:SeqStopsK Fence.wide 3 prog gf lb (fun x:Mq=>#[rY x]) KeepsWalks (fun c=>c.length<=N) (fun _=>True) N w):
  Calls prog 102 #[.func (.func gf) #[] lb] w fun e i=>∃(v:Uc) (c:List Mq),e=.returned v/\c.length<=N/\i.ownsRow w.heap.size 28 1 v c.length (c.map rY)/\Below w.heap.size w i:=by
 have g:Calls prog 173 #[T0 none 0 0,.func (.func gf) #[] lb] w _:=(callsIn_wide (n:=4)).1 (Au Fence.wide 4 trivial rfl (by omega) gf lb trivial k N m w a);clear a;go_enter func102,ntmps102;go_wp2_with fail;refine g.mono ?_;rintro e w' ⟨v,c,rfl,l,b,f⟩;clear g;obtain⟨d,j⟩:=aA b f;clear b f;go_wp2_with fail;go_ret;exact⟨v,c,rfl,l,d.out,j.out⟩
end
end Go.Proofs.YtfammloeljmplaaGreatDoor
