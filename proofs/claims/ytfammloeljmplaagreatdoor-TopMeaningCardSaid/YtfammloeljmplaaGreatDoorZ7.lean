/- Contracts of form and stored; conditions: each lemma's own. -/
import Derived.Laws.CopyOwn
import Derived.Test.YtfammloeljmplaaGreatDoorZ4
import Derived.Test.YtfammloeljmplaaGreatDoorZ6
open Go.Value renaming int->TY,pointer->TZ,slice->T0,agg->T1,bool->T2,tuple->T4
open Go.IntKind renaming i64->T6,u32->T7,u16->T9
open Go.Obj renaming cells->Ua
open Go renaming World->Ub,Value->Uc
namespace Go.Proofs.YtfammloeljmplaaGreatDoor
open Go.Proofs.Tryz
set_option maxRecDepth 100000
set_option maxHeartbeats 8000000
set_option linter.unusedVariables false
set_option linter.unusedSimpArgs false
section
open Go.RowKit
theorem sU(l:List I)(J:∀i∈l,i.Ok)(A:Option Addr)(n c:Nat)(w:Ub)(S:bh w w.heap.size 4 A n (gx l))(hn:n<=1000000):
  Calls prog 109 #[T0 A n c] w (yB (eA l) w):=by
 have R:n=l.length:=by have:=S.1;rw[jq]at this;omega
 have v:=Lib.hid R;by_cases h0:n=0
 ·have e:eA l=(0,4):=aj (by omega);rw[e];subst h0;clear R e;go_enter func109,ntmps109;go_wp2;go_ret2;exact⟨rfl,aw _ _⟩
 by_cases h1:4096<n
 ·have e:eA l=(0,3):=by unfold eA;rw[af (by omega),aj (by omega)]
  rw[e];have q0:((n:Int)==0)=false:=by simp;omega
  have q1:(4096:Int)<(n:Int):=by omega
  clear R e;go_enter func109,ntmps109;go_wp2;go_ret2;exact⟨rfl,aw _ _⟩
 have q0:((n:Int)==0)=false:=by simp;omega
 have q1:¬(4096:Int)<(n:Int):=by omega
 clear R;go_enter func109,ntmps109;go_wp2_with fail;go_loopw [24] (fun i wr=>∃k:Nat,k<=n/\i=TY T6 k/\Hid (∀j,j<k->badAt l j=0)/\Below w.heap.size w wr) (fun i _=>n - (intOf i).toNat)
 case atStart=>exact⟨0,by omega,rfl,fun j T=>absurd T (by omega),aw _ _⟩
 case round=>
  obtain⟨k,hk,rfl,H,y⟩:=hrel;by_cases U:k<n
  ·obtain⟨b,V,rfl,hb,C,F,z,B⟩:=(S.below y).Th U;have o:=oc J (k:=k) (by have:=v.out;omega);have u:badAt l k=nc (kd (l.getD k default)) (kx (l.getD k default)) (l.getD k default).k (l.getD k default).jt (l.getD k default).jf (n - 1 - k):=by
    unfold badAt pb;rw[<-v.out]
   have hd:=Jr (l.getD k default);have r:∀W,TV 105 #[TY T9 (l.getD k default).code] W (T4 #[TY T6 (kd (l.getD k default):Nat),T2 (kx (l.getD k default)),T2 (((kd (l.getD k default):Nat):Int) != 0)]):=fun W=>ub _ o.1 W
   generalize kd (l.getD k default)=d at*;generalize kx (l.getD k default)=x at*;generalize l.getD k default=i at*;obtain⟨X,xt,xf,xk⟩:=i;obtain⟨o1,Z,Y,o4⟩:=o;simp only at C F z B o1 Z Y o4 r u;obtain⟨s,t⟩:=aA r u;clear r u;go_wp2_with fail;refine(s.out _).mono ?_;rintro e w2 ⟨rfl,q⟩;have M:=(bK.new wr 157 #[TY T9 X,TY .u8 xt,TY .u8 xf,TY T7 xk]).below q (by simp);have a:Below w.heap.size w w2:=(y.alloc y.size _).trans (q.mono (by have:=y.size;simp;omega));have g0:=M.cell 0;have g1:=M.cell 1;have g2:=M.cell 2;have g3:=M.cell 3;clear q y C F z B M s;go_wp2_with fail;rw[show((n:Int) - 1 - (k:Int))=((n - 1 - k:Nat):Int) from by omega];refine(G6 X xt xf xk d x (n - 1 - k) _ hd o4 Z Y (by omega)).mono ?_;rintro e w3 ⟨rfl,L⟩;rw[<-t.out];have G:=a.trans (L.mono a.size);clear L g0 g1 g2 g3 a;by_cases N:badAt l k=0
   ·rw[N];have H2:Hid (∀j,j<k+1->badAt l j=0):=fun j T=>by
     rcases hZ (iB T)with h|h
     ·exact H.out j h
     rw[h];exact N
    clear N t;go_wp2_with fail;go_roundw;case rel=>exact⟨k+1,by omega,by go_num,H2,G⟩
    case measure=>simp[intOf]<;>omega
   have g:=DO l k (by have:=v.out;omega) (by have:=v.out;omega) (by have:=v.out;omega) H.out N;have al:(((badAt l k:Nat):Int) != 0)=true:=by simp;omega
   have O:=Lib.hid g;clear g t;generalize badAt l k=E at*;go_wp2_with fail;go_ret2;exact⟨by rw[O.out];rfl,G⟩
  obtain rfl:k=n:=by omega
  have g:=vM l (by have:=v.out;omega) (by have:=v.out;omega) (fun i hi=>H.out i (by have:=v.out;omega));rw[<-v.out]at g;have O:=Lib.hid g;obtain⟨m,rfl⟩:∃m,k=m+1:=⟨k - 1,by omega⟩;obtain⟨b,V,rfl,hb,C,F,z,B⟩:=(S.below y).Th (k:=m) (by omega);have o:=oc J (k:=m) (by have:=v.out;omega);have r:∀W,TV 105 #[TY T9 (l.getD m default).code] W (T4 #[TY T6 (kd (l.getD m default):Nat),T2 (kx (l.getD m default)),T2 (((kd (l.getD m default):Nat):Int) != 0)]):=fun W=>ub _ o.1 W
  have s:=Lib.hid r;clear g r S F z B;generalize (l.getD m default).code=X at*;have z0:(0:Int)<=(m:Int):=by omega
  have e1:(((m+1:Nat):Int) - 1)=(m:Int):=by omega
  go_wp2_with fail;refine(s.out _).mono ?_
  rintro e w2 ⟨rfl,q⟩;have a:=y.trans (q.mono y.size);have p:=O.out;rw[show m+1 - 1=m from rfl]at p;clear q y s o O C;generalize kd (l.getD m default)=d at*;by_cases f:fH d
  ·rw[aj f]at p;have D:=Lib.hid p;clear p;rcases f with rfl|rfl
   ·go_wp2_with fail;go_ret2
    exact⟨by rw[D.out];rfl,a⟩
   go_wp2_with fail;go_ret2
   exact⟨by rw[D.out];rfl,a⟩
  rw[af f]at p;have D:=Lib.hid p;have an:((d:Int) != 14)=true:=by unfold fH at f;simp;omega
  have ar:((d:Int) != 15)=true:=by unfold fH at f;simp;omega
  clear p f;go_wp2_with fail;go_ret2;exact⟨by rw[D.out];rfl,a⟩
theorem Nr:(prog.info? 306).map (fun i=>(i.zero,i.size,i.bytes))=some (some (T1 (Array.replicate 4096 (TY T9 0))),4096,8192):=by kernel_rfl
theorem Ns:(prog.info? 127).map (fun i=>(i.zero,i.size,i.bytes))=some (some (TY T9 0),1,2):=by kernel_rfl
theorem KL(w:Ub)(p:Addr)(u:Uc):w.grownBy (w.setCell p u).drew (some p.block):=
 ⟨rfl,rfl,rfl,by simp[World.setCell,World.drew],fun k _ a=>cK w p u k (fun e=>a (by rw[e]))⟩
def KM(a:List Nat)(g:Nat)(w:Ub)(e:Ending)(w':Ub):Prop:=e=.returned (T4 #[])/\dx w' g 306 4096 (kV a)/\w.grownBy w' (some g)
theorem qD(a:List Nat)(f:∀x∈a,x<65536)(to b g i:Nat)(l:to<a.length)(n:b<65536)(w:Ub)(d:dx w g 306 4096 (kV a))(o:w.cell? ⟨i,0,none⟩=some (TY T9 b)):
  Calls prog 181 #[TY T6 to,TZ (some ⟨g,0,none⟩),TZ (some ⟨i,0,none⟩)] w (KM (oa a to b) g w):=by
 have e:=d.len;rw[mC]at e;have t:=d.cell (mP a to l);have q:=d.frozen to;have k:=Cp (by omega) f to;have j:bits .and T9 ((a.getD to 0:Nat):Int) (b:Int)=((a.getD to 0&&&b:Nat):Int):=u16_and_nat _ _ k n;have c:=d.set_ to (TY T9 (a.getD to 0&&&b:Nat));rw[uN]at c;have m:=Lib.hid c;have s:(0:Int)<=(to:Int):=by omega
 have p:(to:Int)<4096:=by omega
 unfold oa;clear c d k;generalize a.getD to 0=v at*;generalize (v&&&b)=r at*;go_enter func181,ntmps181;go_wp2_with fail;go_region;go_end0;exact⟨rfl,m.out.drew,KL w ⟨g,to,none⟩ _⟩
theorem G0(k:Nat)(a:k<=15):IntKind.u16.wrap ((2:Int) ^ k)=((2 ^ k:Nat):Int):=by
 have h:k=0\/k=1\/k=2\/k=3\/k=4\/k=5\/k=6\/k=7\/k=8\/k=9\/k=10\/k=11\/k=12\/k=13\/k=14\/k=15:=by omega
 rcases h with rfl|rfl|rfl|rfl|rfl|rfl|rfl|rfl|rfl|rfl|rfl|rfl|rfl|rfl|rfl|rfl<;>rfl
def uZ(l:List Nat)(w:Ub)(e:Ending)(w':Ub):Prop:=
 ∃v,e=.returned v/\w'.ownsRow w.heap.size 127 1 v l.length (kV l)/\Below w.heap.size w w'
theorem KN(l:List I)(b:∀i∈l,i.Ok)(A:Option Addr)(n c:Nat)(w:Ub)(f:bh w w.heap.size 4 A n (gx l))(j:n<=1000000)(a:(eA l).2≠0):
  Calls prog 110 #[T0 A n c] w (uZ (ko l) w):=by
 have e:ko l=[]:=af a;rw[e];have g:((((eA l).2:Nat):Int) != 0)=true:=by simp;omega
 have H:=Lib.hid (sU l b A n c w f j);clear e a f;go_enter func110,ntmps110;go_wp2_with fail;refine H.out.mono ?_;rintro e k ⟨rfl,d⟩;clear H;generalize eA l=p at*;go_wp2_with fail;go_ret;exact⟨_,rfl,aX _ _ _ _,d⟩
def pU(n k:Nat):List Nat:=List.replicate k 65535++List.replicate (n - k) 0
theorem pj(n k:Nat)(a:k<=n):(pU n k).length=n:=by unfold pU;simp;omega
theorem KO(n k:Nat)(a:k<n):(pU n k).set k 65535=pU n (k+1):=by
 unfold pU;rw[zJ _ _ (by simp),List.length_replicate,Jg,show n - k=n - (k+1)+1 by omega,List.replicate_succ,aH,List.replicate_succ',dz];rfl
theorem Eu(n:Nat)(a:0<n):(pU n n).set 0 0=xK n:=by
 unfold pU xK;simp
theorem G3(n N:Nat)(h:n<=N):(Array.replicate N (Value.int T9 0)).toList.take n=kV (pU n 0):=by
 simp[kV,pU,List.take_replicate,qd h]
theorem G4(l:List I)(bo:∀i∈l,i.Ok)(A:Option Addr)(n c:Nat)(w:Ub)(hr:bh w w.heap.size 4 A n (gx l))(hn:n<=1000000)(t:(eA l).2=0):
  Calls prog 110 #[T0 A n c] w (uZ (ko l) w):=by
 have hl:n=l.length:=by have:=hr.1;rw[jq]at this;omega
 have e:ko l=na l l.length:=aj t;rw[e];have hP:=mO t;have e0:=vK l t;have hf:=sU l bo A n c w hr hn;rw[e0]at hf;have bA:0<n:=by have:=hP.pos;omega
 have cf:n<=4096:=by have:=hP.le;omega
 obtain⟨i0,cu,cl,cv,cs⟩:=cZ Ns;obtain⟨j0,cg,bS,de,d1⟩:=cZ Nr;obtain⟨H,HL,HP⟩:=aC hf hl hP;clear e hf e0 t hl hP;go_enter func110,ntmps110;go_wp2_with fail;refine H.out.mono ?_;rintro e w1 ⟨rfl,ag⟩;clear H;have a2:dx (w1.alloc (Ua (Array.replicate 4096 (TY T9 0)) 306)) w1.heap.size 306 4096 (kV (pU n 0)):=by
  have:=dx.new w1 306 (Array.replicate 4096 (TY T9 0)) (kV (pU n 0)) (by
   rw[mC,pj n 0 (by omega)];exact G3 n 4096 cf)
  rwa [lv]at this
 have a4:Below w.heap.size w (w1.alloc (Ua (Array.replicate 4096 (TY T9 0)) 306)):=ag.alloc ag.size _;have bm:=ag.size;go_wp2_with (refine tP rfl 306 rfl j0 cg _ bS ?_);generalize (w1.alloc (Ua (Array.replicate 4096 (TY T9 0)) 306))=w2 at*;generalize w1.heap.size=g at*;clear ag bS;go_loopw [6,23] (fun _ i wr=>∃k:Nat,k<=n/\i=TY T6 k/\dx wr g 306 4096 (kV (pU n k))/\Below w.heap.size w wr) (fun _ i _=>n - (intOf i).toNat)
 case atStart=>exact⟨0,by omega,rfl,a2,a4⟩
 case round=>
  obtain⟨k,hk,rfl,F,M⟩:=hrel;by_cases br:k<n
  ·have s:=F.set_ k (TY T9 (65535:Nat));rw[uN,KO n k br]at s;have hc:=F.cell (mP _ k (by rw[pj n k hk];exact br));have hf:=F.frozen k;have z0:(0:Int)<=(k:Int):=by omega
   have z1:(k:Int)<4096:=by omega
   have U:=M.setCell (p:=⟨g,k,none⟩) bm (TY T9 (65535:Nat));clear F M a2 a4 hr;go_wp2_with fail;go_roundw;case rel=>exact⟨k+1,by omega,by go_num,s,U⟩
   case measure=>simp[intOf]<;>omega
  obtain rfl:k=n:=by omega
  have s:=F.set_ 0 (TY T9 (0:Nat));rw[uN,Eu k bA]at s;have hc:=F.cell (mP _ 0 (by rw[pj k k hk];exact bA));have hf:=F.frozen 0;have U:=M.setCell (p:=⟨g,0,none⟩) bm (TY T9 (0:Nat));have G:dx (wr.setCell ⟨g,0,none⟩ (TY T9 (0:Nat))) g 306 4096 (kV (na l 0)):=by
   have:na l 0=xK k:=by unfold na;rw[HL.out];rfl
   rw[this];exact s
  clear F M a2 a4 s;go_wp2_with fail;generalize (wr.setCell ⟨g,0,none⟩ (TY T9 (0:Nat)))=w3 at*;change Code.wp _ _ _ _ w3;clear hc hf;go_loopw [32] (fun i wr=>∃m:Nat,m<=k/\i=TY T6 m/\dx wr g 306 4096 (kV (na l m))/\Below w.heap.size w wr) (fun i _=>k - (intOf i).toNat)
  case atStart=>exact⟨0,by omega,rfl,G,U⟩
  case round=>
   obtain⟨m,hm,rfl,F,M⟩:=hrel;by_cases b7:m<k
   ·obtain⟨b,d4,rfl,dl,b0,b2,bN,bO⟩:=(hr.below M).Th b7;have aE:=oc bo (k:=m) (by have:=HL.out;omega);have L:m<l.length:=by have:=HL.out;omega
    have p1:=fun h=>(HP.out).store L h
    have p2:=fun h=>(HP.out).jump L h
    have p3:=fun h=>(HP.out).branch L h
    have p4:=fun h=>(HP.out).on L h
    have a6:∀W,TV 105 #[TY T9 (l.getD m default).code] W (T4 #[TY T6 (kd (l.getD m default):Nat),T2 (kx (l.getD m default)),T2 (((kd (l.getD m default):Nat):Int) != 0)]):=fun W=>ub _ aE.1 W
    have o:=DL l (na l m) m;rw[<-sI]at o;have O:=Cp (by omega) (tJ l m) m;have bk:=F.cell (mP _ m (by rw[kT];exact L));have a7:=kT l m;have an:=tJ l m;rw[<-HL.out]at p2 p3 p4 a7;have d5:=Jr (l.getD m default);unfold Kh at o;generalize na l m=a0 at*;generalize a0.getD m 0=z at*;generalize kd (l.getD m default)=d at*;generalize kx (l.getD m default)=x at*;generalize l.getD m default=i at*;obtain⟨xc,xt,xf,S⟩:=i;obtain⟨o1,o2,o3,o4⟩:=aE;simp only at b0 b2 bN bO o1 o2 o3 o4 a6 o p1 p2 p3;obtain⟨bl,HS,P1,P2,P3,P4,HU,HO⟩:=aD a6 o p1 p2 p3 p4 a7 an;have Z:=F.lt;have HR:=Lib.hid hr;clear a6 o p1 p2 p3 p4 a7 G U L an hr;go_wp2_with fail;refine(bl.out _).mono ?_;rintro e N ⟨rfl,T⟩;have b4:=(bK.new wr 157 #[TY T9 xc,TY .u8 xt,TY .u8 xf,TY T7 S]).below T (by simp);have ba:=(F.alloc (Ua #[TY T9 xc,TY .u8 xt,TY .u8 xf,TY T7 S] 157)).below T (by simp;omega);have E:Below w.heap.size w N:=(M.alloc M.size _).trans (T.mono (by have:=M.size;simp;omega));have c2:wr.heap.size<N.heap.size:=b4.lt;have c6:N.cell? ⟨g,m,none⟩=some (TY T9 z):=(T.cell (p:=⟨g,m,none⟩) (by simp;omega)).trans ((cz wr _ ⟨g,m,none⟩ Z).trans bk);clear T M b0 b2 bN bO F bl bk;have z0:(0:Int)<=(m:Int):=by omega
    have z1:(m:Int)<4096:=by omega
    have dk:g<N.heap.size:=by omega
    have g1:=b4.cell 1;have g2:=b4.cell 2;have g3:=b4.cell 3;have b5:bK (N.alloc (Ua #[TY T9 z] 127)) wr.heap.size 157 #[TY T9 xc,TY .u8 xt,TY .u8 xf,TY T7 S]:=b4.alloc _;have n5:bK (N.alloc (Ua #[TY T9 z] 127)) N.heap.size 127 #[TY T9 z]:=bK.new _ _ _;have D:=ba.alloc (Ua #[TY T9 z] 127);have f:=E.alloc E.size (Ua #[TY T9 z] 127);have bB:=Lib.hid (fun v:Nat=>And.intro (ba.alloc (Ua #[TY T9 v] 127)) (And.intro (E.alloc E.size (Ua #[TY T9 v] 127)) (bK.new N 127 #[TY T9 v])));clear ba E b4;by_cases a:fH d
    ·have y:=HS.out;rw[aj a]at y;have u:=Lib.hid y;clear y;rcases a with rfl|rfl
     all_goals
      go_wp2_with fail;go_roundw
      case rel=>exact⟨m+1,by omega,by go_num,by rw[u.out];exact D,f⟩
      case measure=>simp[intOf]<;>omega
    by_cases B:d=13
    ·have y:=HS.out;have hj:=P2.out B;rw[af a,aj B,af (by unfold xJ;omega)]at y;have u:=Lib.hid y;subst B;clear y a;go_wp2_with fail;rw[show((m:Int)+1+(S:Int))=((m+1+S:Nat):Int) from by omega];refine(qD a0 HO.out (m+1+S) z g N.heap.size (by rw[HU.out];exact hj) O _ D (n5.cell 0)).mono ?_;rintro e w6 ⟨rfl,q,r⟩;have j:Below w.heap.size w w6:=f.grown r f.size (fun k e=>by injection e;omega);rw[<-u.out]at q;clear r D f n5 b5;go_wp2_with fail;go_roundw;case rel=>exact⟨m+1,by omega,by go_num,q,j⟩
     case measure=>simp[intOf]<;>omega
    by_cases R:25<=d
    ·have y:=HS.out;have hj:=P3.out R;rw[af a,af B,aj R,af (by unfold xJ;omega)]at y;obtain⟨u,HJ⟩:=aA y hj;have n8:((d:Int)==8)=false:=by simp;omega
     have n9:((d:Int)==9)=false:=by simp;omega
     have cm:((d:Int)==14)=false:=by unfold fH at a;simp;omega
     have cp:((d:Int)==15)=false:=by unfold fH at a;simp;omega
     have cy:((d:Int)==13)=false:=by simp;omega
     have co:(25:Int)<=(d:Int):=by omega
     have am:=Jp a0 (m+1+xt) z HO.out;have Y:=tI a0 (m+1+xt) z;obtain⟨cn,ch⟩:=aA am Y;clear y a hj B R HS P1 P2 P3 P4 am Y;go_wp2_with fail;rw[show((m:Int)+1+(xt:Int))=((m+1+xt:Nat):Int) from by omega];refine(qD a0 HO.out (m+1+xt) z g N.heap.size (by have:=HJ.out;have:=HU.out;omega) O _ D (n5.cell 0)).mono ?_;rintro e w6 ⟨rfl,q,r⟩;have j:Below w.heap.size w w6:=f.grown r f.size (fun k e=>by injection e;omega);have b6:=b5.grown r (by simp;omega);have n6:=n5.grown r (by simp;omega);have f2:=b6.cell 2;clear r D f n5 b5 b6;go_wp2_with fail;rw[show((m:Int)+1+(xf:Int))=((m+1+xf:Nat):Int) from by omega];refine(qD (oa a0 (m+1+xt) z) cn.out (m+1+xf) z g N.heap.size (by have:=HJ.out;have:=HU.out;have:=ch.out;omega) O _ q (n6.cell 0)).mono ?_;rintro e w7 ⟨rfl,ad,V⟩;have ab:Below w.heap.size w w7:=j.grown V j.size (fun k e=>by injection e;omega);rw[<-u.out]at ad;clear V q j n6 f2;go_wp2_with fail;go_roundw;case rel=>exact⟨m+1,by omega,by go_num,ad,ab⟩
     case measure=>simp[intOf]<;>omega
    have y:=HS.out;have hj:=P4.out a;rw[af a,af B,af R]at y;have cm:((d:Int)==14)=false:=by unfold fH at a;simp;omega
    have cp:((d:Int)==15)=false:=by unfold fH at a;simp;omega
    have cy:((d:Int)==13)=false:=by simp;omega
    have co:(d:Int)<25:=by omega
    by_cases C:xJ d
    ·rw[aj C]at y;have X:=P1.out C;have bx:bits .or T9 (z:Int) (IntKind.u16.wrap ((2:Int) ^ S))=((z|||2 ^ S:Nat):Int):=by
      rw[G0 S X];exact u16_or_nat z (2 ^ S) O (fF (gk (n:=2) (by omega) X) (by decide))
     have ck:=Lib.hid bx;have bv:z|||2 ^ S<65536:=Sj (n:=16) O (fF (gk (n:=2) (by omega) X) (by decide));have u:=Lib.hid y;clear y a B R HS P1 P2 P3 P4 bx;generalize (z|||2 ^ S)=nw at*;obtain⟨q,j,n6⟩:=bB.out nw;have bp:((d:Int)==8)=true\/((d:Int)==8)=false/\((d:Int)==9)=true:=by unfold xJ at C;simp;omega
     clear D f n5 b5 bB C;rcases bp with n8|⟨n8,n9⟩
     all_goals
      go_wp2_with fail;rw[ck.out,show((m:Int)+1)=((m+1:Nat):Int) from by omega]
      refine(qD a0 HO.out (m+1) nw g N.heap.size (by have:=HU.out;omega) bv _ q (n6.cell 0)).mono ?_;rintro e w6 ⟨rfl,ad,V⟩;have ab:Below w.heap.size w w6:=j.grown V j.size (fun k e=>by injection e;omega);rw[<-u.out]at ad;clear V q j n6;go_wp2_with fail;go_roundw;case rel=>exact⟨m+1,by omega,by go_num,ad,ab⟩
      case measure=>simp[intOf]<;>omega
    rw[af C]at y;have n8:((d:Int)==8)=false:=by unfold xJ at C;simp;omega
    have n9:((d:Int)==9)=false:=by unfold xJ at C;simp;omega
    have u:=Lib.hid y;clear y a B R HS P1 P2 P3 P4 C;go_wp2_with fail;rw[show((m:Int)+1)=((m+1:Nat):Int) from by omega];refine(qD a0 HO.out (m+1) z g N.heap.size (by have:=HU.out;omega) O _ D (n5.cell 0)).mono ?_;rintro e w6 ⟨rfl,q,r⟩;have j:Below w.heap.size w w6:=f.grown r f.size (fun k e=>by injection e;omega);rw[<-u.out]at q;clear r D f n5 b5;go_wp2_with fail;go_roundw;case rel=>exact⟨m+1,by omega,by go_num,q,j⟩
    case measure=>simp[intOf]<;>omega
   obtain rfl:m=k:=by omega
   have J:=kT l m;have bW:=F.reads;rw[mC,J,<-HL.out]at bW;have Z:=F.lt;have z0:(0:Int)<=(m:Int):=by omega
   have z1:(m:Int)<=4096:=by omega
   have ak:=Kk (na l m);have HO:=Lib.hid ak;rw[<-HL.out]at J;have HN:=Lib.hid J;rw[<-HL.out];clear ak J G U F hr Z;go_wp2_with (at_builtin;refine cU _ rfl (.const (T0 none 0 0)) (.tmp 103) 229 rfl w.heap.size 127 i0 _ 1 2 underlying229 cu cl cv cs rfl (by omega) _ 0 [] rfl (aX _ _ _ _) _ _ m 4096 _ rfl bW HO.out (by simp only[maxLen];omega) (by omega) M.size ?_;intro v5 w5 ap b8 bR);have cr:Below w.heap.size w w5:=M.grown b8 M.size (fun k e=>by have e':(none:Option Nat)=some k:=e;cases e');rw[cV,dc]at ap;clear b8 bR;go_ret;exact⟨v5,rfl,by rw[<-HL.out,HN.out];exact ap,cr⟩
theorem G5(l:List I)(a:∀i∈l,i.Ok)(A:Option Addr)(n c:Nat)(w:Ub)(b:bh w w.heap.size 4 A n (gx l))(d:n<=1000000):
  Calls prog 110 #[T0 A n c] w (uZ (ko l) w):=by
 by_cases h:(eA l).2=0
 ·exact G4 l a A n c w b d h
 exact KN l a A n c w b d h
end
end Go.Proofs.YtfammloeljmplaaGreatDoor
