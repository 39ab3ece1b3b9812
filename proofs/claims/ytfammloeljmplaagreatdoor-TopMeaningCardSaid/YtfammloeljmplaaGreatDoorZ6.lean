/- Contracts of the checker's questions; conditions: each lemma's own. -/
import Derived.Test.YtfammloeljmplaaGreatDoorZ3
open Go.Value renaming int->TY,agg->T1,bool->T2
open Go.IntKind renaming i64->T6,u32->T7,u16->T9
open Go renaming World->Ub,Value->Uc
namespace Go.Proofs.YtfammloeljmplaaGreatDoor
open Go.Proofs.Tryz
set_option maxRecDepth 100000
set_option maxHeartbeats 8000000
set_option linter.unusedVariables false
set_option linter.unusedSimpArgs false
section
open Go.RowKit
def kq(c a b k d:Nat)(x:Bool)(rest:Nat):Uc:=T1 #[TY T9 c,TY .u8 a,TY .u8 b,TY T7 k,TY T6 d,T2 x,TY T6 rest]
def oS(n:Nat)(w:Ub)(e:Ending)(w':Ub):Prop:=e=.returned (TY T6 n)/\Below w.heap.size w w'
theorem ue{k:IntKind}{a b:Int}(h:a=b):Ending.returned (TY k a)=.returned (TY k b):=by rw[h]
theorem Nt{a b:Bool}(h:a=b):Ending.returned (T2 a)=.returned (T2 b):=by rw[h]
theorem Pq(c a b k d:Nat)(x:Bool)(rest:Nat)(w:Ub)(e:k<4294967296)(i:a<256)(f:b<256)(g:rest<=100000):Calls prog 255 #[kq c a b k d x rest] w (oS (tK d) w):=by
 unfold kq;go_enter func255,ntmps255;go_wp2;all_goals
  go_ret;refine⟨ue ?_,(aw _ w).alloc (ae _) _⟩;unfold tK;simp only[mM,Dq,ne_eq]at*;split<;>omega
theorem Pr(c a b k d:Nat)(x:Bool)(rest:Nat)(w:Ub)(e:k<4294967296)(i:a<256)(f:b<256)(g:rest<=100000):Calls prog 256 #[kq c a b k d x rest] w (oS (tL d k) w):=by
 unfold kq;go_enter func256,ntmps256;go_wp2;all_goals
  go_ret;refine⟨ue ?_,(aw _ w).alloc (ae _) _⟩;unfold tL
  (repeat' split)<;>omega
theorem Bu(d:Nat)(w:Ub):TW 332 #[TY T6 d] w (T2 (xL d)):=by
 go_enter func332,ntmps332;go_wp2;all_goals
  go_ret;refine⟨Nt ?_,rfl⟩;unfold xL;rw[aZ];simp only[df,mM,aV,true_iff];omega
theorem KP(c a b k d:Nat)(x:Bool)(rest:Nat)(w:Ub)(e:k<4294967296)(i:a<256)(f:b<256)(g:rest<=100000):Calls prog 258 #[kq c a b k d x rest] w (oS (Cq d x k) w):=by
 unfold kq;go_enter func258,ntmps258;go_wp2;all_goals
  go_ret;refine⟨ue ?_,(aw _ w).alloc (ae _) _⟩;unfold Cq
  (repeat' split)<;>simp_all<;>omega
theorem Ps(c a b k d:Nat)(x:Bool)(rest:Nat)(w:Ub)(g:k<4294967296)(l:a<256)(i:b<256)(j:rest<=100000):Calls prog 259 #[kq c a b k d x rest] w (oS (tM d k a b rest) w):=by
 unfold kq;go_enter func259,ntmps259;go_wp2;all_goals
  go_ret;refine⟨ue ?_,(aw _ w).alloc (ae _) _⟩;unfold tM;have f:rest<=max a b↔(if a<b then rest<=b else rest<=a):=by split<;>omega
  simp only[f,mM,Dq,ne_eq]at*;by_cases e:a<b
  ·simp only[e,lN]at*;all_goals((repeat' split)<;>omega)
  simp only[e,mj]at*;all_goals((repeat' split)<;>omega)
theorem Pt(c f i k d:Nat)(x:Bool)(rest:Nat)(w:Ub)(m:k<4294967296)(l:f<256)(n:i<256)(o:rest<=100000):Calls prog 257 #[kq c f i k d x rest] w (oS (pR d k) w):=by
 unfold kq;cases a:xL d
 ·have e:pR d k=0:=by unfold xL at a;unfold pR;simp at a;rw[af (by omega)]
  rw[e];have b:=Lib.hid a;clear e a;go_enter func257,ntmps257;go_wp2_with fail;refine(Bu d _).mono ?_;rintro e j ⟨rfl,rfl⟩;rw[b.out];go_wp2;go_ret;exact⟨rfl,(aw _ w).alloc (ae _) _⟩
 have e:pR d k=if 16<=k then 7 else 0:=by
  unfold xL at a;unfold pR;simp at a;by_cases h:16<=k
  ·rw[aj ⟨a,h⟩,aj h]
  rw[af (fun g=>h g.2),af h]
 rw[e];have b:=Lib.hid a;clear e a;go_enter func257,ntmps257;go_wp2_with fail;refine(Bu d _).mono ?_;rintro e j ⟨rfl,rfl⟩;rw[b.out];go_wp2;all_goals
  go_ret;refine⟨ue ?_,(aw _ w).alloc (ae _) _⟩;first
   |rfl
   |(split<;>omega)
theorem G6(c g l k d:Nat)(x:Bool)(rest:Nat)(w:Ub)(X:d<=28)(B:k<4294967296)(A:g<256)(F:l<256)(G:rest<=100000):Calls prog 180 #[kq c g l k d x rest] w (oS (nc d x k g l rest) w):=by
 rw[<-Ki d X x k g l rest];have R:=fun W=>Pq c g l k d x rest W B A F G
 have S:=fun W=>Pr c g l k d x rest W B A F G
 have V:=fun W=>Pt c g l k d x rest W B A F G
 have T:=fun W=>KP c g l k d x rest W B A F G
 have U:=fun W=>Ps c g l k d x rest W B A F G
 unfold kq at*;obtain⟨Q0,Q1,Q2,Z,Q4⟩:=aG R S V T U;clear R S V T U;go_enter func180,ntmps180;go_wp2_with fail;refine JK fun W0 _ b1 z _=>?_
 generalize Value.agg #[TY T9 c,TY .u8 g,TY .u8 l,TY T7 k,TY T6 d,Value.bool x,TY T6 rest]=L at*;go_loopw [18] (fun i wr=>∃j:Nat,j<=5/\i=TY T6 j/\Hid (∀i,i<j->uL d x k g l rest i=0)/\bK wr (w.heap.size+1) 71 #[Value.func (Fn.func 255) #[L] #[],Value.func (Fn.func 256) #[L] #[],Value.func (Fn.func 257) #[L] #[],Value.func (Fn.func 258) #[L] #[],Value.func (Fn.func 259) #[L] #[]]/\Below w.heap.size w wr) (fun i _=>5 - (intOf i).toNat)
 case atStart=>exact⟨0,by omega,rfl,fun i p=>absurd p (by omega),b1,z⟩
 case round=>
  obtain⟨j,hj,rfl,H,m,r⟩:=hrel;clear b1 z;by_cases Y:j<5
  ·have h5:j=0\/j=1\/j=2\/j=3\/j=4:=by omega
   have C:=m.cell 0;have D:=m.cell 1;have E:=m.cell 2;have J:=m.cell 3;have M:=m.cell 4;rcases h5 with rfl|rfl|rfl|rfl|rfl
   ·clear C D E J M;have v:=m.cell 0;go_wp2_with fail;refine(Q0.out _).mono ?_;rintro e N ⟨rfl,f⟩;have q:=m.below f m.lt;have b:=r.trans (f.mono r.size);have s:uL d x k g l rest 0=tK d:=rfl;have O:=Lib.hid s;clear s f m r v;by_cases o:tK d=0
    ·rw[o];have y:Hid (∀i,i<0+1->uL d x k g l rest i=0):=fun i p=>by
      rcases hZ (iB p)with h|h
      ·exact H.out i h
      rw[h];exact o
     clear o;go_wp2_with fail;go_roundw;case rel=>exact⟨1,by omega,by go_num,y,q,b⟩
     case measure=>simp[intOf]<;>omega
    have a:ql d x k g l rest=tK d:=jT _ 5 0 0 (by omega) (by omega) (fun i _ p=>H.out i p) o;have t:=Lib.hid a;have u:((((tK d):Nat):Int) != 0)=true:=by simp;omega
    clear a;generalize tK d=n at*;go_wp2_with fail;go_ret;exact⟨by rw[t.out];rfl,b⟩
   ·clear C D E J M;have v:=m.cell 1;go_wp2_with fail;refine(Q1.out _).mono ?_;rintro e N ⟨rfl,f⟩;have q:=m.below f m.lt;have b:=r.trans (f.mono r.size);have s:uL d x k g l rest 1=tL d k:=rfl;have O:=Lib.hid s;clear s f m r v;by_cases o:tL d k=0
    ·rw[o];have y:Hid (∀i,i<1+1->uL d x k g l rest i=0):=fun i p=>by
      rcases hZ (iB p)with h|h
      ·exact H.out i h
      rw[h];exact o
     clear o;go_wp2_with fail;go_roundw;case rel=>exact⟨2,by omega,by go_num,y,q,b⟩
     case measure=>simp[intOf]<;>omega
    have a:ql d x k g l rest=tL d k:=jT _ 5 0 1 (by omega) (by omega) (fun i _ p=>H.out i p) o;have t:=Lib.hid a;have u:((((tL d k):Nat):Int) != 0)=true:=by simp;omega
    clear a;generalize tL d k=n at*;go_wp2_with fail;go_ret;exact⟨by rw[t.out];rfl,b⟩
   ·clear C D E J M;have v:=m.cell 2;go_wp2_with fail;refine(Q2.out _).mono ?_;rintro e N ⟨rfl,f⟩;have q:=m.below f m.lt;have b:=r.trans (f.mono r.size);have s:uL d x k g l rest 2=pR d k:=rfl;have O:=Lib.hid s;clear s f m r v;by_cases o:pR d k=0
    ·rw[o];have y:Hid (∀i,i<2+1->uL d x k g l rest i=0):=fun i p=>by
      rcases hZ (iB p)with h|h
      ·exact H.out i h
      rw[h];exact o
     clear o;go_wp2_with fail;go_roundw;case rel=>exact⟨3,by omega,by go_num,y,q,b⟩
     case measure=>simp[intOf]<;>omega
    have a:ql d x k g l rest=pR d k:=jT _ 5 0 2 (by omega) (by omega) (fun i _ p=>H.out i p) o;have t:=Lib.hid a;have u:((((pR d k):Nat):Int) != 0)=true:=by simp;omega
    clear a;generalize pR d k=n at*;go_wp2_with fail;go_ret;exact⟨by rw[t.out];rfl,b⟩
   ·clear C D E J M;have v:=m.cell 3;go_wp2_with fail;refine(Z.out _).mono ?_;rintro e N ⟨rfl,f⟩;have q:=m.below f m.lt;have b:=r.trans (f.mono r.size);have s:uL d x k g l rest 3=Cq d x k:=rfl;have O:=Lib.hid s;clear s f m r v;by_cases o:Cq d x k=0
    ·rw[o];have y:Hid (∀i,i<3+1->uL d x k g l rest i=0):=fun i p=>by
      rcases hZ (iB p)with h|h
      ·exact H.out i h
      rw[h];exact o
     clear o;go_wp2_with fail;go_roundw;case rel=>exact⟨4,by omega,by go_num,y,q,b⟩
     case measure=>simp[intOf]<;>omega
    have a:ql d x k g l rest=Cq d x k:=jT _ 5 0 3 (by omega) (by omega) (fun i _ p=>H.out i p) o;have t:=Lib.hid a;have u:((((Cq d x k):Nat):Int) != 0)=true:=by simp;omega
    clear a;generalize Cq d x k=n at*;go_wp2_with fail;go_ret;exact⟨by rw[t.out];rfl,b⟩
   clear C D E J M;have v:=m.cell 4;go_wp2_with fail;refine(Q4.out _).mono ?_;rintro e N ⟨rfl,f⟩;have q:=m.below f m.lt;have b:=r.trans (f.mono r.size);have s:uL d x k g l rest 4=tM d k g l rest:=rfl;have O:=Lib.hid s;clear s f m r v;by_cases o:tM d k g l rest=0
   ·rw[o];have y:Hid (∀i,i<4+1->uL d x k g l rest i=0):=fun i p=>by
     rcases hZ (iB p)with h|h
     ·exact H.out i h
     rw[h];exact o
    clear o;go_wp2_with fail;go_roundw;case rel=>exact⟨5,by omega,by go_num,y,q,b⟩
    case measure=>simp[intOf]<;>omega
   have a:ql d x k g l rest=tM d k g l rest:=jT _ 5 0 4 (by omega) (by omega) (fun i _ p=>H.out i p) o;have t:=Lib.hid a;have u:((((tM d k g l rest):Nat):Int) != 0)=true:=by simp;omega
   clear a;generalize tM d k g l rest=n at*;go_wp2_with fail;go_ret;exact⟨by rw[t.out];rfl,b⟩
  obtain rfl:j=5:=by omega
  have a:ql d x k g l rest=0:=vL _ 5 0 (fun i _ p=>H.out i (by omega));have t:=Lib.hid a;clear a;go_wp2_with fail;go_ret;exact⟨by rw[t.out];rfl,r⟩
end
end Go.Proofs.YtfammloeljmplaaGreatDoor
