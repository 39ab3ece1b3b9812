/- Contracts of chunks, reading and index; conditions: each lemma's own. -/
import Derived.RangeFuncWrites
import Derived.StillTail
import Derived.Test.YtfammloeljmplaaGreatDoorZ10
open Go.Value renaming int->TY,pointer->TZ,slice->T0,agg->T1,bool->T2,tuple->T4
open Go.IntKind renaming i64->T6,u32->T7,u64->T8,u16->T9
open Go.Obj renaming cells->Ua
open Go renaming World->Ub,Value->Uc
namespace Go.Proofs.YtfammloeljmplaaGreatDoor
open Go.Proofs.Tryz
set_option maxRecDepth 100000
set_option maxHeartbeats 8000000
set_option linter.unusedVariables false
set_option linter.unusedSimpArgs false
section
def mf(b:List Nat)(i:Nat):I:=⟨b.getD i 0+256*b.getD (i+1) 0,b.getD (i+2) 0,b.getD (i+3) 0,b.getD (i+4) 0+256*(b.getD (i+5) 0+256*(b.getD (i+6) 0+256*b.getD (i+7) 0))⟩
def sW(b:List Nat)(k:Nat):List I:=(List.range k).map fun k=>mf b (8*k)
def JM(b:List Nat):List I:=sW b (b.length / 8)
def oh(n:Nat):Nat:=if 32768<n then 3 else if n % 8≠0 then 2 else 0
theorem oD(b:List Nat)(k:Nat):(sW b k).length=k:=by simp[sW]
theorem KW{b:List Nat}(a:∀x∈b,x<256)(i:Nat):b.getD i 0<256:=by
 by_cases h:i<b.length
 ·have:b.getD i 0=b[i]:=by simp[h]
  rw[this];exact a _ (bj h)
 simp[show b.length<=i by omega]
theorem KY{b:List Nat}(a:∀x∈b,x<256)(i:Nat):(mf b i).Ok:=by
 have h:=KW a;have k:=h i;have f:=h (i+1);have d:=h (i+2);have l:=h (i+3);have e:=h (i+4);have j:=h (i+5);have c:=h (i+6);have g:=h (i+7);unfold mf I.Ok;simp only;omega
theorem EA(l:List I)(k j:Nat)(a:k<l.length)(b:j<8):(dF l).getD (8*k+j) 0=(l9 (l.getD k default)).getD j 0:=by
 induction l generalizing k with
 |nil=>simp at a
 |cons i l ih=>
  have e:dF (i::l)=l9 i++dF l:=by simp[dF]
  rw[e];cases k with
  |zero=>
   rw[aa,bU (by simp[l9];omega)];simp
  |succ k=>
   rw[aa,bY (by simp[l9];omega)];have:=ih k (by simpa using a);rw[show 8*(k+1)+j - (l9 i).length=8*k+j by simp[l9];omega,<-aa,this];simp
theorem CI{l:List I}(e:∀i∈l,i.Ok)(k:Nat)(f:k<l.length):mf (dF l) (8*k)=l.getD k default:=by
 obtain⟨q,o,r,p⟩:=oc e f;unfold mf;have g:=fun j n=>EA l k j f n
 have m:=g 0 (by omega);rw[cP]at m;rw[m,g 1 (by omega),g 2 (by omega),g 3 (by omega),g 4 (by omega),g 5 (by omega),g 6 (by omega),g 7 (by omega)];generalize l.getD k default=x at*;obtain⟨a,b,c,d⟩:=x;simp only at q o r p;simp only[l9,iP,R6];congr 1
 ·omega
 omega
theorem z8{α:Type}[Inhabited α]{a b:List α}(d:α)(h:a.length=b.length)(f:∀i,i<a.length->a.getD i d=b.getD i d):a=b:=by
 apply oY h
 intro i c e;have:=f i c;simpa[c,e]using this
theorem EB{l:List I}(a:∀i∈l,i.Ok):JM (dF l)=l:=by
 have c:(dF l).length / 8=l.length:=by rw[oz];omega
 unfold JM;rw[c];refine z8 default (oD _ _) (fun i b=>?_);rw[oD]at b;rw[<-CI a i b];simp[sW,b]
end
section
open Go.RowKit Go.Shelf
attribute [local go_sem] Oper.semAt_some
theorem ug(W:Ub):W.grownBy W.drew none:=⟨(cj W none).os,(cj W none).tape,(cj W none).output,(cj W none).size,(cj W none).block⟩
section
variable {α:Type} (val:α->Nat) (pl:Nat->α)
theorem KZ(F:Fence)(n:Nat)(z:F.fn 111)(u:F.round=none)(hn:1<=n)(l B m:Nat)(A:Option Addr)(b r c:Nat)(U:0<m->A=some ⟨b,r,none⟩)(hm:m<=1000000)(hc:8*m<=c)(t:c<=maxLen)(f:∀k,k<m->val (pl k)=k)(y E:Nat)(hB:y<=B)(Y:B+2<=E)(J L:List α->Ub->Prop)(G:∀a W,J a W->J a W.drew)
  (O:∀a x W,J a W->a.length<m->YieldAt F (n - 1) prog l #[T0 (some ⟨b,r+8*val x,none⟩) 8 8] W fun e g=>
    (e=.returned (T2 true)/\J (a++[x]) g/\dC y E W g)\/(e=.returned (T2 false)/\L (a++[x]) g))
  (W:Ub)(N:W.cell? ⟨B,0,none⟩=some (T0 A (8*m) c))(H:W.cell? ⟨B+1,0,none⟩=some (TY T6 8))(T:J [] W):
  CallsIn F n prog 111 #[.func (.yield l) #[] #[],TZ (some ⟨B,0,none⟩),TZ (some ⟨B+1,0,none⟩)] W fun e g=>(∃v,e=.returned v)/\
   ((∃S,S=lG pl m/\J S g)\/(∃a,(∃k,k<=m/\a=lG pl k)/\L a g)):=by
 unfold maxLen at t;refine callsIn_of_wp func111 rfl z ?_ u;simp only[ntmps111,dr,aM,bD,Nat.reduceAdd,Nat.reduceSub,dG,dH,dJ,dV,dc,dA];gi_wp2;gi_loopw [4] (fun i wr=>∃k:Nat,k<=m/\i=TY T6 ((8*k:Nat):Int)/\J (lG pl k) wr/\dC y E W wr)
  (fun i _=>8*m - (intOf i).toNat)
 case atStart=>exact⟨0,iS _,rfl,T,dC.refl _ _ _⟩
 case round=>
  obtain⟨k,hk,rfl,o,C⟩:=hrel;have X:wr.cell? ⟨B,0,none⟩=some (T0 A (8*m) c):=(C.cell (p:=⟨B,0,none⟩) hB (by simp;omega)).trans N;have M:wr.cell? ⟨B+1,0,none⟩=some (TY T6 8):=(C.cell (p:=⟨B+1,0,none⟩) (by simp;omega) (by simp;omega)).trans H;by_cases j:k<m
  ·obtain rfl:=U (by omega);obtain⟨fn,tmps,assign,body,Z,hR⟩:=O _ (pl k) wr.drew (G _ _ o) (by rw[og];exact j);have hv:=f k j;have d:=uY pl k;rw[hv]at Z;have R:=Lib.hid d;clear hv f d N H O;have z0:(0:Int)<=((8*k:Nat):Int):=by omega
   have z1:((8*k:Nat):Int)<((8*m:Nat):Int):=by omega
   have n0:¬c=8*k:=by omega
   have n1:(8:Int)<=((8*m - 8*k:Nat):Int):=by omega
   gi_wp2
   gi_region_with (fail)
   all_goals gi_wp2
   all_goals
    refine hR.mono ?_;rintro e V (⟨rfl,D,s⟩|⟨rfl,q⟩)
    ·have g3:V.cell? ⟨B+1,0,none⟩=some (TY T6 8):=(s.cell (p:=⟨B+1,0,none⟩) (by simp;omega) (by simp;omega)).trans M;clear X M;gi_wp2;go_roundw;case rel=>exact⟨k+1,by omega,by go_num,by rw[R.out];exact D,C.trans ((dC.refl _ _ _).drew.trans s)⟩
     case measure=>simp[intOf]<;>omega
    gi_wp2
    refine aO (l5 rfl _ _ _) rfl ?_;exact⟨⟨_,rfl⟩,.inr ⟨_,⟨k+1,by omega,R.out.symm⟩,q⟩⟩
  obtain rfl:k=m:=by omega
  clear f;gi_wp2;go_end0;exact⟨⟨_,rfl⟩,.inl ⟨_,rfl,o⟩⟩
theorem EC(F:Fence)(n:Nat)(o:F.fn 111)(i:F.round=none)(H:1<=n)(B m:Nat)(A:Option Addr)(b d c:Nat)(C:0<m->A=some ⟨b,d,none⟩)(L:m<=1000000)(O:8*m<=c)(f:c<=maxLen)(g:∀k,k<m->val (pl k)=k)(j:Nat)(w:Ub)(N:j<=B)(q:B+2<=w.heap.size)
  (z:w.cell? ⟨B,0,none⟩=some (T0 A (8*m) c))(t:w.cell? ⟨B+1,0,none⟩=some (TY T6 8)):
  SeqStopsK F n prog 111 #[TZ (some ⟨B,0,none⟩),TZ (some ⟨B+1,0,none⟩)] (fun x:α=>#[Value.slice (some ⟨b,d+8*val x,none⟩) 8 8]) (dC j w.heap.size) (fun M=>M=lG pl m)
   (fun a=>∃k,k<=m/\a=lG pl k) m w:=fun l J v W s G _ D u=>by
 have E:=(s.cell (p:=⟨B,0,none⟩) (by simp;omega)).trans z;have y:=(s.cell (p:=⟨B+1,0,none⟩) (by simp;omega)).trans t;exact KZ val pl F n o i H l B m A b d c C L O f g j w.heap.size N q J v (fun a W h=>G a W W.drew none h (ug W) (fun r e=>by cases e)) D W E y u
end
theorem ND(F:Fence)(n:Nat)(a:F.fn 58)(b:F.round=none)(A:Option Addr)(m c:Nat)(w:Ub):
  CallsIn F n prog 58 #[T0 A m c,TY T6 8] w fun e w'=>
   e=.returned (.func (.func 111) #[] #[TZ (some ⟨w.heap.size,0,none⟩),TZ (some ⟨w.heap.size+1,0,none⟩)])/\
   w'=(w.alloc (Ua #[T0 A m c] 37)).alloc (Ua #[TY T6 8] 3):=by
 refine callsIn_of_wp func58 rfl a ?_ b;simp only[ntmps58,dr,aM,bD,Nat.reduceAdd,Nat.reduceSub,dG,dH,dJ,dV,dc,dA];gi_wp2;go_ret;exact⟨rfl,rfl⟩
end
section
open Go.RowKit
variable {P:Program}
theorem CJ{l n:Nat}{row:String}{args:Array Uc}{w:Ub}{R:Uc->Ub->Prop}(h:Rows P row args w R):RowsIn (Fence.wide.inRound l) n P row args w R:=
 fun c cs _=>let ⟨v,w',r,s⟩:=h c cs;⟨v,w',r,stepsIn_wide.2 s⟩
theorem Oper.SN{l n:Nat}{o:Oper}{a:Act}{w:Ub}{K:Act->Ub->Prop}{Q:Exit->Act->Ub->Prop}(b:∀c,o.op≠ .defer c)(h:o.wp P a w K Q):o.wpIn (Fence.wide.inRound l) n P a w K Q:=by
 refine⟨fun _ _=>trivial,?_⟩;rw[Oper.semAt_plain _ _ _ b];unfold Oper.wp at h;generalize (execOp a.eval o).run P w=r at*;cases r with
 |ok x w'=>
  cases x with
  |enter f args=>exact⟨(fun e=>by cases e),CallsIn.inRound l (callsIn_wide.2 h)⟩
  |row row args=>exact⟨(fun e=>by cases e),CJ h⟩
  |round=>exact h.elim
  | _ => exact h
 |halt x w'=>cases x<;>exact h
theorem lO{l n:Nat}{k:Region.Mode}{d:Array Oper}{Q:Exit->Act->Ub->Prop}(e:∀(i:Nat) (o:Oper) (c:Call),d[i]? =some o->o.op≠ .defer c)(f:¬LetsOut Q):∀(fuel:Nat) (listed:Array Bool) (a:Act) (w:Ub),
  wpAny P k d Q fuel listed a w->wpAnyIn (Fence.wide.inRound l) n P k d Q fuel listed a w
 |0,_,_,_,h=>h
 |fuel+1,listed,a,w,h=>⟨h.1,fun i m=>by
  have b:=h.2 i m;unfold wpOp at b;unfold wpOpIn;split
  ·rename_i g;simp only[g]at b;exact lO e f fuel _ _ _ b
  rename_i o g;simp only[g]at b;split
  ·rename_i j;rw[aj j]at b;rcases b with b|⟨_,b⟩
   ·exact Oper.wpIn_mono (fun a w h=>lO e f fuel _ a w h) (Oper.SN (fun c=>e i o c g) b)
   exact(f b).elim
  rename_i j;rw[af j]at b;exact⟨fun _ _=>trivial,lO e f fuel _ _ _ b⟩⟩
def yF (a : Array Oper) : Bool := a.all fun o => match o.op with | .defer _ => false | _ => true
theorem Hc{a:Array Oper}(h:yF a=true)(i:Nat)(o:Oper)(c:Call)(b:a[i]? =some o):o.op≠ .defer c:=fun e=>by
 unfold yF at h;rw[jw]at h;have:=h o (zI b);rw[e]at this;cases this
namespace Any
theorem wpIn_round_tail{V r N:Nat}{Q:Exit->Act->Ub->Prop}{l:List Oper}{a0:Act}{w:Ub}(k:Nat)(X:P.follows .mixedOrders=true)(S:Tmp->Kd)(D M:List Tmp)(L:dsts l.toArray=D)(C:dsts (l.take k).toArray=M)
  (E:D.all (fun d=>decide (d<a0.tmps.size))=true)(m:backB l.toArray=true)(q:coverB l.toArray k=true)(U:k<=l.length)(x:yF l.toArray=true)(T:¬LetsOut Q)
  (steps:StepsTo P l.toArray Q (fun d v w=>(S d).sat v w) (fun _ _=>True) a0 w.drew k l)
  (done:∀(f:Tmp->Uc) (w':Ub),aS w.drew w'->(∀d,M.contains d=true->(S d).sat (f d) w')->wpList P l.toArray Q (l.drop k) {tmps:=fill f D a0.tmps,defers:=a0.defers} w'):
  (Code.region V l.toArray true).wpIn (Fence.wide.inRound r) N P Q a0 w:=by
 refine wpIn_region_any X (lO (fun i o c t=>Hc x i o c t) T _ _ _ _ ?_);have s:∀d∈dsts l.toArray,d<a0.tmps.size:=fun d B=>by
  rw[L]at B;simpa using cL.1 E d B
 refine wpAny_head (k:=k) (F:=fun d v w=>(S d).sat v w) (J:=fun _ _=>True) (a0:=a0) (w0:=w.drew) q (fun d v w w' R h=>(S d).mono v w w' R h) s (back_of m) (by simpa using U) (fun i o W t=>stepsTo_of steps i o W (by simpa using t)) (fun a w' listed G n y=>?_) _ _ _ _ ⟨by simp,fun j oj n u=>?_⟩ ?_ trivial (fun j Y O=>by simp only[au,cw,aj O];rfl) ?_
 ·have z:=G.shape;rw[L]at z;rw[z];have:=done (fun d=>a.tmps.getD d undef) w' G.grows (fun d B=>?_)
  ·simpa using this
  have A:d∈dsts (l.take k).toArray:=by rw[C];simpa using B
  unfold dsts at A;obtain⟨o,t,H⟩:=eE.1 A;obtain⟨j,n⟩:=pP t;have b:(l.take k)[j]? =some o:=by simpa using n
  rw[eS]at b;by_cases e:j<k
  ·rw[aj e]at b;exact G.new j o d (by simpa using b) (y j e) H
  rw[af e]at b;cases b
 ·have g:j<l.toArray.size:=(aL.1 n).1;simp only[au,cw,aj g]at u;cases u
 ·refine⟨aS.refl _,rfl,rfl,fun _ _=>rfl,fun j oj d n u=>?_⟩;have g:j<l.toArray.size:=(aL.1 n).1;simp only[au,cw,aj g]at u;cases u
 have:=kO (p:=fun i=> !(Array.replicate l.toArray.size false).getD i true) (l:=List.range l.toArray.size);simpa using this
theorem st_j{a:Array Oper}{Q:Exit->Act->Ub->Prop}{S:Tmp->Kd}{a0:Act}{w0:Ub}{o:Oper}(h:St P a Q S a0 w0 o):StepJ P a Q (fun d v w=>(S d).sat v w) (fun _ _=>True) a0 w0 o:=stepJ_of h (fun _ _ _ _ _ _=>trivial)
theorem st_load_was{b:Array Oper}{Q:Exit->Act->Ub->Prop}{S:Tmp->Kd}{a0:Act}{w0:Ub}{o:Oper}(d t:Tmp)(ty:TypeId)(p:Addr)(v:Uc)(i:Runs b S o)(k:o.op=.load ty (.tmp t))(f:o.dst=some d)(g:(dsts b).contains t=false)(j:a0.tmps.getD t undef=TZ (some p))
  (e:w0.cell? p=some v)(l:∀w:Ub,w.cell? p=some v->(Instr.loadAt ty (TZ (some p))).run P w=.ok v w)(m:S d=.eq v):St P b Q S a0 w0 o:=
 st_run i fun a w c=>wp_value d f (v:=v) (by
  have e1:=c.was t g;rw[j]at e1;unfold execOp;simp only[k,e1,aY,l w ((c.grows.cell (fM e)).trans e),Result.andThen];rfl) (by rw[m];rfl)
theorem st_load_at{b:Array Oper}{Q:Exit->Act->Ub->Prop}{S:Tmp->Kd}{a0:Act}{w0:Ub}{o:Oper}(d t:Tmp)(ty:TypeId)(p:Addr)(v:Uc)(j:Runs b S o)(k:o.op=.load ty (.tmp t))(g:o.dst=some d)(i:(deps b o).contains t=true)(e:S t=.eq (TZ (some p)))
  (f:w0.cell? p=some v)(l:∀w:Ub,w.cell? p=some v->(Instr.loadAt ty (TZ (some p))).run P w=.ok v w)(m:S d=.eq v):St P b Q S a0 w0 o:=
 st_run j fun a w c=>wp_value d g (v:=v) (by
  have e1:=c.at t i;rw[e]at e1;have e2:a.eval (.tmp t)=TZ (some p):=e1;unfold execOp;simp only[k,e2,aY,l w ((c.grows.cell (fM f)).trans f),Result.andThen];rfl) (by rw[m];rfl)
theorem st_one{b:Array Oper}{Q:Exit->Act->Ub->Prop}{S:Tmp->Kd}{a0:Act}{w0:Ub}{o:Oper}(d t:Tmp)(u v:Uc)(g:Runs b S o)(e:o.dst=some d)(f:(deps b o).contains t=true)(c:S t=.eq u)
  (i:∀(a:Act) (w:Ub),a.eval (.tmp t)=u->(execOp a.eval o).run P w=.ok (.value v) w)(j:S d=.eq v):St P b Q S a0 w0 o:=
 st_run g fun a w k=>wp_value d e (v:=v) (i a w (by have e1:=k.at t f;rw[c]at e1;exact e1)) (by rw[j];rfl)
theorem st_built{b:Array Oper}{Q:Exit->Act->Ub->Prop}{S:Tmp->Kd}{a0:Act}{w0:Ub}{o:Oper}(d:Tmp)(t:TypeId)(parts:Array (Nat×Operand))(vals:Array (Nat×Uc))(cells:Array Uc)(f:Runs b S o)(j:o.op=.build t parts)(c:o.dst=some d)
  (g:∀(a:Act) (w:Ub),Ctx b S a0 w0 o a w->(parts.map fun(i,x)=>(i,a.eval x))=vals)(e:∀w,(Instr.build t vals).run P w=.ok (T1 cells) w)(k:S d=.eq (T1 cells)):St P b Q S a0 w0 o:=
 st_run f fun a w l=>wp_value d c (v:=T1 cells) (by
  unfold execOp;simp only[j,g a w l,aY,e w,Result.andThen];rfl) (by rw[k];rfl)
theorem st_builtSlice{c:Array Oper}{Q:Exit->Act->Ub->Prop}{S:Tmp->Kd}{a0:Act}{w0:Ub}{o:Oper}(d:Tmp)(t e:TypeId)(b size:Nat)(parts:Array (Nat×Operand))(vals:Array (Nat×Uc))(cells:List Uc)(k:Runs c S o)(m:o.op=.buildSlice t b parts)(g:o.dst=some d)
  (l:∀(a:Act) (w:Ub),Ctx c S a0 w0 o a w->(parts.map fun(i,x)=>(i,a.eval x))=vals)(j:∀w,(Instr.buildSlice t b vals).run P w=.ok (T0 (some ⟨w.heap.size,0,none⟩) b b) (w.alloc (Ua cells.toArray e)))(n:cells.length=b*size)
  (p:S d=.row size b cells):St P c Q S a0 w0 o:=
 st_run k fun a w q=>by
  unfold Oper.wp execOp;simp only[m,l a w q,aY,j w,bd];refine⟨_,rfl,fun r f=>?_,(aS.refl w).alloc _⟩;rw[g]at f;cases f;rw[p];exact⟨_,_,rfl,(gZ w cells e size b n).more (by simp)⟩
end Any
end
section
open Go.RowKit
theorem ED{size at_ width:Int}(h:wrongN size at_ width=0):KJ width/\0<=at_/\at_+width<=size:=by
 unfold wrongN at h;by_cases a:width≠1/\width≠2/\width≠4/\width≠8
 ·rw[aj a]at h;omega
 rw[af a]at h;by_cases b:at_<0\/size - width<at_
 ·rw[aj b]at h;omega
 exact⟨by unfold KJ;omega,by omega,by omega⟩
theorem JN(l:List Nat)(g:∀b∈l,b<256)(A:Option Addr)(n c:Nat)(at_ width:Int)(d:Bool)(w:Ub)(j:bh w w.heap.size 1 A n (dN l))(k:n<=1000000):
  Calls prog 59 #[T0 A n c,TY T6 at_,TY T6 width,T2 d] w (uc l at_ width d w):=by
 have i:n=l.length:=by have:=j.1;rw[fP]at this;omega
 by_cases f:wrongN n at_ width=0
 ·obtain⟨e,o,p⟩:=ED f;obtain⟨a,rfl⟩:∃a:Nat,at_=a:=⟨at_.toNat,by omega⟩;have m:1<=width/\width<=8:=by rcases e with h|h|h|h<;>omega
  obtain⟨v,rfl⟩:∃v:Nat,width=v:=⟨width.toNat,by omega⟩;exact JI l g A n c a v d w j i k f (by omega) (by omega) (by omega)
 exact QA l A n c at_ width d w i k f
namespace Any
variable {P:Program} {ops:Array Oper} {Q:Exit->Act->Ub->Prop} {S:Tmp->Kd} {a0:Act} {w0:Ub}
theorem sx_fit{o:Oper}(d:Tmp)(b:Runs ops S o)(c:o.dst=some d)(f:∀(a:Act) (w:Ub),Ctx ops S a0 w0 o a w->∃v,(execOp a.eval o).run P w=.ok (.value v) w/\(S d).sat v w):St P ops Q S a0 w0 o:=
 st_run b fun a w i=>by
  obtain⟨v,g,e⟩:=f a w i;exact wp_value d c g e
end Any
def Kd.str(n:Nat):Kd:=⟨fun v _=>∃s:ByteArray,v=.string s/\s.size<=n,fun _ _ _ _ h=>h⟩
def NO(B:Nat)(t:TypeId)(cs:Array Uc)(v:Uc)(w:Ub):Prop:=∃g,v=TZ (some ⟨g,0,none⟩)/\B<=g/\bK w g t cs
def Kd.SJ(B:Nat)(t:TypeId)(cs:Array Uc):Kd:=⟨NO B t cs,fun _ _ _ d ⟨g,c,b,a⟩=>⟨g,c,b,a.below d a.lt⟩⟩
theorem Any.SH{P:Program}{ops:Array Oper}{Q:Exit->Act->Ub->Prop}{S:Tmp->Kd}{a0:Act}{w0:Ub}{o:Oper}(d:Tmp)(ty:TypeId)(t:TypeId)(cs:Array Uc)(B:Nat)(e:Any.Runs ops S o)(f:o.op=.alloc ty)(c:o.dst=some d)(j:B<=w0.heap.size)
  (g:∀W:Ub,(Instr.alloc ty true (T4 #[])).run P W=.ok (TZ (some ⟨W.heap.size,0,none⟩)) (W.alloc (Ua cs t)))(i:S d=.SJ B t cs):Any.St P ops Q S a0 w0 o:=
 Any.st_run e fun a w k=>by
  unfold Oper.wp execOp;simp only[f,aY,g w,bd];refine⟨_,rfl,fun l b=>?_,(aS.refl w).alloc _⟩;rw[c]at b;cases b;rw[i];exact⟨w.heap.size,rfl,ax j k.grows.size,bK.new w _ _⟩
def Ad(o:Option Nat):Int:=match o with|some k=>(k:Int)|none=> -1
theorem vg{α:Type}[Inhabited α]{l:List α}{f:α->Bool}{k:Nat}(b:k<l.length)(c:f (l.getD k default)=true)(h:∀j,j<k->f (l.getD j default)=false):Ad (l.findIdx? f)=(k:Int):=by
 have:l.findIdx? f=some k:=by
  rw[jm];have e:∀j (a:j<l.length),l.getD j default=l[j]:=fun j a=>by rw[aa,ah a];rfl
  refine⟨b,by rw[<-e k b];exact c,fun j a=>?_⟩;rw[<-e j (by omega),h j a];simp
 rw[this];rfl
theorem vh{α:Type}[Inhabited α]{l:List α}{f:α->Bool}(h:∀k,k<l.length->f (l.getD k default)=false):Ad (l.findIdx? f)= -1:=by
 have:l.findIdx? f=none:=by
  rw[lR];intro x b;obtain⟨i,a,e⟩:=fj b;have:=h i a;rw[aa,ah a]at this;rw[<-e];exact this
 rw[this];rfl
theorem xj{α:Type}(l:List α)(f:α->Bool):decide (0<=Ad (l.findIdx? f))=l.any f:=by
 cases e:l.findIdx? f with
 |none=>
  rw[lR]at e;have:l.any f=false:=by rw[tB];intro x c;rw[e x c];simp
  rw[this];rfl
 |some k=>
  obtain⟨a,b,_⟩:=jm.1 e;have:l.any f=true:=vE.2 ⟨_,bj a,b⟩;rw[this];show decide (0<=(k:Int))=true
  simp
theorem qM{k:IntKind}{a b:Int}(h:a=b):Ending.returned (TY k a)=.returned (TY k b):=by rw[h]
abbrev nB(g:FuncId):Prop:=∀(args:Array Uc) (W:Ub),(callFunc g args).run prog W=.ok (.enter g args) W
abbrev Rj(w:Ub)(B:Nat)(A:Option Addr)(l:List Cd):Prop:=bh w B 4 A l.length (cR l)
abbrev QD(w:Ub)(B:Nat)(A:Option Addr)(l:List Int):Prop:=bh w B 1 A l.length (l.map (Value.int T6))
theorem Hj(l:List Cd)(hl:l.length<=1000000)(p:Cd->Bool)(g:FuncId)(caps:Array Uc)(ad:nB g)(A:Option Addr)(c B:Nat)(w:Ub)(y:B<=w.heap.size)(J:Rj w B A l)
  (H:∀k,k<l.length->∀W,Below w.heap.size w W->True->TV g (#[T1 (l.getD k default).vals.toArray]++caps) W (T2 (p (l.getD k default)))):
  TV 127 #[T0 A l.length c,.func (.func g) #[] caps] w (TY T6 (Ad (l.findIdx? p))):=by
 generalize M:l.length=n at*;obtain⟨D,V⟩:=aA M J;clear M J;have C:=Lib.hid H;clear H;go_enter func127,ntmps127;go_wp2_with fail;go_loopw [8] (fun i wr=>∃k:Nat,k<=n/\i=TY T6 k/\(∀j,j<k->p (l.getD j default)=false)/\Below w.heap.size w wr) (fun i _=>n - (intOf i).toNat)
 case atStart=>exact⟨0,by omega,rfl,fun j N=>absurd N (by omega),aw _ _⟩
 case round=>
  obtain⟨k,hk,rfl,r,q⟩:=hrel;have z:=q.size;have o:=Lib.hid r;clear r;by_cases m:k<n
  ·have ab:(k:Int)<(n:Int):=by omega
   obtain⟨b,Y,rfl,hb,F,G,E,L⟩:=(show bh wr B 4 A n (cR l) from D.out▸(V.out.below (q.mono y))).Ts m;have S:b<wr.heap.size:=by omega
   have a:=C.out k m;have hq:p (l.getD k default)=false\/p (l.getD k default)=true:=by cases p (l.getD k default)<;>simp
   generalize u:p (l.getD k default)=R at*;generalize ag:l.getD k default=X at F G E L a;obtain⟨U,Z,T,O⟩:=X;simp only at F G E L;replace a:∀W,Below w.heap.size w W->True->TV g (#[T1 #[TY T6 U,TY T6 Z,TY T8 T,TY T8 O]]++caps) W (T2 R):=a;obtain⟨t,s,x⟩:=aC a u q;clear a u q;go_wp2_with fail;refine(t.out _ x.out trivial).mono ?_;rintro e w6 ⟨rfl,v⟩;have d:=x.out.trans (v.mono z);have f:=Lib.hid d;clear d;clear v t;rcases hq with hq|hq
   ·subst hq;go_wp2_with fail;go_roundw;case rel=>exact⟨k+1,by omega,by go_num,fun j N=>if e:j=k then by rw[e];exact s.out else o.out j (by omega),f.out⟩
    case measure=>simp[intOf];omega
   subst hq;go_wp2_with fail;go_ret;exact⟨qM (vg (by rw[D.out];exact m) s.out o.out).symm,f.out⟩
  obtain rfl:n=k:=by omega
  have x:=Lib.hid q;clear q;go_wp2_with fail;go_ret;exact⟨qM (vh (by rw[D.out];exact o.out)).symm,x.out⟩
theorem si(l:List Cd)(q:l.length<=1000000)(p:Cd->Bool)(g:FuncId)(caps:Array Uc)(b:nB g)(A:Option Addr)(c B:Nat)(w:Ub)(a:B<=w.heap.size)(j:Rj w B A l)
  (i:∀k,k<l.length->∀W,Below w.heap.size w W->True->TV g (#[T1 (l.getD k default).vals.toArray]++caps) W (T2 (p (l.getD k default)))):
  TV 75 #[T0 A l.length c,.func (.func g) #[] caps] w (T2 (l.any p)):=by
 have m:=Hj l q p g caps b A c B w a j i;have f:=xj l p;generalize Ad (l.findIdx? p)=r at*;generalize l.any p=t at*;generalize l.length=n at*;clear i j;have o:=Lib.hid f;clear f;go_enter func75,ntmps75;go_wp2_with fail;refine m.mono ?_;rintro e s ⟨rfl,d⟩;clear m;go_wp2_with fail;go_ret;exact⟨by show Ending.returned (T2 (decide (0<=r)))=_;rw[o.out],d⟩
theorem yK(l:List Rl)(hl:l.length<=1000000)(p:Rl->Bool)(g:FuncId)(caps:Array Uc)(ab:nB g)(A:Option Addr)(c B:Nat)(w:Ub)(D:B<=w.heap.size)(O:eI w B A l)
  (N:∀k,k<l.length->∀z C W,Below w.heap.size w W->bh W B 4 z (l.getD k default).conds.length (cR (l.getD k default).conds)->TV g (#[T1 #[.string (l.getD k default).name,TY T6 (l.getD k default).kind,TY T6 (l.getD k default).num,T0 z (l.getD k default).conds.length C]]++caps) W (T2 (p (l.getD k default)))):
  TV 79 #[T0 A l.length c,.func (.func g) #[] caps] w (TY T6 (Ad (l.findIdx? p))):=by
 generalize S:l.length=n at*;obtain⟨G,V⟩:=aA S O;clear S O;have F:=Lib.hid N;clear N;go_enter func79,ntmps79;go_wp2_with fail;go_loopw [8] (fun i wr=>∃k:Nat,k<=n/\i=TY T6 k/\(∀j,j<k->p (l.getD j default)=false)/\Below w.heap.size w wr) (fun i _=>n - (intOf i).toNat)
 case atStart=>exact⟨0,by omega,rfl,fun j T=>absurd T (by omega),aw _ _⟩
 case round=>
  obtain⟨k,hk,rfl,s,r⟩:=hrel;have E:=r.size;have q:=Lib.hid s;clear s;by_cases o:k<n
  ·have Z:(k:Int)<(n:Int):=by omega
   obtain⟨b,Y,z,C,rfl,hb,L,M,J,R,d⟩:=(V.out.below (r.mono D)).at_ (k:=k) (by rw[G.out];exact o);have U:b<wr.heap.size:=by omega
   have a:=F.out k o;have hq:p (l.getD k default)=false\/p (l.getD k default)=true:=by cases p (l.getD k default)<;>simp
   generalize v:p (l.getD k default)=pv at*;generalize ad:l.getD k default=X at L M J R d a;obtain⟨rn,rk,rm,rc⟩:=X;simp only at L M J R d a;have H:=Lib.hid d;clear d;obtain⟨u,t,y⟩:=aC a v r;clear a v r;go_wp2_with fail;refine(u.out z C _ y.out H.out).mono ?_;rintro e w6 ⟨rfl,x⟩;have f:=y.out.trans (x.mono E);have m:=Lib.hid f;clear f;clear x u;rcases hq with hq|hq
   ·subst hq;go_wp2_with fail;go_roundw;case rel=>exact⟨k+1,by omega,by go_num,fun j T=>if e:j=k then by rw[e];exact t.out else q.out j (by omega),m.out⟩
    case measure=>simp[intOf];omega
   subst hq;go_wp2_with fail;go_ret;exact⟨qM (vg (by rw[G.out];exact o) t.out q.out).symm,m.out⟩
  obtain rfl:n=k:=by omega
  have y:=Lib.hid r;clear r;go_wp2_with fail;go_ret;exact⟨qM (vh (by rw[G.out];exact q.out)).symm,y.out⟩
theorem so(l:List Rl)(s:l.length<=1000000)(p:Rl->Bool)(g:FuncId)(caps:Array Uc)(b:nB g)(A:Option Addr)(c B:Nat)(w:Ub)(a:B<=w.heap.size)(m:eI w B A l)
  (j:∀k,k<l.length->∀i q W,Below w.heap.size w W->bh W B 4 i (l.getD k default).conds.length (cR (l.getD k default).conds)->TV g (#[T1 #[.string (l.getD k default).name,TY T6 (l.getD k default).kind,TY T6 (l.getD k default).num,T0 i (l.getD k default).conds.length q]]++caps) W (T2 (p (l.getD k default)))):
  TV 121 #[T0 A l.length c,.func (.func g) #[] caps] w (T2 (l.any p)):=by
 have o:=yK l s p g caps b A c B w a m j;have f:=xj l p;generalize Ad (l.findIdx? p)=t at*;generalize l.any p=v at*;generalize l.length=n at*;clear j m;have r:=Lib.hid f;clear f;go_enter func121,ntmps121;go_wp2_with fail;refine o.mono ?_;rintro e u ⟨rfl,d⟩;clear o;go_wp2_with fail;go_ret;exact⟨by show Ending.returned (T2 (decide (0<=t)))=_;rw[r.out],d⟩
theorem Hk(l:List Int)(hl:l.length<=1000000)(p:Int->Bool)(g:FuncId)(caps:Array Uc)(S:nB g)(A:Option Addr)(c B:Nat)(w:Ub)(y:B<=w.heap.size)(H:QD w B A l)
  (F:∀k,k<l.length->∀W,Below w.heap.size w W->True->TV g (#[TY T6 (l.getD k default)]++caps) W (T2 (p (l.getD k default)))):
  TV 269 #[T0 A l.length c,.func (.func g) #[] caps] w (TY T6 (Ad (l.findIdx? p))):=by
 generalize J:l.length=n at*;obtain⟨E,O⟩:=aA J H;clear J H;have D:=Lib.hid F;clear F;go_enter func269,ntmps269;go_wp2_with fail;go_loopw [8] (fun i wr=>∃k:Nat,k<=n/\i=TY T6 k/\(∀j,j<k->p (l.getD j default)=false)/\Below w.heap.size w wr) (fun i _=>n - (intOf i).toNat)
 case atStart=>exact⟨0,by omega,rfl,fun j L=>absurd L (by omega),aw _ _⟩
 case round=>
  obtain⟨k,Y,rfl,r,q⟩:=hrel;have C:=q.size;have o:=Lib.hid r;clear r;by_cases m:k<n
  ·have R:(k:Int)<(n:Int):=by omega
   obtain⟨b,z,rfl,U,G⟩:=(show bh wr B 1 A n (l.map (Value.int T6)) from E.out▸(O.out.below (q.mono y))).Tu (by omega);have N:b<wr.heap.size:=by omega
   have M:wr.cell? ⟨b,z+k,none⟩=some (TY T6 (l.getD k default)):=G k m;clear G;have a:=D.out k m;have hq:p (l.getD k default)=false\/p (l.getD k default)=true:=by cases p (l.getD k default)<;>simp
   generalize u:p (l.getD k default)=X at*;generalize T:l.getD k default=Z at M a;try simp only at a
   obtain⟨t,s,x⟩:=aC a u q;clear a u q;go_wp2_with fail;refine(t.out _ x.out trivial).mono ?_;rintro e V ⟨rfl,v⟩;have d:=x.out.trans (v.mono C);have f:=Lib.hid d;clear d;clear v t;rcases hq with hq|hq
   ·subst hq;go_wp2_with fail;go_roundw;case rel=>exact⟨k+1,by omega,by go_num,fun j L=>if e:j=k then by rw[e];exact s.out else o.out j (by omega),f.out⟩
    case measure=>simp[intOf];omega
   subst hq;go_wp2_with fail;go_ret;exact⟨qM (vg (by rw[E.out];exact m) s.out o.out).symm,f.out⟩
  obtain rfl:n=k:=by omega
  have x:=Lib.hid q;clear q;go_wp2_with fail;go_ret;exact⟨qM (vh (by rw[E.out];exact o.out)).symm,x.out⟩
theorem Ah(l:List Int)(q:l.length<=1000000)(p:Int->Bool)(g:FuncId)(caps:Array Uc)(b:nB g)(A:Option Addr)(c B:Nat)(w:Ub)(a:B<=w.heap.size)(j:QD w B A l)
  (i:∀k,k<l.length->∀W,Below w.heap.size w W->True->TV g (#[TY T6 (l.getD k default)]++caps) W (T2 (p (l.getD k default)))):
  TV 206 #[T0 A l.length c,.func (.func g) #[] caps] w (T2 (l.any p)):=by
 have m:=Hk l q p g caps b A c B w a j i;have f:=xj l p;generalize Ad (l.findIdx? p)=r at*;generalize l.any p=t at*;generalize l.length=n at*;clear i j;have o:=Lib.hid f;clear f;go_enter func206,ntmps206;go_wp2_with fail;refine m.mono ?_;rintro e s ⟨rfl,d⟩;clear m;go_wp2_with fail;go_ret;exact⟨by show Ending.returned (T2 (decide (0<=r)))=_;rw[o.out],d⟩
end
section
open Go.RowKit Go.Shelf
attribute [local go_sem] Oper.semAt_some
theorem oF{w:Ub}{base:Nat}{e:TypeId}{size:Nat}{v:Uc}{n:Nat}{xs:List Uc}(h:w.ownsRow base e size v n xs):∃A c,v=T0 A n c/\n<=c/\c<=maxLen/\bh w w.heap.size size A n xs:=by
 obtain⟨A,c,rfl,a⟩:=cX h;obtain⟨o,k⟩:=h;rcases k with⟨e1,e2⟩|⟨g,cap,f,e1,m,l,i,d,_⟩
 ·injection e1 with _ j b;exact⟨A,c,rfl,by omega,by omega,a⟩
 injection e1 with e2 j b;subst b;exact⟨A,c,rfl,i,d,a⟩
theorem BD{W c:Ub}{B base:Nat}{e:TypeId}{size n:Nat}{v:Uc}{xs:List Uc}{row:Option Nat}(h:W.ownsRow base e size v n xs)(d:W.grownBy c row)(k:∀r,row=some r->B<=r/\∃o:Obj,W.heap[r]? =some o/\o.isCells=false):c.ownsRow base e size v n xs:=by
 refine h.kept d ?_;cases b:v.ownBlock with
 |none=>exact .inl rfl
 |some g=>
  right
  intro e1;obtain⟨_,o,a,l⟩:=k g e1.symm;rcases h.2 with⟨rfl,_⟩|⟨f,cap,i,rfl,_,j,_⟩
  ·cases b
  have:f=g:=by simpa[Value.ownBlock]using b
  subst this;rw[j]at a;injection a with a
  subst a;cases l
theorem K9{W b:Ub}{base:Nat}{e:TypeId}{size n:Nat}{v:Uc}{xs:List Uc}(h:W.ownsRow base e size v n xs)(a:Below W.heap.size W b):b.ownsRow base e size v n xs:=by
 refine h.kept (row:=none) ⟨a.os,a.tape,a.output,a.size,fun k c _=>a.block k c⟩ ?_;cases v.ownBlock with
 |none=>exact .inl rfl
 |some g=>exact .inr (fun e=>by cases e)
theorem NP{w:Ub}{B B':Nat}{e:TypeId}{size n:Nat}{xs:List Uc}{v:Uc}(f:B'<=B)(h:w.ownsRow B e size v n xs):w.ownsRow B' e size v n xs:=by
 refine⟨h.1,?_⟩;rcases h.2 with d|⟨g,cap,a,c,b,i⟩
 ·exact .inl d
 exact .inr ⟨g,cap,a,c,ax f b,i⟩
theorem EP{W:Ub}{B:Nat}{e:TypeId}{size n:Nat}{xs:List Uc}{v:Uc}(h:W.ownsRow B e size v n xs){p:Addr}(i:v.ownBlock≠some p.block)(u:Uc):(W.setCell p u).ownsRow B e size v n xs:=by
 refine⟨h.1,?_⟩;rcases h.2 with c|⟨g,cap,a,f,b,j,d⟩
 ·exact .inl c
 subst f;exact .inr ⟨g,cap,a,rfl,b,(cK _ _ _ _ (fun e=>i (by simp[Value.ownBlock,e]))).trans j,d⟩
theorem uq{W b:Ub}(h:Below W.heap.size W b):KeepsOthers W b:=⟨h.size,fun k o a _=>(h.block k (aL.1 a).1).trans a⟩
def wi(b:List Nat):List I:=if oh b.length=0 then JM b else[]
def rK(b:List Nat)(w:Ub)(e:Ending)(w':Ub):Prop:=
 ∃v,e=.returned (T4 #[v,TY T6 (oh b.length:Nat)])/\w'.ownsRow w.heap.size 157 4 v (wi b).length (gx (wi b))/\Below w.heap.size w w'
theorem Ht{l:List Nat}(e:∀b∈l,b<256){W:Ub}{B b a x:Nat}(i:8*x+8<=l.length)(f:b<B)(g:∀j,j<8->W.cell? ⟨b,a+(8*x+j),none⟩=some (TY .u8 ((l.getD (8*x+j) 0:Nat):Int))):
  bh W B 1 (some ⟨b,a+8*x,none⟩) 8 (dN ((l.drop (8*x)).take 8)):=by
 refine⟨by rw[fP];simp;omega,fun _=>⟨_,rfl,f,fun j u d=>?_⟩⟩;have c:j<8:=by
  have:=(cF.1 d).1;rw[fP]at this;simp at this;omega
 rw[Addr.add_mid,show a+8*x+j=a+(8*x+j)by omega,g j c,<-d];unfold dN;rw[cO,eS,aj c,r8];simp[show 8*x+j<l.length by omega]
theorem mS(l:List Nat)(i j:Nat)(a:j<8):((l.drop i).take 8).getD j 0=l.getD (i+j) 0:=by
 rw[aa,eS,aj a,r8,<-aa]
theorem La(l:List Nat)(i:Nat)(h:i+8<=l.length):getN ((l.drop i).take 8) 0 2 false=l.getD i 0+256*l.getD (i+1) 0:=by
 have a:((l.drop i).take 8).length=8:=by simp;omega
 unfold getN;rw[a,aj (by decide)];simp only[pT,mc,Int.reduceToNat,fI,OQ,dc,dA,aJ,a8,fE,mj,lW,bC,bL];rw[mS _ _ _ (by omega),mS _ _ _ (by omega)];simp only[Nat.reduceSub,cV,cP,Jg,Jh,Nat.mul_zero];omega
theorem QE(l:List Nat)(i:Nat)(h:i+8<=l.length):getN ((l.drop i).take 8) 4 4 false=l.getD (i+4) 0+256*(l.getD (i+5) 0+256*(l.getD (i+6) 0+256*l.getD (i+7) 0)):=by
 have a:((l.drop i).take 8).length=8:=by simp;omega
 unfold getN;rw[a,aj (by decide)];simp only[pT,mc,Int.reduceToNat,fI,OQ,dc,dA,aJ,a8,fE,mj,lW,bC,bL];rw[mS _ _ _ (by omega),mS _ _ _ (by omega),mS _ _ _ (by omega),mS _ _ _ (by omega)];simp only[Nat.reduceSub,cV,cP,Jg,Jh,Nat.mul_zero,Nat.reduceAdd];omega
def Rk(v:Uc)(p p2 p3:Addr)(y1 y2 y3 a:Nat):Tmp->Kd:=nQ [(32,.eq v),(33,.eq (TY T8 y1)),(34,.eq (TY T9 y1)),(35,.eq (T0 (some p) 8 8)),(36,.eq (TZ (some p2))),(37,.eq (TY .u8 y2)),(38,.eq (T0 (some p) 8 8)),(39,.eq (TZ (some p3))),(40,.eq (TY .u8 y3)),
 (41,.eq (TY T8 a)),(42,.eq (TY T7 a)),(43,.eq (T1 #[TY T9 y1,TY .u8 y2,TY .u8 y3,TY T7 a])),(44,.row 4 1 [TY T9 y1,TY .u8 y2,TY .u8 y3,TY T7 a])]
def ER(d c:Nat)(w W:Ub)(l:List Nat){m:Nat}(b:List {x:Nat // x<m\/m=0})(a:Ub):Prop:=
 KeepsFrom c W a/\dC d c W a/\(∃v,a.cell? ⟨w.heap.size,0,none⟩=some v/\w.heap.size+3<=a.heap.size/\a.frozen? ⟨w.heap.size,0,none⟩=false/\a.ownsRow (w.heap.size+3) 157 4 v b.length (gx (b.map fun x=>mf l (8*x.1))))/\Below w.heap.size w a
theorem NQ(l:List Nat)(A:Option Addr)(n c:Nat)(w:Ub)(d:n=l.length)(p:n<=1000000)(a:oh n≠0):
  Calls prog 22 #[T0 A n c] w (rK l w):=by
 have m:wi l=[]:=by unfold wi;rw[af (by rw[<-d];exact a)]
 obtain⟨j,i⟩:=aA d m;clear d m;by_cases e:32768<n
 ·have b:oh n=3:=by unfold oh;rw[aj e]
  have f:(32768:Int)<(n:Int):=by omega
  have g:=Lib.hid b;clear b a;go_enter func22,ntmps22;go_wp2_with fail;go_ret2;refine⟨T0 none 0 0,?_,?_,aw _ _⟩
  ·rw[<-j.out,g.out];rfl
  rw[i.out];exact aX _ _ _ _
 have k:n % 8≠0:=by unfold oh at a;rw[af e]at a;split at a<;>omega
 have b:oh n=2:=by unfold oh;rw[af e,aj k]
 have f:¬(32768:Int)<(n:Int):=by omega
 have o:((n:Int) % 8 != 0)=true:=by simp;omega
 have g:=Lib.hid b;clear b a k;go_enter func22,ntmps22;go_wp2_with fail;go_ret2;refine⟨T0 none 0 0,?_,?_,aw _ _⟩
 ·rw[<-j.out,g.out];rfl
 rw[i.out];exact aX _ _ _ _
theorem Lb(l:List Nat)(ar:∀b∈l,b<256)(A:Option Addr)(m c:Nat)(w:Ub)(hr:bh w w.heap.size 1 A (8*m) (dN l))(hm:m<=4096)(hc:8*m<=c)(ca:c<=maxLen):
  Calls prog 22 #[T0 A (8*m) c] w (rK l w):=by
 obtain⟨i0,cg,b4,ck,cc⟩:=cZ BE;have hl:8*m=l.length:=by have:=hr.1;rw[fP]at this;omega
 have he:oh l.length=0:=by unfold oh;rw[af (by omega),af (by omega)]
 have M:wi l=sW l m:=by unfold wi JM;rw[aj he,show l.length / 8=m by omega]
 obtain⟨HL,HG,HE⟩:=aC hl M he;have ei:¬(32768:Int)<((8*m:Nat):Int):=by omega
 have d7:(((8*m:Nat):Int) % 8 != 0)=false:=by simp
 clear hl M he;refine(callsIn_wide (n:=5)).1 ?_;refine callsIn_of_wp_marks func22 rfl trivial ?_ rfl;simp only[ntmps22,dr,aM,bD,Nat.reduceAdd,Nat.reduceSub,dG,dH,dJ,dV,dc,dA];gi_wp2_with fail;refine⟨trivial,?_⟩;refine(ND Fence.wide _ trivial rfl _ _ _ _).mono ?_;rintro e w2 ⟨rfl,rfl⟩;gi_wp2_with fail;have bO:=Boxed.new w 73 (T0 none 0 0);have bS:=Boxed.new (w.alloc (Ua #[T0 none 0 0] 73)) 37 (T0 A (8*m) c);have bN:=Boxed.new ((w.alloc (Ua #[T0 none 0 0] 73)).alloc (Ua #[T0 A (8*m) c] 37)) 3 (TY T6 8);simp only[cE]at bS bN;have a1:=(bO.alloc (Ua #[T0 A (8*m) c] 37)).alloc (Ua #[TY T6 8] 3);have bm:=bS.alloc (Ua #[TY T6 8] 3);have cd:Below w.heap.size w (((w.alloc (Ua #[T0 none 0 0] 73)).alloc (Ua #[T0 A (8*m) c] 37)).alloc (Ua #[TY T6 8] 3)):=
  (((aw _ w).alloc (ae _) _).alloc (by simp) _).alloc (by simp<;>omega) _
 have ap:(((w.alloc (Ua #[T0 none 0 0] 73)).alloc (Ua #[T0 A (8*m) c] 37)).alloc (Ua #[TY T6 8] 3)).heap.size=w.heap.size+3:=by simp
 have N:(((w.alloc (Ua #[T0 none 0 0] 73)).alloc (Ua #[T0 A (8*m) c] 37)).alloc (Ua #[TY T6 8] 3)).ownsRow (w.heap.size+3) 157 4 (T0 none 0 0) 0 []:=aX _ _ _ _;generalize (((w.alloc (Ua _ 73)).alloc (Ua _ 37)).alloc (Ua _ 3))=W0 at*;obtain⟨b,d,hA,i⟩:∃b d,(0<m->A=some ⟨b,d,none⟩/\b<w.heap.size)/\(∀j,j<8*m->w.cell? ⟨b,d+j,none⟩=some (TY .u8 ((l.getD j 0:Nat):Int))):=by
  by_cases h0:0<m
  ·obtain⟨b,d,e,hb,b6⟩:=hr.TJ (k:=0) (by omega);exact⟨b,d,fun _=>⟨e,hb⟩,b6⟩
  exact⟨0,0,fun h=>absurd h h0,fun j hj=>by omega⟩
 obtain⟨pl,O⟩:∃pl:Nat->{x:Nat // x<m\/m=0},∀k,k<m->(pl k).1=k:=by
  refine⟨fun k=>if h:k<m then⟨k,.inl h⟩else⟨0,by omega⟩,fun k hk=>?_⟩;simp[hk]
 refine wpIn_rangeFunc_ownG rfl (by omega) (gf:=111) (lb:=#[TZ (some ⟨w.heap.size+1,0,none⟩),TZ (some ⟨w.heap.size+1+1,0,none⟩)]) rfl trivial (enters_of func111 (by kernel_rfl) rfl)
  (EC (fun x:{x:Nat // x<m\/m=0}=>x.1) pl Fence.wide _ trivial rfl (by omega) (w.heap.size+1) m A b d c (fun h=>(hA h).1) (by omega) hc ca O (w.heap.size+1) W0 (by omega) (by omega) bm.cell bN.cell)
  (fun h k=>dC.trans h k) (fun W l o o' b9 _ _ _=>dC.putObj W l o' b9) (aw _ _) (fun _=>rfl)
  (fun t W=>(∃v,W.cell? ⟨w.heap.size,0,none⟩=some v/\w.heap.size+3<=W.heap.size/\W.frozen? ⟨w.heap.size,0,none⟩=false/\W.ownsRow (w.heap.size+3) 157 4 v t.length (gx (t.map fun x=>mf l (8*x.1))))/\Below w.heap.size w W)
  (fun _ _ _=>False)
  (OwnFrom.and (fun s X Y row hs M hr=>⟨hs.choose,cell_kept hs.choose_spec.1 M (fun r e=>(hr r e).2),ax hs.choose_spec.2.1 M.size,(frozen_kept hs.choose_spec.1 M (fun r e=>(hr r e).2)).trans hs.choose_spec.2.2.1,BD hs.choose_spec.2.2.2 M hr⟩) (ownFrom_below (ae _) (by omega)))
  (fun _ _ _ _ _ hs _ _=>hs)
  ⟨⟨_,a1.cell,Rt ap.symm,a1.frozen,N⟩,cd⟩
  (fun x=>{tmps:=#[T0 A (8*m) c,undef,T0 none 0 0,TY T6 0,TZ (some ⟨w.heap.size,0,none⟩),T0 (some ⟨b,d+8*x.1,none⟩) 8 8,undef,undef,undef,undef,T2 (decide ((32768:Int)<8*(m:Int))),T0 A (8*m) c,TY T6 (8*(m:Int)),T2 (decide ((32768:Int)<8*(m:Int))),T2 false,T0 A (8*m) c,TY T6 (8*(m:Int)),TY T6 0,T2 false,T0 A (8*m) c,
    .func (.func 111) #[] #[TZ (some ⟨w.heap.size+1,0,none⟩),TZ (some ⟨w.heap.size+1+1,0,none⟩)],T0 (some ⟨b,d+8*x.1,none⟩) 8 8,undef,undef,undef,undef,undef,undef,undef,undef,undef,undef,undef,undef,undef,undef,undef,undef,undef,undef,undef,undef,undef,undef,undef,undef,undef],defers:=[]}) ?assign ?body ?done ?stop
 case assign=>
  intro l x W K hK;gi_wp2;exact hK
 case body=>
  rintro l' t x W ⟨⟨v,aE,ci,a2,E⟩,T⟩ cl;have d0:x.1<m:=by have:=x.2;omega
  have U:=(hA (by omega)).2;have F:=Ht ar (B:=w.heap.size) (W:=W) (x:=x.1) (by have:=HL.out;omega) U (fun j hj=>(T.cell (p:=⟨b,d+(8*x.1+j),none⟩) U).trans (i (8*x.1+j) (by omega)));have an:∀y∈(l.drop (8*x.1)).take 8,y<256:=fun y hy=>ar y (RW (gj hy))
  have bv:=La l (8*x.1) (by have:=HL.out;omega);have u:=QE l (8*x.1) (by have:=HL.out;omega);have bx:mf l (8*x.1)=⟨l.getD (8*x.1) 0+256*l.getD (8*x.1+1) 0,l.getD (8*x.1+2) 0,l.getD (8*x.1+3) 0,l.getD (8*x.1+4) 0+256*(l.getD (8*x.1+5) 0+256*(l.getD (8*x.1+6) 0+256*l.getD (8*x.1+7) 0))⟩:=rfl;obtain⟨bk,bi,a9⟩:=aC bx bv u;have d5:W0.heap.size<=w.heap.size+3:=Rt ap;clear bx bv u O bm bN bO bS a1 N ap;gi_wp2_with fail;refine⟨trivial,?_⟩;refine(CallsIn.inRound l' (callsIn_wide.2 (JN _ an _ 8 8 0 2 false W (F.more T.size) (by omega)))).mono ?_;rintro e W1 ⟨rfl,S⟩;have ak:Below w.heap.size w W1:=T.trans (S.mono T.size);have ab:=S.size;have av:w.heap.size<W.heap.size:=fM aE;gi_wp2_with fail;refine⟨trivial,?_⟩;refine(CallsIn.inRound l' (callsIn_wide.2 (JN _ an _ 8 8 4 4 false W1 (((F.more T.size).below S).more ab) (by omega)))).mono ?_;rintro e W2 ⟨rfl,a7⟩;have ai:Below w.heap.size w W2:=ak.trans (a7.mono ak.size);have z:Below W.heap.size W W2:=S.trans (a7.mono ab);rw[bi.out,a9.out];have bq:W2.cell? ⟨w.heap.size,0,none⟩=some v:=ke (p:=⟨w.heap.size,0,none⟩) z av aE;have a4:W2.frozen? ⟨w.heap.size,0,none⟩=false:=(zM (z.block _ av)).trans a2;have J:=K9 E z;have c2:W2.cell? ⟨b,d+8*x.1+2,none⟩=some (TY .u8 ((l.getD (8*x.1+2) 0:Nat):Int)):=by
   rw[show d+8*x.1+2=d+(8*x.1+2)by omega];exact(ai.cell (p:=⟨b,d+(8*x.1+2),none⟩) U).trans (i _ (by omega))
  have c3:W2.cell? ⟨b,d+8*x.1+3,none⟩=some (TY .u8 ((l.getD (8*x.1+3) 0:Nat):Int)):=by
   rw[show d+8*x.1+3=d+(8*x.1+3)by omega];exact(ai.cell (p:=⟨b,d+(8*x.1+3),none⟩) U).trans (i _ (by omega))
  have C:gx ((t++[x]).map fun x=>mf l (8*x.1))=gx (t.map fun x=>mf l (8*x.1))++I.vals (mf l (8*x.1)):=by
   rw[ew,j6];simp[gx]
  have am:=KY ar (8*x.1);rw[bk.out]at C am;obtain⟨o1,o2,o3,o4⟩:=am;simp only at o1 o2 o3 o4;simp only[I.vals]at C;generalize l.getD (8*x.1) 0+256*l.getD (8*x.1+1) 0=y1 at*;generalize l.getD (8*x.1+4) 0+256*(l.getD (8*x.1+5) 0+256*(l.getD (8*x.1+6) 0+256*l.getD (8*x.1+7) 0))=R at*;generalize l.getD (8*x.1+2) 0=y2 at*;generalize l.getD (8*x.1+3) 0=y3 at*;have HS:=Lib.hid C;have b1:IntKind.u16.wrap (y1:Int)=(y1:Int):=by simp[IntKind.wrap,IntKind.bits,IntKind.signed];omega
  have bW:IntKind.u32.wrap (R:Int)=(R:Int):=by simp[IntKind.wrap,IntKind.bits,IntKind.signed];omega
  clear C F i bi a9 bk E a2;gi_wp2_with fail;refine wpIn_mono (Q:=fun e _ w'=>e=.normal/\ER (w.heap.size+1) W0.heap.size w W l (t++[x]) w') ?_ ?_
  ·refine Any.wpIn_round_tail 13 eL (Rk v ⟨b,d+8*x.1,none⟩ ⟨b,d+8*x.1+2,none⟩ ⟨b,d+8*x.1+3,none⟩ y1 y2 y3 R) [32,33,34,35,36,37,38,39,40,41,42,43,44,45] [32,33,34,35,36,37,38,39,40,41,42,43,44] (by kernel_rfl) (by kernel_rfl) (by kernel_rfl) (by kernel_rfl) (by kernel_rfl) (by simp) (by kernel_rfl) (fun⟨_,_,h⟩=>by cases h.1)
     ⟨?_,?_,?_,?_,?_,?_,?_,?_,?_,?_,?_,?_,?_,trivial⟩ ?_
   ·exact Any.st_j (Any.st_load_was 32 4 _ _ v (.plain rfl) rfl rfl (by decide) rfl bq (fun w h=>by simp[go_sem,h]) rfl)
   ·exact Any.st_j (Any.st_was 33 6 (.plain rfl) (.inl rfl) rfl (by decide) rfl)
   ·exact Any.st_j (Any.st_conv 34 33 _ _ (TY T8 y1) (TY T9 y1) (.plain rfl) rfl rfl (by decide) (fun w=>by simp[go_sem,b1]) rfl rfl)
   ·exact Any.st_j (Any.st_was 35 5 (.plain rfl) (.inl rfl) rfl (by decide) rfl)
   ·exact Any.st_j (Any.st_one 36 35 (T0 (some ⟨b,d+8*x.1,none⟩) 8 8) (TZ (some ⟨b,d+8*x.1+2,none⟩)) (.plain rfl) rfl (by decide) rfl (fun a w h=>by unfold execOp;simp only[h];simp[go_sem]) rfl)
   ·exact Any.st_j (Any.st_load_at 37 36 _ _ _ (.plain rfl) rfl rfl (by decide) rfl c2 (fun w h=>by simp[go_sem,h]) rfl)
   ·exact Any.st_j (Any.st_was 38 5 (.plain rfl) (.inl rfl) rfl (by decide) rfl)
   ·exact Any.st_j (Any.st_one 39 38 (T0 (some ⟨b,d+8*x.1,none⟩) 8 8) (TZ (some ⟨b,d+8*x.1+3,none⟩)) (.plain rfl) rfl (by decide) rfl (fun a w h=>by unfold execOp;simp only[h];simp[go_sem]) rfl)
   ·exact Any.st_j (Any.st_load_at 40 39 _ _ _ (.plain rfl) rfl rfl (by decide) rfl c3 (fun w h=>by simp[go_sem,h]) rfl)
   ·exact Any.st_j (Any.st_was 41 8 (.plain rfl) (.inl rfl) rfl (by decide) rfl)
   ·exact Any.st_j (Any.st_conv 42 41 _ _ (TY T8 R) (TY T7 R) (.plain rfl) rfl rfl (by decide) (fun w=>by simp[go_sem,bW]) rfl rfl)
   ·exact Any.st_j (Any.st_built 43 _ _ #[(0,TY T9 y1),(1,TY .u8 y2),(2,TY .u8 y3),(3,TY T7 R)] #[TY T9 y1,TY .u8 y2,TY .u8 y3,TY T7 R] (.plain rfl) rfl rfl
     (fun a w h=>by simp[h.eqv 34 (by decide) rfl,h.eqv 37 (by decide) rfl,h.eqv 40 (by decide) rfl,h.eqv 42 (by decide) rfl]) (fun w=>by kernel_rfl) rfl)
   ·exact Any.st_j (Any.st_builtSlice 44 _ 157 1 4 _ #[(0,T1 #[TY T9 y1,TY .u8 y2,TY .u8 y3,TY T7 R])] [TY T9 y1,TY .u8 y2,TY .u8 y3,TY T7 R] (.plain rfl) rfl rfl
     (fun a w h=>by simp[h.eqv 43 (by decide) rfl]) (fun w=>by kernel_rfl) rfl rfl)
   intro f Z M hf;have h4:f 32=v:=hf 32 rfl;obtain⟨A4,b7,a5,bp⟩:JE 4 1 [TY T9 y1,TY .u8 y2,TY .u8 y3,TY T7 R] (f 44) Z:=hf 44 rfl;simp only[Any.fill,bC,bL,aq,aI,aH,h4,a5,bg,bZ];clear hf h4 a5;generalize f 33=eg,f 34=d3,f 35=d8,f 36=d1,f 37=cx,f 38=d6,f 39=c1,f 40=ec,f 41=d9,f 42=ds,f 43=ek,f 45=ed at*;have H:Below W.heap.size W Z:=(z.drew).trans (M.mono z.size);have be:Z.cell? ⟨w.heap.size,0,none⟩=some v:=ke (p:=⟨w.heap.size,0,none⟩) H av (by assumption);have bf:Z.frozen? ⟨w.heap.size,0,none⟩=false:=(zM (M.block w.heap.size (by have:=z.size;show w.heap.size<W2.heap.size;omega))).trans a4;have q:=cC M (J.drew);have cp:=H.size;have br:v.ownBlock≠some w.heap.size:=fun e=>by have:=(q.lt _ e).1;omega
   refine cU Z rfl (.tmp 32) (.tmp 44) 73 rfl (w.heap.size+3) 157 i0 _ 4 8 underlying73 cg b4 ck cc rfl (by omega) v t.length _ (by rfl) q Z.heap.size A4 1 b7 _ (by rfl) bp (by simp[Value.oneCell']) (by simp only[maxLen];omega) (by omega) (by omega) ?_;intro v4 w4 G u a6;have V:w.heap.size<Z.heap.size:=by omega
   have bB:w4.cell? ⟨w.heap.size,0,none⟩=some v:=(lS (u.block w.heap.size V (fun e=>br e.symm))).trans be;have bl:w4.frozen? ⟨w.heap.size,0,none⟩=false:=(zM (u.block w.heap.size V (fun e=>br e.symm))).trans bf;have bA:KeepsOthers Z w4:=KeepsOthers.of_grownBy u (fun j o e ho=>by
    rcases q.2 with⟨e2,_⟩|⟨g,cap,cy,e2,_,hh,_⟩
    ·rw[e2]at e;cases e
    have:g=j:=by rw[e2]at e;simpa[Value.ownBlock]using e
    subst this;rw[hh]at ho;cases ho;rfl)
   have L:=fun g e=>(q.lt g e).1
   have ch:KeepsFrom W0.heap.size W w4:=((uq H).trans bA).from _;have b2:dC (w.heap.size+1) W0.heap.size W w4:=⟨ax H.size u.size,fun k h1 h2=>(u.block k (by omega) (fun e=>by have:=L k e.symm;omega)).trans (H.block k (by omega))⟩;have bb:Below w.heap.size w w4:=(T.trans (H.mono T.size)).grown u (by omega) (fun g e=>by have:=L g e;omega);have cb:w.heap.size+3<=w4.heap.size:=by have:=u.size;omega
   have bo:v4.ownBlock≠some w.heap.size:=fun e=>by have:=(G.lt _ e).1;omega
   rw[<-HS.out]at G;obtain⟨A5,c5,rfl,_⟩:=cX G;clear q J bp u bA a6;go_wp2_with fail;refine⟨ch.trans ((KeepsOthers.setCell w4 _ _).from _),b2.setCell (.inl (by simp)) _,⟨T0 A5 (t.length+1) c5,?_,by simpa[World.setCell]using cb,(lr _ _ _ _).trans bl,?_⟩,bb.setCell (by simp) _⟩
   ·exact jA _ _ _ (by rw[bB];rfl)
   rw[show(t++[x]).length=t.length+1 by simp];exact EP G (fun e=>bo e) _
  rintro e a' w' ⟨rfl,h⟩;unfold ER at h;gi_wp2;exact h
 case done=>
  rintro D ys W hD rfl ⟨⟨v,aE,ci,a2,E⟩,T⟩ hK;have al:((lG pl m).map fun x=>mf l (8*x.1))=sW l m:=by
   unfold lG sW;rw[cT];apply fN;intro k hk;simp only[Function.comp];rw[O k (bE.1 hk)]
  rw[al,og]at E;have HF:=Lib.hid O;clear O al;gi_wp2;refine⟨by simp,.inl ⟨_,_,rfl,run_takeDeferred hK,?_⟩⟩;refine⟨_,results_tmp2 rfl _ _ _,?_⟩;refine⟨v,?_,?_,T.trans (belowK_b (w:=w) (ae _) W D _ _ (by omega) hK rfl rfl)⟩
  ·rw[HE.out];rfl
  rw[HG.out,oD];exact NP (by omega) (BD (B:=0) E (grownBy_putObj' W D _) (fun r e=>by cases e;exact⟨iS _,_,hK,rfl⟩))
 case stop=>
  rintro D c t W _ _ h _;exact h.elim
theorem Lc(l:List Nat)(d:∀b∈l,b<256)(A:Option Addr)(n c:Nat)(w:Ub)(f:bh w w.heap.size 1 A n (dN l))(k:n<=1000000)(j:n<=c)(e:c<=maxLen):
  Calls prog 22 #[T0 A n c] w (rK l w):=by
 have g:n=l.length:=by have:=f.1;rw[fP]at this;omega
 by_cases a:oh n=0
 ·have o:n<=32768/\n % 8=0:=by
    unfold oh at a;by_cases h:32768<n
    ·rw[aj h]at a;omega
    rw[af h]at a;by_cases i:n % 8≠0
    ·rw[aj i]at a;omega
    omega
  obtain⟨m,rfl⟩:∃m,n=8*m:=⟨n / 8,by omega⟩;exact Lb l d A m c w f (by omega) j e
 exact NQ l A n c w g k a
end
end Go.Proofs.YtfammloeljmplaaGreatDoor
