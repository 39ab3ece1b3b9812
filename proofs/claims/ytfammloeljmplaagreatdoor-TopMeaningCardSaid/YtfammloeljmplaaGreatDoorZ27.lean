/- Contracts of table, tree and meeting conditions; conditions: each lemma's own. -/
import Derived.Test.YtfammloeljmplaaGreatDoorZ16
import Derived.Test.YtfammloeljmplaaGreatDoorZ21
import Derived.Test.YtfammloeljmplaaGreatDoorZ24
import Derived.Test.YtfammloeljmplaaGreatDoorZ26
open Go.Value renaming int->TY,pointer->TZ,slice->T0,agg->T1,bool->T2,tuple->T4
open Go.IntKind renaming i64->T6,u32->T7
open Go.Obj renaming cells->Ua
open Go renaming World->Ub,Value->Uc
namespace Go.Proofs.YtfammloeljmplaaGreatDoor
open Go.Proofs.Tryz
set_option maxRecDepth 100000
set_option maxHeartbeats 8000000
set_option linter.unusedVariables false
set_option linter.unusedSimpArgs false
section
open Go.RowKit
def qL:ByteArray:=⟨#[97,98,99,100,101,102,103,104,105,106,107,108,109,110,111,112,113,114,115,116,117,118,119,120,121,122]⟩
def uo:ByteArray:=⟨#[97,98,99,100,101,102,103,104,105,106,107,108,109,110,111,112,113,114,115,116,117,118,119,120,121,122,48,49,50,51,52,53,54,55,56,57,95]⟩
def jQ(s:ByteArray):Bool:=
 !s.toList.isEmpty&& !(s.toList==[100,101,102,97,117,108,116])&& !(s.toList==[120,51,50])&&decide (s.size<=30)&&decide (Lib.trimS s.data.toList uo.data.toList=[])&&
  decide (0<=Lib.indexByte qL.data.toList (((s.data[0]?.getD 0).toNat:Int)).toNat.toUInt8)
theorem Ac:∀b∈([97,98,99,100,101,102,103,104,105,106,107,108,109,110,111,112,113,114,115,116,117,118,119,120,121,122,48,49,50,51,52,53,54,55,56,57,95]:List UInt8),b.toNat<128:=by decide
theorem iL{a b:Bool}(h:a=b):Ending.returned (T2 a)=.returned (T2 b):=by rw[h]
theorem EL(s:ByteArray):s.toList.length=s.size:=by rw[ByteArray.toList_eq];exact dW
theorem EM(s:ByteArray)(F:s.size<=9223372036854775807)(w:Ub):TV 124 #[.string s] w (T2 (jQ s)):=by
 have g:=fun W=>Ai s uo W F (by decide) (fun j b D=>Ac b (iw D))
 have k:=fun c W=>qP qL c W
 have m:jQ s=(!s.toList.isEmpty&& !(s.toList==[100,101,102,97,117,108,116])&& !(s.toList==[120,51,50])&&decide (s.size<=30)&&decide (Lib.trimS s.data.toList uo.data.toList=[])&&
  decide (0<=Lib.indexByte qL.data.toList (((s.data[0]?.getD 0).toNat:Int)).toNat.toUInt8)):=rfl
 rw[m];clear m;unfold qL at k;unfold uo at g⊢;generalize Lib.trimS s.data.toList _=u at*;have a:=EL s;cases e1:s.toList.isEmpty with
 |true=>
  obtain⟨v,p,f⟩:=aC g k a;clear g k a;go_enter func124,ntmps124;go_wp2_with fail;go_ret;exact⟨iL (by simp),aw _ _⟩
 |false=>
  have i:0<s.size:=by
   rw[<-a];cases h:s.toList with
   |nil=>rw[h]at e1;cases e1
   |cons x t=>simp
  have d:(s[0]'i)=s.data[0]?.getD 0:=by
   show s.data[0]'i=_
   rw[bF i];rfl
  cases e2:s.toList==[100,101,102,97,117,108,116]with
  |true=>
   obtain⟨v,p,f,l⟩:=aB g k a d;clear g k a d;go_enter func124,ntmps124;go_wp2_with fail;go_ret;exact⟨iL (by simp),aw _ _⟩
  |false=>
  cases J:s.toList==[120,51,50]with
  |true=>
   obtain⟨v,p,f,l⟩:=aB g k a d;clear g k a d;go_enter func124,ntmps124;go_wp2_with fail;go_ret;exact⟨iL (by simp),aw _ _⟩
  |false=>
  by_cases C:s.size<=30
  ·have A:(s.size:Int)<=30:=by omega
   generalize o:Lib.indexByte qL.data.toList (((s.data[0]?.getD 0).toNat:Int)).toNat.toUInt8=E;obtain⟨v,p,f,l,z⟩:=aG g k a d o;clear g k a d o;go_enter func124,ntmps124;go_wp2_with fail;refine(v.out _).mono ?_;rintro e w5 ⟨rfl,r⟩;by_cases y:u=[]
   ·subst y;go_wp2_with fail;refine(p.out _ _).mono ?_;rintro e G ⟨rfl,rfl⟩;have n:Lib.indexByte [97,98,99,100,101,102,103,104,105,106,107,108,109,110,111,112,113,114,115,116,117,118,119,120,121,122] (((s.data[0]?.getD 0).toNat:Int)).toNat.toUInt8=E:=z.out;rw[l.out,n];clear n;go_wp2_with fail;all_goals
     go_ret;exact⟨iL (by simp[C]),r⟩
   have H:(⟨u.toArray⟩:ByteArray).toList.isEmpty=false:=by
    rw[ByteArray.toList_eq];cases u with
    |nil=>exact absurd rfl y
    |cons x t=>rfl
   have B:∀q:Bool,(decide (u=[])&&q)=false:=fun q=>by simp[y]
   generalize (⟨u.toArray⟩:ByteArray)=L at*;have M:=Lib.hid B;clear B;go_wp2_with fail;go_ret;exact⟨iL (by simp[y]),r⟩
  have A:¬(s.size:Int)<=30:=by omega
  obtain⟨v,p,f,l⟩:=aB g k a d;clear g k a d;go_enter func124,ntmps124;go_wp2_with fail;go_ret;exact⟨iL (by simp[C]),aw _ _⟩
def Hh(n:Int):Bool:=decide (n< -1)||decide (1073741823<n)
def jV(r:Rw):Bool:= !r.nums.any Hh&&(if r.mux=0 then decide (r.sub=0)else(decide (r.mux=1)||decide (r.mux=2))&&decide (1<=r.sub)&&decide (r.sub<=255))
theorem vf{a b:Bool}(h:a=b):Ending.returned (T2 a)=.returned (T2 b):=by rw[h]
theorem eU{f:FuncId}{a:Func}(d:prog.funcs[f]? =some a)(g:(a.name== "runtime.NumGoroutine")=false)(c:a.body.isNone=false):nB f:=fun args w=>by
 have b:¬a.name= "runtime.NumGoroutine" :=by simpa using g
 unfold callFunc;simp[d,b];intro e;rw[e]at c;cases c
theorem EN(n:Int)(w:Ub):TV 207 #[TY T6 n] w (T2 (Hh n)):=by
 unfold Hh;by_cases a:n< -1
 ·go_enter func207,ntmps207;go_wp2_with fail;go_ret;exact⟨vf (by simp[a]),aw _ _⟩
 go_enter func207,ntmps207;go_wp2_with fail;go_ret;exact⟨vf (by rw[aK (show¬n< -1 by omega)];simp),aw _ _⟩
theorem Hi(r:Rw)(y:r.nums.length=5)(w:Ub):TV 125 #[T1 r.vals.toArray] w (T2 (jV r)):=by
 obtain⟨q,nums,c,g⟩:=r;simp only at y;match nums,y with
 |[a0,a1,a2,a3,f],_=>
 show Calls prog _ #[T1 #[.string q,TY T6 a0,TY T6 a1,TY T6 a2,TY T6 a3,TY T6 f,TY T6 c,TY T6 g]] w _
 have v:=(aw w.heap.size w).alloc (ae _) (Ua #[.string q,TY T6 a0,TY T6 a1,TY T6 a2,TY T6 a3,TY T6 f,TY T6 c,TY T6 g] 82);have p:=bK.new w 82 #[.string q,TY T6 a0,TY T6 a1,TY T6 a2,TY T6 a3,TY T6 f,TY T6 c,TY T6 g];have o:(w.alloc (Ua #[.string q,TY T6 a0,TY T6 a1,TY T6 a2,TY T6 a3,TY T6 f,TY T6 c,TY T6 g] 82)).heap.size=w.heap.size+1:=by simp
 have m:QD (w.alloc (Ua #[.string q,TY T6 a0,TY T6 a1,TY T6 a2,TY T6 a3,TY T6 f,TY T6 c,TY T6 g] 82)) (w.heap.size+1) (some ⟨w.heap.size,1,none⟩) [a0,a1,a2,a3,f]:=by
  refine⟨rfl,fun _=>⟨_,rfl,by simp only;omega,fun j u a=>?_⟩⟩;rw[iq];match j,a with
  |0,a=>injection a with a;rw[<-a];exact p.cell 1
  |1,a=>injection a with a;rw[<-a];exact p.cell 2
  |2,a=>injection a with a;rw[<-a];exact p.cell 3
  |3,a=>injection a with a;rw[<-a];exact p.cell 4
  |4,a=>injection a with a;rw[<-a];exact p.cell 5
  |j+5,a=>simp at a
 have d:=Ah [a0,a1,a2,a3,f] (by simp) Hh 207 #[] (eU func207 (by kernel_rfl) rfl) _ 5 _ _ (by rw[o];exact ae _) m (fun k _ W _ _=>EN _ W);have l:jV ⟨q,[a0,a1,a2,a3,f],c,g⟩=(!([a0,a1,a2,a3,f].any Hh)&&(if c=0 then decide (g=0)else(decide (c=1)||decide (c=2))&&decide (1<=g)&&decide (g<=255))):=rfl;rw[l];replace d:Calls prog 206 #[T0 (some ⟨w.heap.size,1,none⟩) 5 5,.func (.func 207) #[] #[]] _ _:=d;generalize [a0,a1,a2,a3,f].any Hh=x at*;obtain⟨s,z,t⟩:=aC v p o;clear v p o;clear m l;go_enter func125,ntmps125;go_wp2_with fail;refine d.mono ?_;rintro e D ⟨rfl,n⟩;have B:=t.out;have b1:=z.out.below n (by omega);have C:=b1.cell 6;have A:=b1.cell 7;simp only[ao]at C A;have i:=s.out.trans (n.mono (by omega));have b:=Lib.hid i;clear i;clear b1 n d B t z s;cases x with
 |true=>
  go_wp2_with fail;all_goals
   go_ret;exact⟨rfl,b.out⟩
 |false=>
  by_cases e0:c=0
  ·subst e0;go_wp2_with fail;go_ret;exact⟨vf (by first|rfl|(rw[aZ];done)|(rw[aZ];simp;done)),b.out⟩
  have F:(c==0)=false:=by simpa using e0
  by_cases e1:c=1
  ·subst e1;go_wp2_with fail;all_goals
    go_ret;exact⟨vf (by first|rfl|(rw[aZ];done)|(rw[aZ];simp;done)|(rw[aZ];simp;omega)),b.out⟩
  have G:(c==1)=false:=by simpa using e1
  by_cases e2:c=2
  ·subst e2;go_wp2_with fail;all_goals
    go_ret;exact⟨vf (by first|rfl|(rw[aZ];done)|(rw[aZ];simp;done)|(rw[aZ];simp;omega)),b.out⟩
  have E:(c==2)=false:=by simpa using e2
  go_wp2_with fail;all_goals
   go_ret;exact⟨vf (by first|rfl|(rw[af e0];simp[e1,e2])),b.out⟩
theorem sx{P:Program}{e:TypeId}{q l:IntKind}(i:P.underlying e=some (.int l))(g:P.plainKey e=true)(p:P.cellsOf e=1)(d:Nat)(a c:List Int)(w:Ub):∀f:List Nat,(∀j∈f,j<a.length/\j<c.length)->
  (Op.eqItems (d+1) e 1 (a.map (Value.int q)).toArray (c.map (Value.int q)).toArray f).run P w=.ok (f.all fun j=>a.getD j 0==c.getD j 0) w
 |[],_=>by simp[Op.eqItems]
 |j::f,h=>by
  obtain⟨o,m⟩:=h j (by simp);have e1:(a.map (Value.int q)).toArray[j*1]? =some (TY q (a.getD j 0)):=by simp[o]
  have e2:(c.map (Value.int q)).toArray[j*1]? =some (TY q (c.getD j 0)):=by simp[m]
  have ih:=sx (q:=q) i g p d a c w f (fun k n=>h k (by simp[n]));simp only[Op.eqItems,aY,run_part_plain w g e1,run_part_plain w g e2,bd,run_equalIn_int w d e q l _ _ i];rw[fg];generalize (a.getD j 0==c.getD j 0)=b;cases b
  ·rfl
  exact ih
def zd(k:Int×Int):Uc:=T1 #[TY T6 k.1,TY T6 k.2]
theorem Ik(x y:Int×Int)(w:Ub):(Op.equal 312 (zd x) (zd y)).run prog w=.ok (decide (y=x)) w:=by
 obtain⟨i0,e⟩:∃i0,prog.info? 3=some i0:=⟨_,rfl⟩;have h:=run_equalIn_array (P:=prog) w 9999 (([x.1,x.2]:List Int).map (Value.int T6)).toArray (([y.1,y.2]:List Int).map (Value.int T6)).toArray underlying312 e;have f:prog.cellsOf 3=1:=by kernel_rfl
 rw[f,sx underlying3 (by kernel_rfl) f 9998 [x.1,x.2] [y.1,y.2] w _ (fun j g=>by have:=bE.1 g;simp;omega)]at h;have i:((List.range 2).all fun j=>[x.1,x.2].getD j 0==[y.1,y.2].getD j 0)=decide (y=x):=by
  rw[aZ];show((x.1==y.1)&&((x.2==y.2)&&true))=true↔_
  simp only[bG,mM,and_true,aV];obtain⟨a,b⟩:=x;obtain⟨c,d⟩:=y;simp only[Dv];omega
 rw[i]at h;exact h
theorem Rn(n:Nat)(k:Int×Int):Instr.sameBits (n+1) (zd k) (zd k)=true:=by
 unfold zd;simp[Instr.sameBits]
theorem QK(k:Int×Int):Instr.sameBits 10000 (zd k) (zd k)=true:=by
 generalize a:(10000:Nat)=n;cases n with
 |zero=>cases a
 |succ n=>exact Rn n k
theorem QL(k:Int×Int)(b:Bool)(w:Ub):(Instr.checkKey b 10000 312 (zd k)).run prog w=.ok () w:=by cases b<;>kernel_rfl
theorem Qj:GMap.Keys prog 312 zd:=by
 refine GMap.keys_asked _ _ _ underlying312 (fun _ _=>rfl) QL QK Ik
def BN(a:List (Int×Int)):List ((Int×Int)×Uc):=a.map fun k=>(k,T2 true)
theorem Il(a:List (Int×Int))(k:Int×Int):(GMap.look (BN a) k).getD (T2 false)=T2 (decide (k∈a)):=by
 induction a with
 |nil=>rfl
 |cons x t ih=>
  unfold GMap.look BN at ih⊢;rw[aJ,cG];by_cases h:x=k
  ·subst h;simp
  have:¬k=x:=fun e=>h e.symm
  simp only[aK h];rw[ih];simp[this]
theorem LG(b:List (Int×Int))(k:Int×Int):∃a,GMap.put (BN b) k (T2 true)=BN a/\∀x,x∈a↔x=k\/x∈b:=by
 induction b with
 |nil=>exact⟨[k],rfl,fun x=>by simp⟩
 |cons y t ih=>
  obtain⟨a,c,d⟩:=ih;unfold BN at c⊢;rw[aJ];unfold GMap.put;by_cases h:y=k
  ·subst h;rw[aj rfl];exact⟨y::t,rfl,fun x=>by simp⟩
  rw[af h,c];refine⟨y::a,rfl,fun x=>?_⟩;simp only[aP,d];constructor
  ·rintro(h|h|h)<;>simp[h]
  rintro(h|h|h)<;>simp[h]
abbrev rM(w:Ub)(g:Nat)(ks:List (Int×Int)):Prop:=GMap.Row w g zd (BN ks)
def ze(g:Nat)(b:List (Int×Int))(k:Int×Int)(w:Ub)(e:Ending)(w':Ub):Prop:=
 e=.returned (T2 (decide (k∈b)))/\(∃a,rM w' g a/\∀x,x∈a↔x=k\/x∈b)/\w.grownBy w' (some g)
theorem PD(g:Nat)(f:List (Int×Int))(a n:Int)(w:Ub)(h:rM w g f):Calls prog 126 #[.map (some g),TY T6 a,TY T6 n] w (ze g f (a,n) w):=by
 unfold ze;have A:=h.lt;have o:=GMap.Row.alloc h (Ua #[TY T6 a,TY T6 n] 312);have b:=GMap.run_look o Qj 252 4 underlying252 (a,n) (T2 false) (by kernel_rfl);rw[Il]at b;obtain⟨l,e,d⟩:=LG f (a,n);have B:=bK.new w 312 #[TY T6 a,TY T6 n];have i:∀s,(w.alloc (Ua #[TY T6 a,TY T6 n] 312)).grownBy s (some g)->w.grownBy s (some g):=fun s ⟨e1,e2,y,z,t⟩=>⟨e1,e2,y,ax (by simp) z,fun k u j=>(t k (by simp;omega) j).trans (iN w _ k u)⟩
 replace b:(Instr.lookup 252 (.map (some g)) (T1 #[TY T6 a,TY T6 n]) false).run prog (w.alloc (Ua #[TY T6 a,TY T6 n] 312))=.ok (T2 (decide ((a,n)∈f))) (w.alloc (Ua #[TY T6 a,TY T6 n] 312)):=b;generalize decide ((a,n)∈f)=v at*;obtain⟨x,p,q,m⟩:=aB o e d i;clear o e d i;clear h;go_enter func126,ntmps126;go_wp2_with (refine GMap.wpList_put rfl 252 (.tmp 15) (.tmp 16) (.const (T2 true)) rfl 4 Qj underlying252 g _ (a,n) (T2 true) rfl rfl rfl x.out ?_;intro w5 c r);go_ret;exact⟨rfl,⟨l,by rw[p.out]at c;exact c,q.out⟩,m.out _ r⟩
def Ii(a b:ByteArray):Bool:=Op.bytesLess a.toList b.toList||(a.toList==b.toList)
def eZ(r:Rw)(j:Nat):List (Int×Int):=(List.range j).filterMap fun a=>if r.nums.getD a (-1)= -1 then none else some ((a:Int),r.nums.getD a (-1))
def noted(r:Rw):List (Int×Int):=eZ r 5++if r.mux=0 then[]else[(5+r.mux,r.sub)]
structure ot(l:List Rw)(k:Nat):Prop where
 ranged:∀j,j<k->jV (l.getD j default)=true
 own:∀j,j<k->(l.getD j default).nums.getD 2 (-1)≠102/\(l.getD j default).nums.getD 2 (-1)≠117
 names:∀j,0<j->j<k->Ii (l.getD j default).name (l.getD (j - 1) default).name=false
 noted:((l.take k).flatMap noted).Nodup
structure gv(l:List Rw):Prop where
 len:l.length<=400
 named:∀j,j<l.length->jQ (l.getD j default).name=true
 up:ot l l.length
def pE(l:List Rw)(w:Ub)(e:Ending)(w':Ub):Prop:=(∃i a:Int,e=.returned (T4 #[TY T6 i,TY T6 a])/\(a=0↔gv l))/\Below w.heap.size w w'
theorem jn{l:List Rw}{w w':Ub}{i a:Int}(h:Below w.heap.size w w')(b:a≠0)(c:¬gv l):pE l w (.returned (T4 #[TY T6 i,TY T6 a])) w':=⟨⟨i,a,rfl,fun h=>absurd h b,fun h=>absurd h c⟩,h⟩
theorem mL(r:Rw)(j:Nat):eZ r (j+1)=eZ r j++if r.nums.getD j (-1)= -1 then[]else[((j:Int),r.nums.getD j (-1))]:=by
 unfold eZ;rw[fI,List.filterMap_append];congr 1;rw[List.filterMap_cons,List.filterMap_nil];by_cases h:r.nums.getD j (-1)= -1
 ·rw[aj h,aj h]
 rw[af h,af h]
theorem vt{l:List Rw}{k:Nat}(a:k<l.length):(l.take (k+1)).flatMap noted=(l.take k).flatMap noted++noted (l.getD k default):=by
 rw[nA l k a,bX];simp
theorem Ij{α:Type}{l:List α}{x:α}(h:l.Nodup)(f:x∉l):(l++[x]).Nodup:=by
 rw[jx];exact⟨h,by simp,fun a c b d=>by rw[bz.1 d];exact fun e=>f (e▸c)⟩
theorem zb(a0 a1 a2 a3 a:Int)(W:Ub):
 (Instr.index 59 (T1 #[TY T6 a0,TY T6 a1,TY T6 a2,TY T6 a3,TY T6 a]) (TY T6 0)).run prog W=.ok (TY T6 a0) W/\(Instr.index 59 (T1 #[TY T6 a0,TY T6 a1,TY T6 a2,TY T6 a3,TY T6 a]) (TY T6 1)).run prog W=.ok (TY T6 a1) W/\
 (Instr.index 59 (T1 #[TY T6 a0,TY T6 a1,TY T6 a2,TY T6 a3,TY T6 a]) (TY T6 2)).run prog W=.ok (TY T6 a2) W/\(Instr.index 59 (T1 #[TY T6 a0,TY T6 a1,TY T6 a2,TY T6 a3,TY T6 a]) (TY T6 3)).run prog W=.ok (TY T6 a3) W/\
 (Instr.index 59 (T1 #[TY T6 a0,TY T6 a1,TY T6 a2,TY T6 a3,TY T6 a]) (TY T6 4)).run prog W=.ok (TY T6 a) W:=⟨by kernel_rfl,by kernel_rfl,by kernel_rfl,by kernel_rfl,by kernel_rfl⟩
structure kM(L ks:List (Int×Int)):Prop where
 mem:∀x,x∈ks↔x∈L
 nodup:L.Nodup
theorem kM.put{L b a:List (Int×Int)}{p:Int×Int}(h:kM L b)(c:decide (p∈b)=false)(d:∀x,x∈a↔x=p\/x∈b):kM (L++[p]) a:=
 ⟨fun x=>by
   rw[d,h.mem,bT,bz];exact Or.comm,Ij h.nodup fun e=>cA c ((h.mem p).2 e)⟩
theorem kM.skip{L a:List (Int×Int)}{r:Rw}{j:Nat}(h:kM (L++eZ r j) a)(b:r.nums.getD j (-1)= -1):kM (L++eZ r (j+1)) a:=by
 rw[mL,aj b,dL];exact h
theorem kM.note{L b a:List (Int×Int)}{r:Rw}{j:Nat}{v:Int}(h:kM (L++eZ r j) b)(c:r.nums.getD j (-1)=v)(hv:¬v= -1)(d:decide (((j:Int),v)∈b)=false)(e:∀x,x∈a↔x=((j:Int),v)\/x∈b):kM (L++eZ r (j+1)) a:=by
 rw[mL,af (by rw[c];exact hv),c,<-dz];exact h.put d e
theorem uv(r:Rw)(j:Nat):∀m,∃t,eZ r (j+m)=eZ r j++t
 |0=>⟨[],by simp⟩
 |m+1=>by
  obtain⟨t,h⟩:=uv r j m;exact⟨t++(if r.nums.getD (j+m) (-1)= -1 then[]else[(((j+m:Nat):Int),r.nums.getD (j+m) (-1))]),by rw[<-eF,mL,h,dz]⟩
theorem zc{l:List Rw}(h:gv l){k:Nat}(b:k<l.length):((l.take k).flatMap noted++noted (l.getD k default)).Nodup:=by
 have a:=h.up.noted;rw[iW]at a;rw[<-vt b];have e:l=l.take (k+1)++l.drop (k+1):=(fl _ _).symm;rw[e,bX]at a;exact(jx.1 a).1
theorem uw{α:Type}{a b:List α}{x:α}(h:(a++([x]++b)).Nodup):x∉a:=fun c=>(jx.1 h).2.2 x c x (by simp) rfl
theorem kM.SL{l:List Rw}{k j:Nat}{c:List (Int×Int)}{v:Int}(e:k<l.length)(h:kM ((l.take k).flatMap noted++eZ (l.getD k default) j) c)(m:j<5)(a:(l.getD k default).nums.getD j (-1)=v)(hv:¬v= -1)(d:decide (((j:Int),v)∈c)=true):¬gv l:=fun n=>by
 have b:=zc n e;obtain⟨t,i⟩:=uv (l.getD k default) (j+1) (4 - j);have g:eZ (l.getD k default) 5=eZ (l.getD k default) j++([((j:Int),v)]++t):=by
  rw[show 5=j+1+(4 - j)by omega,i,mL,af (by rw[a];exact hv),a,dz]
 rw[show noted (l.getD k default)=eZ (l.getD k default) 5++(if(l.getD k default).mux=0 then[]else[(5+(l.getD k default).mux,(l.getD k default).sub)]) from rfl,g]at b;have f:((l.take k).flatMap noted++eZ (l.getD k default) j++([((j:Int),v)]++(t++if(l.getD k default).mux=0 then[]else[(5+(l.getD k default).mux,(l.getD k default).sub)]))).Nodup:=by
  simpa[dz]using b
 exact uw f ((h.mem _).1 (aN d))
theorem kM.Tf{l:List Rw}{k:Nat}{c:List (Int×Int)}{p:Int×Int}{L:List (Int×Int)}(e:k<l.length)(h:kM L c)(g:(l.take k).flatMap noted++noted (l.getD k default)=L++[p])(d:decide (p∈c)=true):¬gv l:=fun f=>by
 have a:=zc f e;rw[g]at a;exact uw (b:=[]) (by simpa using a) ((h.mem _).1 (aN d))
theorem CX{l:List Rw}{k:Nat}(h:ot l k)(a:k<l.length)(d:jV (l.getD k default)=true)(b:(l.getD k default).nums.getD 2 (-1)≠102/\(l.getD k default).nums.getD 2 (-1)≠117)
  (f:0<k->Ii (l.getD k default).name (l.getD (k - 1) default).name=false)(c:((l.take k).flatMap noted++noted (l.getD k default)).Nodup):ot l (k+1) where
 ranged j hj:=by
  rcases dB j k with e|e
  ·exact h.ranged j e
  obtain rfl:j=k:=by omega
  exact d
 own j hj:=by
  rcases dB j k with e|e
  ·exact h.own j e
  obtain rfl:j=k:=by omega
  exact b
 names j h0 hj:=by
  rcases dB j k with e|e
  ·exact h.names j h0 e
  obtain rfl:j=k:=by omega
  exact f h0
 noted:=by rw[vt a];exact c
theorem wu(l:List Rw)(h5:∀r∈l,r.nums.length=5)(fd:∀r∈l,r.name.size<=9223372036854775807)(hl:l.length<=1000000)(A:Option Addr)(c:Nat)(w:Ub)(hr:jv w w.heap.size A l):
  Calls prog 72 #[T0 A l.length c] w (pE l w):=by
 have bA:=fun g ks a n W h=>PD g ks a n W h
 unfold ze at bA;have eh:=fun s hs W=>EM s hs W
 generalize hn:l.length=n at*;by_cases hf:400<n
 ·go_enter func72,ntmps72;go_wp2_with fail;go_ret2;exact jn (aw _ _) (by omega) (fun h=>by have:=h.len;omega)
 have cm:rM (w.alloc (.map #[] 0)) w.heap.size []:=GMap.Row.new w zd;have ex:=(aw w.heap.size w).alloc (ae _) (.map #[] 0);have hE:(w.alloc (.map #[] 0)).heap.size=w.heap.size+1:=by simp
 obtain⟨Z,H5,gm,eo,f4,e4,f8,HR⟩:=aD hn h5 fd bA eh cm ex hr;clear hn h5 fd bA eh cm ex hr;have gp:=@run_makeMap (prog);go_enter func72,ntmps72;go_wp2_with fail;clear gp;generalize (w.alloc (.map _ 0))=W0 at*;go_loopw [16] (fun i wr=>∃k ks,k<=n/\i=TY T6 (k:Nat)/\rM wr w.heap.size ks/\kM ((l.take k).flatMap noted) ks/\ot l k/\(∀j,j<k->jQ (l.getD j default).name=true)/\Below w.heap.size w wr) (fun i _=>n - (intOf i).toNat)
 case atStart=>exact⟨0,[],by omega,rfl,e4.out,⟨fun x=>by simp,by simp⟩,⟨fun j hj=>absurd hj (by omega),fun j hj=>absurd hj (by omega),fun j _ hj=>absurd hj (by omega),by simp⟩,fun j hj=>absurd hj (by omega),f8.out⟩
 case round=>
  obtain⟨k,ks,hk,rfl,cd,ds,b0,dd,hB⟩:=hrel;have cu:k<l.length->jQ (l.getD k default).name=true->∀j,j<k+1->jQ (l.getD j default).name=true:=fun _ h j hj=>by
   rcases dB j k with e|e
   ·exact dd j e
   obtain rfl:j=k:=by omega
   exact h
  have em:jQ (l.getD k default).name=false->k<n->¬gv l:=fun h hk hg=>by
   have:=hg.named k (by rw[Z.out];exact hk);rw[h]at this;cases this
  obtain⟨cg,gf,f6⟩:=aC cu em dd;clear cu em dd;by_cases F:k<n
  ·have ef:=vt (l:=l) (k:=k) (by rw[Z.out];exact F);have cv:=H5.out _ (gu (l:=l) (k:=k) (by rw[Z.out];exact F));have co:=gm.out _ (gu (l:=l) (k:=k) (by rw[Z.out];exact F));obtain⟨b,ai,rfl,hb,h0,O,h6,h7⟩:=(HR.out.below hB).at_ H5.out (k:=k) (by rw[Z.out];exact F);have a6:k=0\/∃am,(l.getD (k - 1) default).name=am/\0<k/\wr.cell? ⟨b,ai+(k - 1)*8,none⟩=some (.string am):=by
    rcases fG k with h|h
    ·exact .inl h
    obtain⟨b',g9,e1,hM,gl,_⟩:=(HR.out.below hB).at_ H5.out (k:=k - 1) (by rw[Z.out];omega);injection e1 with e1
    injection e1 with e2 e3;subst e2 e3;exact .inr ⟨_,rfl,h,gl⟩
   generalize c9:l.getD k default=ck at*;obtain⟨nm,nums,N,sb⟩:=ck;simp only at cv co h0 O h6 h7;match nums,cv with
   |[a0,a1,a2,a3,R],_=>
   have g1:wr.cell? ⟨b,ai+k*8+1,none⟩=some (TY T6 a0):=O 0 (by omega);have g2:wr.cell? ⟨b,ai+k*8+2,none⟩=some (TY T6 a1):=O 1 (by omega);have g3:wr.cell? ⟨b,ai+k*8+3,none⟩=some (TY T6 a2):=O 2 (by omega);have g4:wr.cell? ⟨b,ai+k*8+4,none⟩=some (TY T6 a3):=O 3 (by omega);have g5:wr.cell? ⟨b,ai+k*8+5,none⟩=some (TY T6 R):=O 4 (by omega);have hC:(k:Int)<(n:Int):=by omega
   have eu:=hB.size;have hO:b<wr.heap.size:=by omega
   have ea:=hB.alloc eu (Ua #[.string nm,TY T6 a0,TY T6 a1,TY T6 a2,TY T6 a3,TY T6 R,TY T6 N,TY T6 sb] 82);have b1:=bK.new wr 82 #[.string nm,TY T6 a0,TY T6 a1,TY T6 a2,TY T6 a3,TY T6 R,TY T6 N,TY T6 sb];have fa:=GMap.Row.alloc cd (Ua #[.string nm,TY T6 a0,TY T6 a1,TY T6 a2,TY T6 a3,TY T6 R,TY T6 N,TY T6 sb] 82);have et:(wr.alloc (Ua #[.string nm,TY T6 a0,TY T6 a1,TY T6 a2,TY T6 a3,TY T6 R,TY T6 N,TY T6 sb] 82)).heap.size=wr.heap.size+1:=by simp
   have he:=cd.lt;have ed:jQ (l.getD k default).name=jQ nm:=by rw[c9]
   have a7:=fun W=>f4.out nm co W
   generalize jQ nm=bb at*;obtain⟨ey,B1,fi,fu,f2,f9,ei,D,HB⟩:=ay ea b1 fa et ds b0 ef c9 hB;have dl:=Lib.hid ed;clear ea b1 fa et ds b0 ef c9 hB ed;clear O cd;go_wp2_with fail;refine(a7 _).mono ?_;rintro e w2 ⟨rfl,bl⟩;clear a7;have ga:=bl.size;have hU:=fu.out;have b2:=B1.out.below bl (by omega);have b7:=GMap.Row.below fi.out bl (by omega);have bk:=ey.out.trans (bl.mono (by omega));have a6:k=0\/∃am,(l.getD (k - 1) default).name=am/\0<k/\w2.cell? ⟨b,ai+(k - 1)*8,none⟩=some (.string am):=by
    rcases a6 with h|⟨am,e1,e2,e3⟩
    ·exact .inl h
    exact .inr ⟨am,e1,e2,((bl.cell (p:=⟨b,ai+(k - 1)*8,none⟩) (by simp only;omega)).trans (cz wr _ ⟨b,ai+(k - 1)*8,none⟩ (by simp only;omega))).trans e3⟩
   have cy:wr.heap.size<w2.heap.size:=by omega
   clear h0 g1 g2 g3 g4 g5 h6 h7 bl ey fi B1;cases bb with
   |false=>
    obtain⟨bi,B2,dp⟩:=aC bk b2 b7;clear bk b2 b7;clear a6;go_wp2_with fail;all_goals
     go_ret2;exact jn bi.out (by omega) (gf.out (by first|trivial|rfl|exact dl.out) F)
   |true=>
    have c0:=b2.cell 0;have c1:=b2.cell 1;have c2:=b2.cell 2;have c3:=b2.cell 3;have c4:=b2.cell 4;have c5:=b2.cell 5;have c6:=b2.cell 6;have c7:=b2.cell 7;simp only[ao]at c0 c1 c2 c3 c4 c5 c6 c7;obtain⟨bi,B2,dp⟩:=aC bk b2 b7;clear bk b2 b7;obtain⟨lq,d8,br,bB⟩:∃lq:Bool,(lq=false->0<k->Ii nm (l.getD (k - 1) default).name=false)/\(k=0->lq=false)/\(0<k->lq=Ii nm (l.getD (k - 1) default).name):=by
     rcases fG k with h|h
     ·exact⟨false,fun _ h'=>absurd h' (by omega),fun _=>rfl,fun h'=>absurd h' (by omega)⟩
     exact⟨_,fun e _=>e,fun h'=>absurd h' (by omega),fun _=>rfl⟩
    have cl:lq=true->¬gv l:=fun e hg=>by
     rcases fG k with h|h
     ·rw[br h]at e;cases e
     have h9:=hg.up.names k h (by rw[Z.out];exact F);rw[D.out]at h9;rw[bB h]at e;simp only at h9;rw[e]at h9;cases h9
    obtain⟨fv,es,el,ej⟩:=aB d8 br bB cl;clear d8 br bB cl;go_wp2_with fail;go_cut [16,30] from 16 to 87 (fun fx fz wx=>fx=TY T6 (k:Nat)/\fz=T2 lq/\wx=w2.drew)
    case first=>
     rcases a6 with rfl|⟨am,a7,hF,fn⟩
     ·have C:=es.out rfl;subst C;go_region;go_wp2_with fail;go_meet;exact⟨rfl,rfl,rfl⟩
     obtain⟨j,rfl⟩:∃j,k=j+1:=⟨k - 1,by omega⟩;have C:=el.out (by omega);rw[a7]at C;unfold Ii at C;have fn:w2.cell? ⟨b,ai+j*8,none⟩=some (.string am):=fn;have hv:b<w2.heap.size:=by omega
     have hA:(j:Int)<(n:Int):=by omega
     have hD:(0:Int)<(j:Int)+1:=by omega
     have hH:IntKind.i64.wrap (j:Int)=(j:Int):=IntWalk.i64_in _ (by omega);subst C;go_region;go_wp2_with fail;go_meet;exact⟨by simp,rfl,rfl⟩
    case rest=>
     obtain⟨rfl,rfl,rfl⟩:=hcut;have bW:Below w.heap.size w w2.drew:=bi.out.drew;have b3:bK w2.drew wr.heap.size 82 #[.string nm,TY T6 a0,TY T6 a1,TY T6 a2,TY T6 a3,TY T6 R,TY T6 N,TY T6 sb]:=B2.out.drew;have cc:rM w2.drew w.heap.size ks:=dp.out;have ek:wr.heap.size<w2.drew.heap.size:=cy;clear c0 c1 c2 c3 c4 c5 c6 c7 bi B2 dp cy ga a6;generalize w2.drew=w3 at*;cases lq with
     |true=>
      obtain⟨b9,B3,d6⟩:=aC bW b3 cc;clear bW b3 cc;go_wp2_with fail;all_goals
       go_ret2;exact jn b9.out (by omega) (ej.out (by first|rfl|trivial))
     |false=>
      have bS:=fun W=>Hi ⟨nm,[a0,a1,a2,a3,R],N,sb⟩ rfl W
      have ec:jV ⟨nm,[a0,a1,a2,a3,R],N,sb⟩=true->N=0\/N=1\/N=2:=fun h=>by
       unfold jV at h;by_cases e:N=0
       ·exact .inl e
       simp only[e,mj,bG,df,aV]at h;exact .inr h.2.1.1
      have d9:jV (l.getD k default)=jV ⟨nm,[a0,a1,a2,a3,R],N,sb⟩:=by rw[D.out]
      replace bS:∀W,TV 125 #[T1 #[.string nm,TY T6 a0,TY T6 a1,TY T6 a2,TY T6 a3,TY T6 R,TY T6 N,TY T6 sb]] W (T2 (jV ⟨nm,[a0,a1,a2,a3,R],N,sb⟩)):=bS;generalize jV ⟨nm,[a0,a1,a2,a3,R],N,sb⟩=rv at*;obtain⟨e8,ff,b9,d6⟩:=aB d9 ec bW cc;clear d9 ec bW cc;have c0:=b3.cell 0;have c1:=b3.cell 1;have c2:=b3.cell 2;have c3:=b3.cell 3;have c4:=b3.cell 4;have c5:=b3.cell 5;have c6:=b3.cell 6;have c7:=b3.cell 7;simp only[ao]at c0 c1 c2 c3 c4 c5 c6 c7;have B3:=Lib.hid b3;clear b3;go_wp2_with fail;refine(bS _).mono ?_;rintro e w4 ⟨rfl,bv⟩;have hV:=bv.size;have b4:=B3.out.below bv ek;have aE:=GMap.Row.below d6.out bv (by omega);have U:=b9.out.trans (bv.mono (by omega));have gb:wr.heap.size<w4.heap.size:=by omega
      clear c0 c1 c2 c3 c4 c5 c6 c7 B3 d6 b9 bv ek bS;cases rv with
      |false=>
       obtain⟨T,B4,b8⟩:=aC U b4 aE;clear U b4 aE;go_wp2_with fail;all_goals
        go_ret2;exact jn T.out (by omega) (fun hg=>by have h9:=hg.up.ranged k (by rw[Z.out];exact F);rw[e8.out]at h9;cases h9)
      |true=>
       have hP:=ff.out rfl;by_cases be:a2=102
       ·have bs:¬gv l:=fun hg=>by
          have h9:=hg.up.own k (by rw[Z.out];exact F);rw[D.out]at h9;have h8:((⟨nm,[a0,a1,a2,a3,R],N,sb⟩:Rw).nums.getD 2 (-1))=102:=be;rw[h8]at h9;exact h9.1 rfl
        subst be;obtain⟨T,B4,b8,de⟩:=aB U b4 aE bs;clear U b4 aE bs;go_wp2_with fail;all_goals
         go_ret2;exact jn T.out (by omega) de.out
       by_cases bf:a2=117
       ·have bs:¬gv l:=fun hg=>by
          have h9:=hg.up.own k (by rw[Z.out];exact F);rw[D.out]at h9;have h8:((⟨nm,[a0,a1,a2,a3,R],N,sb⟩:Rw).nums.getD 2 (-1))=117:=bf;rw[h8]at h9;exact h9.2 rfl
        subst bf;obtain⟨T,B4,b8,de⟩:=aB U b4 aE bs;clear U b4 aE bs;go_wp2_with fail;all_goals
         go_ret2;exact jn T.out (by omega) de.out
       have hd:(a2==102)=false:=by simpa using be
       have ha:(a2==117)=false:=by simpa using bf
       have c1:=b4.cell 1;have c2:=b4.cell 2;have c3:=b4.cell 3;have c4:=b4.cell 4;have c5:=b4.cell 5;simp only[ao]at c1 c2 c3 c4 c5;obtain⟨B4,T,b8⟩:=aC b4 U aE;clear b4 U aE;go_wp2_with fail;clear c1 c2 c3 c4 c5;generalize wr.heap.size=gr at*;generalize an:(⟨nm,[a0,a1,a2,a3,R],N,sb⟩:Rw)=r0 at*;have d0:r0.nums.getD 0 (-1)=a0:=by rw[<-an];rfl
       have d1:r0.nums.getD 1 (-1)=a1:=by rw[<-an];rfl
       have d2:r0.nums.getD 2 (-1)=a2:=by rw[<-an];rfl
       have d3:r0.nums.getD 3 (-1)=a3:=by rw[<-an];rfl
       have d4:r0.nums.getD 4 (-1)=R:=by rw[<-an];rfl
       have er:noted r0=eZ r0 5++if N=0 then[]else[(5+N,sb)]:=by rw[<-an];rfl
       have e6:kM ((l.take k).flatMap noted++eZ r0 0) ks:=by
        have:=f2.out;show kM (_++[]) ks
        rw[dL];exact this
       have hG:=T.out.size;have ct:r0.name=nm:=by rw[<-an]
       obtain⟨D0,D1,D2,D3,D4,fy,g6,hz,e9⟩:=ay d0 d1 d2 d3 d4 er e6 an ct;clear d0 d1 d2 d3 d4 er e6 an ct;clear ff HB eu;go_loopw [60] (fun i wx=>∃j o,j<=5/\i=TY T6 (j:Nat)/\rM wx w.heap.size o/\kM ((l.take k).flatMap noted++eZ r0 j) o/\Below w.heap.size w wx/\bK wx gr 82 #[.string nm,TY T6 a0,TY T6 a1,TY T6 a2,TY T6 a3,TY T6 R,TY T6 N,TY T6 sb]/\gr<wx.heap.size) (fun i _=>5 - (intOf i).toNat)
       case atStart=>exact⟨0,ks,by omega,rfl,b8.out,g6.out,T.out,B4.out,gb⟩
       case round=>
        obtain⟨j,o,hj,rfl,m,t,z,V,ag⟩:=hrel;have E:=fun a n=>eo.out w.heap.size o a n _ m
        have bm:=z.size;by_cases ez:j<5
        ·have f5:j=0\/j=1\/j=2\/j=3\/j=4:=by omega
         clear ez hj;rcases f5 with rfl|rfl|rfl|rfl|rfl
         ·have bR:=fun W=>(zb a0 a1 a2 a3 R W).1
          by_cases S:a0= -1
          ·subst S;have d:=t.skip D0.out;obtain⟨q,y,B,BX⟩:=aB d m z V;clear d m z V;clear t E;go_wp2_with fail;go_roundw;case rel=>exact⟨1,o,by omega,by go_num,y.out,q.out,B.out,BX.out,ag⟩
           case measure=>simp[intOf]
          have gn:(a0 != -1)=true:=by simpa using S
          have hm:=E 0 a0;have d:decide (((0:Int),a0)∈o)=false->∀f,(∀x,x∈f↔x=((0:Int),a0)\/x∈o)->kM ((l.take k).flatMap noted++eZ r0 1) f:=fun C f hk=>t.note D0.out S C hk
          have v:decide (((0:Int),a0)∈o)=true->¬gv l:=fun C=>kM.SL (k:=k) (j:=0) (by rw[Z.out];exact F) (by rw[D.out];exact t) (by omega) (by rw[D.out];exact D0.out) S C
          generalize decide (((0:Int),a0)∈o)=C at*;obtain⟨q,B,BX,y,G⟩:=aG d z V m v;clear d z V m v;clear t E S;go_wp2_with fail;refine hm.mono ?_;rintro e w5 ⟨rfl,⟨f,H,J⟩,u⟩;have L:=B.out.grown u bm (fun g e=>by cases e;exact ae _);have b5:=BX.out.grown u (by simp;omega);have ar:gr<w5.heap.size:=bn ag u.size;obtain⟨M,B5,X,Y⟩:=aB L b5 H J;clear L b5 H J;clear hm u;cases C with
          |true=>
           go_wp2_with fail;all_goals
            go_ret2;exact jn M.out (by omega) (G.out (by first|rfl|trivial))
          |false=>
           go_wp2_with fail;go_roundw
           case rel=>exact⟨1,f,by omega,by go_num,X.out,q.out (by first|rfl|trivial) f Y.out,M.out,B5.out,ar⟩
           case measure=>simp[intOf]
         ·have bR:=fun W=>(zb a0 a1 a2 a3 R W).2.1
          by_cases S:a1= -1
          ·subst S;have d:=t.skip D1.out;obtain⟨q,y,B,BX⟩:=aB d m z V;clear d m z V;clear t E;go_wp2_with fail;go_roundw;case rel=>exact⟨2,o,by omega,by go_num,y.out,q.out,B.out,BX.out,ag⟩
           case measure=>simp[intOf]
          have gn:(a1 != -1)=true:=by simpa using S
          have hm:=E 1 a1;have d:decide (((1:Int),a1)∈o)=false->∀f,(∀x,x∈f↔x=((1:Int),a1)\/x∈o)->kM ((l.take k).flatMap noted++eZ r0 2) f:=fun C f hk=>t.note D1.out S C hk
          have v:decide (((1:Int),a1)∈o)=true->¬gv l:=fun C=>kM.SL (k:=k) (j:=1) (by rw[Z.out];exact F) (by rw[D.out];exact t) (by omega) (by rw[D.out];exact D1.out) S C
          generalize decide (((1:Int),a1)∈o)=C at*;obtain⟨q,B,BX,y,G⟩:=aG d z V m v;clear d z V m v;clear t E S;go_wp2_with fail;refine hm.mono ?_;rintro e w5 ⟨rfl,⟨f,H,J⟩,u⟩;have L:=B.out.grown u bm (fun g e=>by cases e;exact ae _);have b5:=BX.out.grown u (by simp;omega);have ar:gr<w5.heap.size:=bn ag u.size;obtain⟨M,B5,X,Y⟩:=aB L b5 H J;clear L b5 H J;clear hm u;cases C with
          |true=>
           go_wp2_with fail;all_goals
            go_ret2;exact jn M.out (by omega) (G.out (by first|rfl|trivial))
          |false=>
           go_wp2_with fail;go_roundw
           case rel=>exact⟨2,f,by omega,by go_num,X.out,q.out (by first|rfl|trivial) f Y.out,M.out,B5.out,ar⟩
           case measure=>simp[intOf]
         ·have bR:=fun W=>(zb a0 a1 a2 a3 R W).2.2.1
          by_cases S:a2= -1
          ·subst S;have d:=t.skip D2.out;obtain⟨q,y,B,BX⟩:=aB d m z V;clear d m z V;clear t E;go_wp2_with fail;go_roundw;case rel=>exact⟨3,o,by omega,by go_num,y.out,q.out,B.out,BX.out,ag⟩
           case measure=>simp[intOf]
          have gn:(a2 != -1)=true:=by simpa using S
          have hm:=E 2 a2;have d:decide (((2:Int),a2)∈o)=false->∀f,(∀x,x∈f↔x=((2:Int),a2)\/x∈o)->kM ((l.take k).flatMap noted++eZ r0 3) f:=fun C f hk=>t.note D2.out S C hk
          have v:decide (((2:Int),a2)∈o)=true->¬gv l:=fun C=>kM.SL (k:=k) (j:=2) (by rw[Z.out];exact F) (by rw[D.out];exact t) (by omega) (by rw[D.out];exact D2.out) S C
          generalize decide (((2:Int),a2)∈o)=C at*;obtain⟨q,B,BX,y,G⟩:=aG d z V m v;clear d z V m v;clear t E S;go_wp2_with fail;refine hm.mono ?_;rintro e w5 ⟨rfl,⟨f,H,J⟩,u⟩;have L:=B.out.grown u bm (fun g e=>by cases e;exact ae _);have b5:=BX.out.grown u (by simp;omega);have ar:gr<w5.heap.size:=bn ag u.size;obtain⟨M,B5,X,Y⟩:=aB L b5 H J;clear L b5 H J;clear hm u;cases C with
          |true=>
           go_wp2_with fail;all_goals
            go_ret2;exact jn M.out (by omega) (G.out (by first|rfl|trivial))
          |false=>
           go_wp2_with fail;go_roundw
           case rel=>exact⟨3,f,by omega,by go_num,X.out,q.out (by first|rfl|trivial) f Y.out,M.out,B5.out,ar⟩
           case measure=>simp[intOf]
         ·have bR:=fun W=>(zb a0 a1 a2 a3 R W).2.2.2.1
          by_cases S:a3= -1
          ·subst S;have d:=t.skip D3.out;obtain⟨q,y,B,BX⟩:=aB d m z V;clear d m z V;clear t E;go_wp2_with fail;go_roundw;case rel=>exact⟨4,o,by omega,by go_num,y.out,q.out,B.out,BX.out,ag⟩
           case measure=>simp[intOf]
          have gn:(a3 != -1)=true:=by simpa using S
          have hm:=E 3 a3;have d:decide (((3:Int),a3)∈o)=false->∀f,(∀x,x∈f↔x=((3:Int),a3)\/x∈o)->kM ((l.take k).flatMap noted++eZ r0 4) f:=fun C f hk=>t.note D3.out S C hk
          have v:decide (((3:Int),a3)∈o)=true->¬gv l:=fun C=>kM.SL (k:=k) (j:=3) (by rw[Z.out];exact F) (by rw[D.out];exact t) (by omega) (by rw[D.out];exact D3.out) S C
          generalize decide (((3:Int),a3)∈o)=C at*;obtain⟨q,B,BX,y,G⟩:=aG d z V m v;clear d z V m v;clear t E S;go_wp2_with fail;refine hm.mono ?_;rintro e w5 ⟨rfl,⟨f,H,J⟩,u⟩;have L:=B.out.grown u bm (fun g e=>by cases e;exact ae _);have b5:=BX.out.grown u (by simp;omega);have ar:gr<w5.heap.size:=bn ag u.size;obtain⟨M,B5,X,Y⟩:=aB L b5 H J;clear L b5 H J;clear hm u;cases C with
          |true=>
           go_wp2_with fail;all_goals
            go_ret2;exact jn M.out (by omega) (G.out (by first|rfl|trivial))
          |false=>
           go_wp2_with fail;go_roundw
           case rel=>exact⟨4,f,by omega,by go_num,X.out,q.out (by first|rfl|trivial) f Y.out,M.out,B5.out,ar⟩
           case measure=>simp[intOf]
         have bR:=fun W=>(zb a0 a1 a2 a3 R W).2.2.2.2
         by_cases S:R= -1
         ·subst S;have d:=t.skip D4.out;obtain⟨q,y,B,BX⟩:=aB d m z V;clear d m z V;clear t E;go_wp2_with fail;go_roundw;case rel=>exact⟨5,o,by omega,by go_num,y.out,q.out,B.out,BX.out,ag⟩
          case measure=>simp[intOf]
         have gn:(R != -1)=true:=by simpa using S
         have hm:=E 4 R;have d:decide (((4:Int),R)∈o)=false->∀f,(∀x,x∈f↔x=((4:Int),R)\/x∈o)->kM ((l.take k).flatMap noted++eZ r0 5) f:=fun C f hk=>t.note D4.out S C hk
         have v:decide (((4:Int),R)∈o)=true->¬gv l:=fun C=>kM.SL (k:=k) (j:=4) (by rw[Z.out];exact F) (by rw[D.out];exact t) (by omega) (by rw[D.out];exact D4.out) S C
         generalize decide (((4:Int),R)∈o)=C at*;obtain⟨q,B,BX,y,G⟩:=aG d z V m v;clear d z V m v;clear t E S;go_wp2_with fail;refine hm.mono ?_;rintro e w5 ⟨rfl,⟨f,H,J⟩,u⟩;have L:=B.out.grown u bm (fun g e=>by cases e;exact ae _);have b5:=BX.out.grown u (by simp;omega);have ar:gr<w5.heap.size:=bn ag u.size;obtain⟨M,B5,X,Y⟩:=aB L b5 H J;clear L b5 H J;clear hm u;cases C with
         |true=>
          go_wp2_with fail;all_goals
           go_ret2;exact jn M.out (by omega) (G.out (by first|rfl|trivial))
         |false=>
          go_wp2_with fail;go_roundw
          case rel=>exact⟨5,f,by omega,by go_num,X.out,q.out (by first|rfl|trivial) f Y.out,M.out,B5.out,ar⟩
          case measure=>simp[intOf]
        obtain rfl:j=5:=by omega
        have c6:=V.cell 6;have c7:=V.cell 7;simp only[ao]at c6 c7;have cb:((l.take k).flatMap noted++noted (l.getD k default)).Nodup->ot l (k+1):=fun gA=>CX f9.out (by rw[Z.out];exact F) e8.out (by rw[D.out,D2.out];exact⟨be,bf⟩) (by rw[D.out,e9.out];exact fv.out (by first|rfl|trivial)) gA
        have ap:noted (l.getD k default)=eZ r0 5++if N=0 then[]else[(5+N,sb)]:=by rw[D.out,fy.out]
        by_cases e0:N=0
        ·subst e0;rw[aj rfl,dL]at ap;rw[<-ap]at t;have cr:=cb t.nodup;have d:kM ((l.take (k+1)).flatMap noted) o:=by rw[ei.out,<-D.out];exact t
         obtain⟨q,eg,B,y⟩:=aB d cr z m;clear d cr z m;clear t E cb ap V;go_wp2_with fail;go_roundw;case rel=>exact⟨k+1,o,by omega,by go_num,y.out,q.out,eg.out,cg.out (by rw[Z.out];exact F) (by first|trivial|rfl|exact dl.out),B.out⟩
         case measure=>simp[intOf];omega
        have g0:(N != 0)=true:=by simpa using e0
        have hR:IntKind.i64.wrap (5+N)=5+N:=IntWalk.i64_in _ (by omega);have hm:=E (5+N) sb;rw[af e0,<-dL (eZ r0 5++_)]at ap;have d:decide (((5+N,sb):Int×Int)∈o)=false->∀f,(∀x,x∈f↔x=(5+N,sb)\/x∈o)->kM ((l.take (k+1)).flatMap noted) f/\ot l (k+1):=fun C f hk=>by
         have h9:=t.put C hk;rw[dL]at ap;rw[dz,<-ap]at h9;exact⟨by rw[ei.out,<-D.out];exact h9,cb h9.nodup⟩
        have v:decide (((5+N,sb):Int×Int)∈o)=true->¬gv l:=fun C=>kM.Tf (k:=k) (by rw[Z.out];exact F) t (by rw[dL]at ap;rw[ap,dz]) C
        generalize decide (((5+N,sb):Int×Int)∈o)=C at*;obtain⟨q,B,BX,y,G⟩:=aG d z V m v;clear d z V m v;clear t E e0 cb ap;go_wp2_with fail;refine hm.mono ?_;rintro e w5 ⟨rfl,⟨f,H,J⟩,u⟩;have L:=B.out.grown u bm (fun g e=>by cases e;exact ae _);obtain⟨M,X,Y⟩:=aC L H J;clear L H J;clear hm u;cases C with
        |true=>
         go_wp2_with fail;all_goals
          go_ret2;exact jn M.out (by omega) (G.out (by first|rfl|trivial))
        |false=>
         have h9:=q.out (by first|rfl|trivial) f Y.out;obtain⟨fb,e7⟩:=h9;obtain⟨f0,f7⟩:=aA fb e7;clear fb e7;go_wp2_with fail;go_roundw;case rel=>exact⟨k+1,f,by omega,by go_num,X.out,f0.out,f7.out,cg.out (by rw[Z.out];exact F) (by first|trivial|rfl|exact dl.out),M.out⟩
         case measure=>simp[intOf];omega
  obtain rfl:n=k:=by omega
  have cp:gv l:=⟨by rw[Z.out];omega,by rw[Z.out];exact f6.out,by rw[Z.out];exact b0⟩;obtain⟨ev,HB⟩:=aA cp hB;clear cp hB;clear b0 ds cd;go_wp2_with fail;go_ret2;exact⟨⟨0,0,rfl,fun _=>ev.out,fun _=>rfl⟩,HB.out⟩
end
section
theorem Ig:∀a:List UInt8,Op.bytesLess a a=false
 |[]=>rfl
 |x::a=>by
  show(decide (x<x)||((x==x)&&Op.bytesLess a a))=false
  rw[Ig a];simp
theorem BL:∀{a b c:List UInt8},Op.bytesLess a b=true->Op.bytesLess b c=true->Op.bytesLess a c=true
 | _, [], _, h, _ => by cases ‹List UInt8› <;> simp [Op.bytesLess] at h
 | _, _ :: _, [], _, h => by simp [Op.bytesLess] at h
 |[],y::b,z::c,_,_=>rfl
 |x::a,y::b,z::c,e,d=>by
  simp only[Op.bytesLess,df,bG,aV,mM]at e d⊢;rcases e with e|⟨rfl,e⟩
  ·rcases d with d|⟨rfl,d⟩
   ·exact .inl (UInt8.lt_trans e d)
   exact .inl e
  rcases d with d|⟨rfl,d⟩
  ·exact .inl d
  exact .inr ⟨rfl,BL e d⟩
theorem Ih:∀a b:List UInt8,Lib.compareBytes a b=if Op.bytesLess a b=true then -1 else if a=b then 0 else 1
 |[],[]=>rfl
 |[],_::_=>rfl
 | _ :: _, [] => rfl
 |x::a,y::b=>by
  simp only[Lib.compareBytes,Op.bytesLess,df,bG,aV,mM,List.cons.injEq];by_cases h:x<y
  ·rw[aj h,aj (.inl h)]
  rw[af h];by_cases d:y<x
  ·have c:¬x=y:=fun e=>by subst e;exact h d
   rw[aj d,af (by rintro(e|⟨e,_⟩);exact h e;exact c e),af (fun e=>c e.1)]
  have e:x=y:=Sm (Rv.1 d) (Rv.1 h);subst e;rw[af d,Ih a b];simp[h]
theorem QJ(a b:List UInt8)(c:Op.bytesLess a b=false)(d:¬a=b):Op.bytesLess b a=true:=by
 induction a generalizing b with
 |nil=>cases b with
  |nil=>exact absurd rfl d
  |cons y b=>simp[Op.bytesLess]at c
 |cons x a ih=>cases b with
  |nil=>rfl
  |cons y b=>
   simp only[Op.bytesLess,RY,RB,dh,df,bG,aV,mM]at c⊢;by_cases e:x=y
   ·subst e;refine .inr ⟨rfl,ih b ?_ fun e=>d (by rw[e])⟩;rcases c.2 with h|h
    ·simp at h
    exact h
   left
   rcases dB y.toNat x.toNat with h|h
   ·exact h
   exact absurd (Sm h (Rv.1 c.1)) e
def JV(a b:ByteArray):Prop:=Op.bytesLess a.toList b.toList=true
theorem Fh{a b:ByteArray}(h:Ii a b=false):JV b a:=by
 unfold Ii at h;simp only[RY]at h;refine QJ _ _ h.1 fun e=>?_
 have:=h.2;rw[e]at this;simp at this
theorem BM{a b c:ByteArray}(h:JV a b)(k:JV b c):JV a c:=BL h k
theorem N3{a b:ByteArray}(h:JV a b):a≠b:=fun e=>by
 unfold JV at h;rw[e,Ig]at h;cases h
section
variable {l:List Rw}
theorem pC(h:ot l l.length):∀j i,i<j->j<l.length->JV (l.getD i default).name (l.getD j default).name
 |0,i,b,_=>absurd b (by omega)
 |j+1,i,b,c=>by
  have a:=Fh (h.names (j+1) (by omega) c);rw[F5]at a;rcases dB i j with e|e
  ·exact BM (pC h j i e (by omega)) a
  obtain rfl:i=j:=by omega
  exact a
theorem wq{r:Rw}{j a:Nat}{n:Int}(c:a<j)(b:r.nums.getD a (-1)=n)(d:n≠ -1):((a:Int),n)∈eZ r j:=by
 unfold eZ;rw[eE];exact⟨a,bE.2 c,by rw[af (by rw[b];exact d),b]⟩
theorem tf{α β:Type}[Inhabited α]{f:α->List β}:∀{l:List α},(l.flatMap f).Nodup->∀{i j:Nat} {x:β},i<l.length->j<l.length->x∈f (l.getD i default)->x∈f (l.getD j default)->i=j
 |[],_,i,_,_,c,_,_,_=>absurd c (by simp)
 |y::t,h,i,j,x,c,g,e,a=>by
  rw[cB,jx]at h;have b:∀k,k<t.length->x∈f (t.getD k default)->x∈t.flatMap f:=fun k m d=>db.2 ⟨_,gu m,d⟩
  cases i with
  |zero=>cases j with
   |zero=>rfl
   |succ j=>exact absurd rfl (h.2.2 x (by simpa using e) x (b j (by simpa using g) (by simpa using a)))
  |succ i=>cases j with
   |zero=>exact absurd rfl (h.2.2 x (by simpa using a) x (b i (by simpa using c) (by simpa using e)))
   |succ j=>exact eQ (· +1) (tf (l:=t) (f:=f) (i:=i) (j:=j) (x:=x) h.2.1 (by simpa using c) (by simpa using g) (by simpa using e) (by simpa using a))
theorem pD{r:Rw}(h:jV r=true):(∀n∈r.nums,-1<=n/\n<=1073741823)/\((r.mux=0/\r.sub=0)\/((r.mux=1\/r.mux=2)/\1<=r.sub/\r.sub<=255)):=by
 unfold jV at h;simp only[bG,fm,tB]at h;refine⟨fun n b=>?_,?_⟩
 ·have:=h.1 n b;unfold Hh at this;simp only[df,aV,not_or]at this;omega
 have a:=h.2;by_cases e:r.mux=0
 ·rw[aj e]at a;exact .inl ⟨e,aN a⟩
 rw[af e]at a;simp only[bG,df,aV]at a;exact .inr ⟨a.1.1,a.1.2,a.2⟩
theorem rL{r:Rw}(b:r∈l):∃j,j<l.length/\l.getD j default=r:=by
 obtain⟨j,a,e⟩:=fj b;exact⟨j,a,by rw[aa,ah a];exact e⟩
theorem Fi{r:Rw}{a:Nat}(b:a<r.nums.length):r.nums.getD a (-1)∈r.nums:=by
 rw[aa,ah b];exact bj b
theorem N4(n:∀r∈l,r.nums.length=5)(h:ot l l.length):tT l:=by
 have k:∀r∈l,jV r=true:=fun r k=>by
  obtain⟨j,c,rfl⟩:=rL k;exact h.ranged j c
 have d:=h.noted;rw[iW]at d;refine⟨n,fun r b a f=>((pD (k r b)).1 _ (Fi (by rw[n r b];exact f))).1,fun r b a f=>((pD (k r b)).1 _ (Fi (by rw[n r b];exact f))).2,fun r b=>(pD (k r b)).2,fun r b=>?_,fun i j m c e=>?_,fun i j a m c f o e=>?_,fun i j m c o e1 e2=>?_⟩
 ·obtain⟨j,c,rfl⟩:=rL b;exact h.own j c
 ·rcases tD i j with g|g|g
  ·exact absurd e (N3 (pC h j i g c))
  ·exact g
  exact absurd e.symm (N3 (pC h i j g m))
 ·refine tf d (x:=((a:Int),(l.getD i default).nums.getD a (-1))) m c ?_ ?_
  ·exact AD _ (wq f rfl (by omega))
  exact AD _ (wq f e.symm (by omega))
 refine tf d (x:=(5+(l.getD i default).mux,(l.getD i default).sub)) m c ?_ ?_
 ·refine RC _ ?_;rw[af o];simp
 refine RC _ ?_;rw[af (by rw[<-e1];exact o),e1,e2];simp
end
end
section
open Go.RowKit
def uk(B g:Nat)(t:List Nd)(v:Uc)(w:Ub)(e:Ending)(w':Ub):Prop:=e=.returned v/\G8 w' B g t/\Ga B g w w'
theorem K6:(prog.info? 295).map (fun i=>(i.zero,i.size,i.bytes))=some (some (T1 #[T2 false,TY T7 0,TY T6 0,TY T6 0,TY T6 0]),5,32):=by kernel_rfl
theorem wg(B g:Nat)(t:List Nd)(x:Nd)(Y:t.length<=100000)(w:Ub)(h:G8 w B g t):
  Calls prog 244 #[T1 x.vals.toArray,TZ (some ⟨g,0,none⟩)] w (uk B g (t++[x]) (TY T6 t.length) w):=by
 obtain⟨i0,u,q,z,C⟩:=cZ K6;have s:x.vals=[T2 x.leaf,TY T7 x.num,TY T6 x.place,TY T6 x.lo,TY T6 x.hi]:=rfl;have o:=h.lt;have b:∀N M,Below w.heap.size w ((w.alloc N).alloc M):=fun N M=>((aw _ _).alloc (ae _) _).alloc (by simp) _
 let a:Ub:=(w.alloc (Ua x.vals.toArray 295)).alloc (Ua x.vals.toArray 295);have i:G8 a B g t:=h.grows (b _ _);have l:Ga B g w a:=Ga.grows (b _ _) (by have:=h.le;omega);obtain⟨v,r,O⟩:=h.at_;have c:bK a g 291 #[v]:=r.below (b _ _) o;have f:a.ownsRow B 295 5 v t.length (jP t):=cC (b _ _) O;have j:bh a a.heap.size 5 (some ⟨w.heap.size+1,0,none⟩) 1 (jP [x]):=by
  have:=(gZ (w.alloc (Ua x.vals.toArray 295)) x.vals 295 5 1 rfl).more (show _<=a.heap.size by simp[a]);simpa[jP]using this
 have G:=fun(v':Uc) (w':Ub)=>i.Tg (v':=v') (w':=w') (xs:=[x]) c f
 have c0:w.cell? ⟨g,0,none⟩=some v:=r.cell 0;have p:v.ownBlock≠some g:=cY f c (by decide);have D:B<=a.heap.size:=by have:=h.le;simp[a];omega
 have U:g<a.heap.size:=by simp[a];omega
 obtain⟨H,S,R,L,J⟩:=x;simp only at s;generalize hn:t.length=n at*;show Calls prog _ #[T1 #[T2 H,TY T7 S,TY T6 R,TY T6 L,TY T6 J],_] w _
 obtain⟨X,F,E,A⟩:=aB G c l j;clear G c l j;clear r O h b i;go_enter func244,ntmps244;go_wp2_with (at_builtin;go_loud (refine cU a rfl (.tmp 4) (.tmp 6) 291 rfl B 295 i0 _ 5 32 underlying291 u q z C rfl (by omega) v n (jP t) rfl f a.heap.size (some ⟨w.heap.size+1,0,none⟩) 1 1 (jP [⟨H,S,R,L,J⟩]) rfl A.out (G7 _) (by simp only[maxLen];omega) (by omega) D ?_);intro v' w' y i _;obtain⟨A9,Z,rfl,_⟩:=cX y;have d:=F.out.grown i (fun e=>p e.symm);have T:w'.cell? ⟨g,0,none⟩=some v:=d.cell 0;have W:=d.frozen 0;have V:=d.lt;have m:=X.out _ w' i y;have k:=Lib.hid m;clear m d y i);go_ret;exact⟨rfl,k.out.1,E.out.trans k.out.2⟩
theorem K7(args:Array Uc)(w:Ub):(callFunc 244 args).run prog w=.ok (.enter 244 args) w:=eU (f:=244) func244 (by kernel_rfl) rfl args w
theorem BC(args:Array Uc)(w:Ub):(callFunc 245 args).run prog w=.ok (.enter 245 args) w:=eU (f:=245) func245 (by kernel_rfl) rfl args w
theorem K8{f:Nat}{l:List Nat}{a:Nat}{b:List Nd}(h:2<=l.length):dD (f+1) l a b=dD f (l.drop (l.length / 2)) (a+l.length / 2) (dD f (l.take (l.length / 2)) a b)++
  [⟨false,l.getD (l.length / 2) 0,0,(dD f (l.take (l.length / 2)) a b).length - 1,(dD f (l.drop (l.length / 2)) (a+l.length / 2) (dD f (l.take (l.length / 2)) a b)).length - 1⟩]:=by
 match l,h with
 |x::y::t,_=>rfl
def QC(g:Nat):Uc:=.func (.func 244) #[] #[TZ (some ⟨g,0,none⟩)]
def NN(a b:Nat):Uc:=.func (.func 245) #[] #[TZ (some ⟨a,0,none⟩),TZ (some ⟨b,0,none⟩)]
theorem um(B g A E:Nat)(h6:A≠g)(h7:E≠g):∀(f:Nat) (l:List Nat) (i:Nat) (t:List Nd) (b o c n:Nat) (w:Ub),l.length=n->0<n->n<f+1->n<=c->c<=9223372036854775807->i+n<=1000000->t.length+2*n<=100000->
  bh w B 1 (some ⟨b,o,none⟩) n (mI l)->G8 w B g t->bK w A 356 #[QC g]->bK w E 357 #[NN A E]->
  Calls prog 245 #[T0 (some ⟨b,o,none⟩) n c,TY T6 i,TZ (some ⟨A,0,none⟩),TZ (some ⟨E,0,none⟩)] w (uk B g (dD f l i t) (TY T6 ((dD f l i t).length - 1:Nat)) w)
 |0,l,_,_,_,_,_,n,_,hl,h0,j,_,_,_,_,_,_,_,_=>by omega
 |f+1,l,i,t,b,o,c,n,w,hl,h0,j,ex,hc,eg,ht,hr,hT,V,Z=>by
  have ih:=um B g A E h6 h7 f;have c6:w.cell? ⟨A,0,none⟩=some (.func (.func 244) #[] #[TZ (some ⟨g,0,none⟩)]):=V.cell 0;have em:=K7;have ei:=BC;by_cases Y:n=1
  ·subst Y;match l,hl with
   |[x],_=>
   obtain⟨b',o',e,bo,s⟩:=hr.Tr (by omega);injection e with e
   injection e with e1 e2 _;subst e1 e2;have cx:w.drew.cell? ⟨b,o,none⟩=some (TY T7 x):=s 0 (by omega);have dd:w.drew.cell? ⟨A,0,none⟩=some (.func (.func 244) #[] #[TZ (some ⟨g,0,none⟩)]):=c6;have m:=fun W hW=>wg B g t (mw x i) (by omega) W hW
   have hg:dD (f+1) [x] i t=t++[mw x i]:=rfl;rw[hg];have v:(t++[mw x i]).length - 1=t.length:=by simp
   rw[v];replace m:∀W,G8 W B g t->Calls prog 244 #[T1 #[T2 true,TY T7 x,TY T6 i,TY T6 0,TY T6 0],TZ (some ⟨g,0,none⟩)] W (uk B g (t++[mw x i]) (TY T6 t.length) W):=m;generalize t++[mw x i]=T at*;generalize t.length=tl at*;obtain⟨HT,N⟩:=aA hT m;clear hT m;clear ih hr s V Z hg v;go_enter func245,ntmps245;go_wp2_with fail;refine Any.wp_region_tailD 6 eL (nQ [(13,.eq (.func (.func 244) #[] #[TZ (some ⟨g,0,none⟩)])),(14,.eq (T0 (some ⟨b,o,none⟩) 1 c)),(15,.eq (TZ (some ⟨b,o,none⟩))),(16,.eq (TY T7 x)),(17,.eq (TY T6 i)),(18,.eq (T1 #[T2 true,TY T7 x,TY T6 i,TY T6 0,TY T6 0]))]) (fun _ _=>True) trivial [13,14,15,16,17,18,19,6] [13,14,15,16,17,18] (by kernel_rfl) (by kernel_rfl) (by kernel_rfl) (by kernel_rfl) (by kernel_rfl) (by decide) ⟨?_,?_,?_,?_,?_,?_,trivial⟩ ?_
   ·refine Any.st_j ?_;exact Any.st_load_was 13 2 _ _ _ (.plain rfl) rfl rfl (by decide) rfl (by first|assumption|exact rfl) (fun w h=>by simp[go_sem,h]) rfl
   ·refine Any.st_j ?_;exact Any.st_was 14 0 (.plain rfl) (by first|exact .inl rfl|exact .inr rfl) rfl (by decide) (rfl)
   ·refine Any.st_j ?_;exact Any.sx_one 15 14 _ _ (.plain rfl) rfl (by decide) rfl (fun a w h=>by unfold execOp;simp only[h];first|(simp[go_sem];done)|(simp[go_sem];omega)|(simp[go_sem, *];done)) rfl
   ·refine Any.st_j ?_;exact Any.sx_load_at 16 15 _ _ _ (.plain rfl) rfl rfl (by decide) rfl (by assumption) (fun w h=>by simp[go_sem,h]) rfl
   ·refine Any.st_j ?_;exact Any.st_was 17 1 (.plain rfl) (by first|exact .inl rfl|exact .inr rfl) rfl (by decide) (rfl)
   ·refine Any.st_j ?_;exact Any.st_built 18 _ _ #[(0,(Value.bool true)),(1,TY T7 x),(2,TY T6 i)] (#[T2 true,TY T7 x,TY T6 i,TY T6 0,TY T6 0]) (.plain rfl) rfl rfl (fun a w h=>by have dg:a.eval (.tmp 16)=_:=h.eqv 16 (by decide) rfl;have ea:a.eval (.tmp 17)=_:=h.eqv 17 (by decide) rfl;simp only[aQ,aJ,a8,dg,ea]<;>rfl) (fun w=>by kernel_rfl) rfl
   intro f w5 R j;have a3:f 13=.func (.func 244) #[] #[TZ (some ⟨g,0,none⟩)]:=j 13 rfl;have a5:f 14=T0 (some ⟨b,o,none⟩) 1 c:=j 14 rfl;have ba:f 15=TZ (some ⟨b,o,none⟩):=j 15 rfl;have be:f 16=TY T7 x:=j 16 rfl;have b3:f 17=TY T6 i:=j 17 rfl;have cc:f 18=T1 #[T2 true,TY T7 x,TY T6 i,TY T6 0,TY T6 0]:=j 18 rfl;simp only[Any.fill,bC,bL,aq,aI,aH,bg,bZ,a3,a5,ba,be,b3,cc];have y:Below w.heap.size w w5:=(aw w.heap.size w).drew.trans R;have G:B<=w.heap.size:=by have:=HT.out.le;have:=HT.out.lt;omega
   have z:=Ga.grows (g:=g) y G;have O:=N.out w5 (HT.out.grows y);clear j R a3 a5 ba be b3 cc y;have an:=Lib.hid z;clear z;go_wp2_with fail;refine O.mono ?_;rintro e w6 ⟨rfl,M,u⟩;have u:=an.out.trans u;obtain⟨X,ab⟩:=aA u M;clear u M;clear O;go_wp2_with fail;go_ret;exact⟨rfl,ab.out,X.out⟩
  have S:2<=l.length:=by omega
  rw[K8 S];obtain⟨d,c1⟩:∃d,l.length / 2=d:=⟨_,rfl⟩;rw[c1];have c7:1<=d:=by omega
  have d5:d<n:=by omega
  have hq:(n:Int) / 2=(d:Int):=by omega
  have eo:¬(n:Int)=1:=by omega
  have G:B<=w.heap.size:=by have:=hT.le;have:=hT.lt;omega
  obtain⟨b',o',e,bo,s⟩:=hr.Tr (by omega);injection e with e
  injection e with e1 e2 _;subst e1 e2;have cx:w.cell? ⟨b,o+d,none⟩=some (TY T7 (l.getD d 0:Nat)):=s d d5;have al:w.drew.cell? ⟨E,0,none⟩=some (.func (.func 245) #[] #[TZ (some ⟨A,0,none⟩),TZ (some ⟨E,0,none⟩)]):=Z.cell 0;have ci:=fun W Y S h3 h4=>ih (l.take d) i t b o d d W (by rw[bJ];omega) c7 (by omega) (ae _) (by omega) (by omega) (by omega) Y S h3 h4
  have bk:bh w B 1 (some ⟨b,o,none⟩) d (mI (l.take d)):=by have:=hr.Tl (k:=d) (by omega);rwa [KQ]at this
  have a6:bh w B 1 (some ⟨b,o+d,none⟩) (n - d) (mI (l.drop d)):=by have:=hr.Tm (k:=d) (by omega);rwa [KR]at this
  have bv:=mR f (l.take d) i t (fun e=>by have:=eQ List.length e;rw[bJ,bD]at this;omega);rw[bJ]at bv;have U:=fun(G1:List Nd) (hG:G1.length+1<=t.length+2*d) W Y S h3 h4=>ih (l.drop d) (i+d) G1 b (o+d) (c - d) (n - d) W (by rw[dt];omega) (by omega) (by omega) (by omega) (by omega) (by omega) (by omega) Y S h3 h4
  replace U:=U (dD f (l.take d) i t) (by omega);have m:=fun(L:List Nd) (H J:Nat) (hG:L.length<=100000) W hW=>wg B g L ⟨false,l.getD d 0,0,H,J⟩ hG W hW
  have cp:=mR f (l.drop d) (i+d) (dD f (l.take d) i t) (fun e=>by have:=eQ List.length e;rw[dt,bD]at this;omega);rw[dt]at cp;have m:=m (dD f (l.drop d) (i+d) (dD f (l.take d) i t)) ((dD f (l.take d) i t).length - 1) ((dD f (l.drop d) (i+d) (dD f (l.take d) i t)).length - 1) (by omega);generalize dD f (l.take d) i t=G1 at*;generalize dD f (l.drop d) (i+d) G1=L at*;generalize l.getD d 0=r at*;generalize c9:G1.length - 1=H at*;generalize d3:L.length - 1=J at*;have v:(L++[(⟨false,r,0,H,J⟩:Nd)]).length - 1=L.length:=by simp
  rw[v];replace m:∀W,G8 W B g L->Calls prog 244 #[T1 #[T2 false,TY T7 r,TY T6 0,TY T6 H,TY T6 J],TZ (some ⟨g,0,none⟩)] W (uk B g (L++[⟨false,r,0,H,J⟩]) (TY T6 L.length) W):=m;generalize (L++[(⟨false,r,0,H,J⟩:Nd)])=T at*;have eu:L.length<=100000:=by omega
  generalize L.length=es at*;obtain⟨HT,N,d9,d1,dp,dk,ak,b8⟩:=aD hT m ci U bk a6 V Z;clear hT m ci U bk a6 V Z;clear ih hr s v c1 S bv cp c9 d3;go_enter func245,ntmps245;go_wp2_with fail;refine Any.wp_region_tailD 6 eL (nQ [(23,.eq (.func (.func 245) #[] #[TZ (some ⟨A,0,none⟩),TZ (some ⟨E,0,none⟩)])),(24,.eq (T0 (some ⟨b,o,none⟩) n c)),(25,.eq (TY T6 d)),(26,.eq (TY T6 d)),(27,.eq (T0 (some ⟨b,o,none⟩) d d)),(28,.eq (TY T6 i))]) (fun _ _=>True) trivial [23,24,25,26,27,28,29,8] [23,24,25,26,27,28] (by kernel_rfl) (by kernel_rfl) (by kernel_rfl) (by kernel_rfl) (by kernel_rfl) (by decide) ⟨?_,?_,?_,?_,?_,?_,trivial⟩ ?_
  ·refine Any.st_j ?_;exact Any.st_load_was 23 3 _ _ _ (.plain rfl) rfl rfl (by decide) rfl (by first|assumption|exact rfl) (fun w h=>by simp[go_sem,h]) rfl
  ·refine Any.st_j ?_;exact Any.st_was 24 0 (.plain rfl) (by first|exact .inl rfl|exact .inr rfl) rfl (by decide) (rfl)
  ·refine Any.st_j ?_;exact Any.st_was 25 7 (.plain rfl) (by first|exact .inl rfl|exact .inr rfl) rfl (by decide) (rfl)
  ·refine Any.st_j ?_;exact Any.st_was 26 7 (.plain rfl) (by first|exact .inl rfl|exact .inr rfl) rfl (by decide) (rfl)
  ·refine Any.st_j ?_;exact Any.sx_fit 27 (.plain rfl) rfl (fun a w h=>by have bW:a.eval (.tmp 24)=_:=h.eqv 24 (by decide) rfl;have c2:a.eval (.tmp 25)=_:=h.eqv 25 (by decide) rfl;have ct:a.eval (.tmp 26)=_:=h.eqv 26 (by decide) rfl;have bf:a.tmps[24]?.getD undef=T0 (some ⟨b,o,none⟩) n c:=(by have q:a.tmps.getD 24 undef=T0 (some ⟨b,o,none⟩) n c:=bW;simpa using q);have a4:a.tmps[25]?.getD undef=TY T6 d:=(by have q:a.tmps.getD 25 undef=TY T6 d:=c2;simpa using q);have bl:a.tmps[26]?.getD undef=TY T6 d:=(by have q:a.tmps.getD 26 undef=TY T6 d:=ct;simpa using q);refine⟨T0 (some ⟨b,o,none⟩) d d,?_,rfl⟩;unfold execOp;simp only[bW,c2,ct];first|(simp[go_sem,bf,a4,bl];done)|(simp[go_sem,bf,a4,bl];omega)|(simp[go_sem, *];done))
  ·refine Any.st_j ?_;exact Any.st_was 28 1 (.plain rfl) (by first|exact .inl rfl|exact .inr rfl) rfl (by decide) (rfl)
  intro f w5 R j;have cd:f 23=.func (.func 245) #[] #[TZ (some ⟨A,0,none⟩),TZ (some ⟨E,0,none⟩)]:=j 23 rfl;have bx:f 24=T0 (some ⟨b,o,none⟩) n c:=j 24 rfl;have ck:f 25=TY T6 d:=j 25 rfl;have bN:f 26=TY T6 d:=j 26 rfl;have bb:f 27=T0 (some ⟨b,o,none⟩) d d:=j 27 rfl;have b4:f 28=TY T6 i:=j 28 rfl;simp only[Any.fill,bC,bL,aq,aI,aH,bg,bZ,cd,bx,ck,bN,bb,b4];have y:Below w.heap.size w w5:=(aw w.heap.size w).drew.trans R;have z:=Ga.grows (g:=g) y G;have ip:=d9.out w5 (dp.out.below (y.mono G)) (HT.out.grows y) (z.blk ak.out (by decide) h6) (z.blk b8.out (by decide) h7);clear j R cd bx ck bN bb b4 y al;have an:=Lib.hid z;clear z;go_wp2_with fail;refine ip.mono ?_;rintro e w6 ⟨rfl,M,u⟩;have u:=an.out.trans u;have am:=u.blk b8.out (by decide) h7;have al:w6.drew.cell? ⟨E,0,none⟩=some (.func (.func 245) #[] #[TZ (some ⟨A,0,none⟩),TZ (some ⟨E,0,none⟩)]):=am.cell 0;have ek:(o+d)=o+d:=rfl;have en:((n - d:Nat):Int)=(n:Int) - (d:Int):=by omega
  have ez:IntKind.i64.wrap ((i:Int)+(d:Int))=(i:Int)+(d:Int):=IntWalk.i64_in _ (by omega);have cf:¬c=d:=by omega
  generalize a9:n - d=nr at*;generalize c0:c - d=cr at*;obtain⟨X,ab,a7,ca,c3⟩:=aG u M am a9 c0;clear u M am a9 c0;clear ip;go_wp2_with fail;refine Any.wp_region_tailD 7 eL (nQ [(30,.eq (.func (.func 245) #[] #[TZ (some ⟨A,0,none⟩),TZ (some ⟨E,0,none⟩)])),(31,.eq (T0 (some ⟨b,o,none⟩) n c)),(32,.eq (TY T6 d)),(33,.eq (T0 (some ⟨b,o+d,none⟩) nr cr)),(34,.eq (TY T6 i)),(35,.eq (TY T6 d)),(36,.eq (TY T6 ((i+d:Nat):Int)))]) (fun _ _=>True) trivial [30,31,32,33,34,35,36,37,9] [30,31,32,33,34,35,36] (by kernel_rfl) (by kernel_rfl) (by kernel_rfl) (by kernel_rfl) (by kernel_rfl) (by decide) ⟨?_,?_,?_,?_,?_,?_,?_,trivial⟩ ?_
  ·refine Any.st_j ?_;exact Any.st_load_was 30 3 _ _ _ (.plain rfl) rfl rfl (by decide) rfl (by first|assumption|exact rfl) (fun w h=>by simp[go_sem,h]) rfl
  ·refine Any.st_j ?_;exact Any.st_was 31 0 (.plain rfl) (by first|exact .inl rfl|exact .inr rfl) rfl (by decide) (rfl)
  ·refine Any.st_j ?_;exact Any.st_was 32 7 (.plain rfl) (by first|exact .inl rfl|exact .inr rfl) rfl (by decide) (rfl)
  ·refine Any.st_j ?_;exact Any.sx_fit 33 (.plain rfl) rfl (fun a w h=>by have b0:a.eval (.tmp 31)=_:=h.eqv 31 (by decide) rfl;have cb:a.eval (.tmp 32)=_:=h.eqv 32 (by decide) rfl;have bs:a.tmps[31]?.getD undef=T0 (some ⟨b,o,none⟩) n c:=(by have q:a.tmps.getD 31 undef=T0 (some ⟨b,o,none⟩) n c:=b0;simpa using q);have cv:a.tmps[32]?.getD undef=TY T6 d:=(by have q:a.tmps.getD 32 undef=TY T6 d:=cb;simpa using q);refine⟨T0 (some ⟨b,o+d,none⟩) nr cr,?_,rfl⟩;unfold execOp;simp only[b0,cb];first|(simp[go_sem,bs,cv,ca.out,c3.out,cf];done)|(simp[go_sem,bs,cv,ca.out,c3.out,cf];omega)|(simp[go_sem, *];done))
  ·refine Any.st_j ?_;exact Any.st_was 34 1 (.plain rfl) (by first|exact .inl rfl|exact .inr rfl) rfl (by decide) (rfl)
  ·refine Any.st_j ?_;exact Any.st_was 35 7 (.plain rfl) (by first|exact .inl rfl|exact .inr rfl) rfl (by decide) (rfl)
  ·refine Any.st_j ?_;exact Any.sx_two 36 34 35 _ _ _ (.plain rfl) rfl (by decide) (by decide) rfl rfl (fun a w Y S=>by unfold execOp;simp only[Y,S];first|(simp[go_sem];done)|(simp[go_sem];omega)|(simp[go_sem, *];done)) rfl
  intro f w7 b2 j;have co:f 30=.func (.func 245) #[] #[TZ (some ⟨A,0,none⟩),TZ (some ⟨E,0,none⟩)]:=j 30 rfl;have cy:f 31=T0 (some ⟨b,o,none⟩) n c:=j 31 rfl;have b5:f 32=TY T6 d:=j 32 rfl;have b6:f 33=T0 (some ⟨b,o+d,none⟩) nr cr:=j 33 rfl;have bm:f 34=TY T6 i:=j 34 rfl;have cg:f 35=TY T6 d:=j 35 rfl;have a2:f 36=TY T6 ((i+d:Nat):Int):=j 36 rfl;simp only[Any.fill,bC,bL,aq,aI,aH,bg,bZ,co,cy,b5,b6,bm,cg,a2];have ap:Below w6.heap.size w6 w7:=(aw w6.heap.size w6).drew.trans b2;have ag:=Ga.grows (g:=g) ap (ax G (X.out).below.size);have D:=X.out.trans ag;have ip:=d1.out w7 (dk.out.below D.below) (ab.out.grows ap) (D.blk ak.out (by decide) h6) (ag.blk a7.out (by decide) h7);clear j b2 co cy b5 b6 bm cg a2 ap al ag ab a7;have b7:=Lib.hid D;clear D;go_wp2_with fail;refine ip.mono ?_;rintro e w8 ⟨rfl,cn,F⟩;have F:=b7.out.trans F;have ai:=F.blk ak.out (by decide) h6;have dd:w8.drew.cell? ⟨A,0,none⟩=some (.func (.func 244) #[] #[TZ (some ⟨g,0,none⟩)]):=ai.cell 0;have cm:w8.drew.cell? ⟨b,o+d,none⟩=some (TY T7 r):=(F.below.cell (p:=⟨b,o+d,none⟩) bo).trans cx;obtain⟨b1,de,eq⟩:=aC F cn ai;clear F cn ai;clear ip;go_wp2_with fail;refine Any.wp_region_tailD 8 eL (nQ [(38,.eq (.func (.func 244) #[] #[TZ (some ⟨g,0,none⟩)])),(39,.eq (T0 (some ⟨b,o,none⟩) n c)),(40,.eq (TY T6 d)),(41,.eq (TZ (some ⟨b,o+d,none⟩))),(42,.eq (TY T7 r)),(43,.eq (TY T6 H)),(44,.eq (TY T6 J)),(45,.eq (T1 #[T2 false,TY T7 r,TY T6 0,TY T6 H,TY T6 J]))]) (fun _ _=>True) trivial [38,39,40,41,42,43,44,45,46,6] [38,39,40,41,42,43,44,45] (by kernel_rfl) (by kernel_rfl) (by kernel_rfl) (by kernel_rfl) (by kernel_rfl) (by decide) ⟨?_,?_,?_,?_,?_,?_,?_,?_,trivial⟩ ?_
  ·refine Any.st_j ?_;exact Any.st_load_was 38 2 _ _ _ (.plain rfl) rfl rfl (by decide) rfl (by first|assumption|exact rfl) (fun w h=>by simp[go_sem,h]) rfl
  ·refine Any.st_j ?_;exact Any.st_was 39 0 (.plain rfl) (by first|exact .inl rfl|exact .inr rfl) rfl (by decide) (rfl)
  ·refine Any.st_j ?_;exact Any.st_was 40 7 (.plain rfl) (by first|exact .inl rfl|exact .inr rfl) rfl (by decide) (rfl)
  ·refine Any.st_j ?_;exact Any.sx_two 41 39 40 _ _ _ (.plain rfl) rfl (by decide) (by decide) rfl rfl (fun a w Y S=>by unfold execOp;simp only[Y,S];first|(simp[go_sem];done)|(simp[go_sem];omega)|(simp[go_sem, *];done)) rfl
  ·refine Any.st_j ?_;exact Any.sx_load_at 42 41 _ _ _ (.plain rfl) rfl rfl (by decide) rfl (by assumption) (fun w h=>by simp[go_sem,h]) rfl
  ·refine Any.st_j ?_;exact Any.st_was 43 8 (.plain rfl) (by first|exact .inl rfl|exact .inr rfl) rfl (by decide) (rfl)
  ·refine Any.st_j ?_;exact Any.st_was 44 9 (.plain rfl) (by first|exact .inl rfl|exact .inr rfl) rfl (by decide) (rfl)
  ·refine Any.st_j ?_;exact Any.st_built 45 _ _ #[(1,TY T7 r),(3,TY T6 H),(4,TY T6 J)] (#[T2 false,TY T7 r,TY T6 0,TY T6 H,TY T6 J]) (.plain rfl) rfl rfl (fun a w h=>by have d0:a.eval (.tmp 42)=_:=h.eqv 42 (by decide) rfl;have d6:a.eval (.tmp 43)=_:=h.eqv 43 (by decide) rfl;have d2:a.eval (.tmp 44)=_:=h.eqv 44 (by decide) rfl;simp only[aQ,aJ,a8,d0,d6,d2]<;>rfl) (fun w=>by kernel_rfl) rfl
  intro f w9 cu j;have br:f 38=.func (.func 244) #[] #[TZ (some ⟨g,0,none⟩)]:=j 38 rfl;have bA:f 39=T0 (some ⟨b,o,none⟩) n c:=j 39 rfl;have cl:f 40=TY T6 d:=j 40 rfl;have bB:f 41=TZ (some ⟨b,o+d,none⟩):=j 41 rfl;have cs:f 42=TY T7 r:=j 42 rfl;have bi:f 43=TY T6 H:=j 43 rfl;have bq:f 44=TY T6 J:=j 44 rfl;have ch:f 45=T1 #[T2 false,TY T7 r,TY T6 0,TY T6 H,TY T6 J]:=j 45 rfl;simp only[Any.fill,bC,bL,aq,aI,aH,bg,bZ,br,bA,cl,bB,cs,bi,bq,ch];have ar:Below w8.heap.size w8 w9:=(aw w8.heap.size w8).drew.trans cu;have b9:=b1.out.trans (Ga.grows (g:=g) ar (ax G (b1.out).below.size));have O:=N.out w9 (de.out.grows ar);clear j cu br bA cl bB cs bi bq ch ar;have ds:=Lib.hid b9;clear b9;go_wp2_with fail;refine O.mono ?_;rintro e ey ⟨rfl,ad,C⟩;have C:=ds.out.trans C;obtain⟨bS,bR⟩:=aA C ad;clear C ad;clear O;go_wp2_with fail;go_ret;exact⟨rfl,bR.out,bS.out⟩
end
end Go.Proofs.YtfammloeljmplaaGreatDoor
