/- Contracts of find and policy; conditions: each lemma's own. -/
import Derived.Test.YtfammloeljmplaaGreatDoorZ23
import Derived.Test.YtfammloeljmplaaGreatDoorZ25
import Derived.Test.YtfammloeljmplaaGreatDoorZ27
open Go.Value renaming int->TY,pointer->TZ,slice->T0,agg->T1,bool->T2,tuple->T4
open Go.IntKind renaming i64->T6,u64->T8
open Go.Obj renaming cells->Ua
open Go renaming World->Ub,Value->Uc
namespace Go.Proofs.YtfammloeljmplaaGreatDoor
open Go.Proofs.Tryz
set_option maxRecDepth 100000
set_option maxHeartbeats 8000000
set_option linter.unusedVariables false
set_option linter.unusedSimpArgs false
section
open Go.RowKit
def Ic(s:ByteArray):Rw:=⟨s,[-1,-1,-1,-1,-1],0,0⟩
theorem LD(s:ByteArray):gv [Ic s]↔jQ s=true:=by
 constructor
 ·intro h;exact h.named 0 (by simp)
 intro h;have b:∀j,j<1->([Ic s]:List Rw).getD j default=Ic s:=fun j a=>by
  obtain rfl:j=0:=by omega
  rfl
 refine⟨by simp,fun j a=>by rw[b j a];exact h,fun j a=>?_,fun j a=>?_,fun j d c=>?_,?_⟩
 ·rw[b j a];rfl
 ·rw[b j a];exact⟨show(-1:Int)≠102 by decide,show(-1:Int)≠117 by decide⟩
 ·simp at c;omega
 exact List.nodup_nil
theorem CW(s:ByteArray)(x:s.size<=9223372036854775807)(w:Ub):TV 201 #[.string s] w (T2 (jQ s)):=by
 have g:=(aw w.heap.size w).alloc (ae _) (Ua #[.string s,TY T6 (-1),TY T6 (-1),TY T6 (-1),TY T6 (-1),TY T6 (-1),TY T6 0,TY T6 0] 82);have d:(w.alloc (Ua #[.string s,TY T6 (-1),TY T6 (-1),TY T6 (-1),TY T6 (-1),TY T6 (-1),TY T6 0,TY T6 0] 82)).heap.size=w.heap.size+1:=by simp
 have p:jv (w.alloc (Ua #[.string s,TY T6 (-1),TY T6 (-1),TY T6 (-1),TY T6 (-1),TY T6 (-1),TY T6 0,TY T6 0] 82)) (w.alloc (Ua #[.string s,TY T6 (-1),TY T6 (-1),TY T6 (-1),TY T6 (-1),TY T6 (-1),TY T6 0,TY T6 0] 82)).heap.size (some ⟨w.heap.size,0,none⟩) [Ic s]:=by
  intro _;refine⟨w.heap.size,0,rfl,by rw[d];omega,fun k u=>?_⟩;obtain rfl:k=0:=by simpa using u
  refine⟨(Ic s).vals,rfl,rfl,fun j v hv=>?_⟩;rw[World.cell?_alloc_at _ _ _ _ rfl];simpa[Ic,Rw.vals]using hv
 have a:=wu [Ic s] (fun r n=>by rw[bz.1 n];rfl) (fun r n=>by rw[bz.1 n];exact x) (by simp) _ 1 _ p;unfold pE at a;rw[LD]at a;replace a:Calls prog 72 #[T0 (some ⟨w.heap.size,0,none⟩) 1 1] _ _:=a;generalize jQ s=t at*;obtain⟨m,o⟩:=aA g d;clear g d;clear p;go_enter func201,ntmps201;go_wp2_with fail;refine a.mono ?_;rintro e w5 ⟨⟨i,q,rfl,b⟩,f⟩;have c:=m.out.trans (f.mono (by have:=o.out;omega));have hv:(q==0)=t:=by
  rw[aZ];simpa using b
 obtain⟨l,y⟩:=aA c hv;clear c hv;clear a f b;go_wp2_with fail;go_ret;exact⟨by show Ending.returned (T2 (q==0))=_;rw[y.out],l.out⟩
def pB(r:Rl):Bool:=jQ r.name&&eT r.kind r.num&&decide (r.conds.length<=6)&&r.conds.all fS
def kB(p:Po):Bool:=eT p.kind p.num&&decide (p.rules.length<=500)&&p.rules.all pB
theorem Ie(c:Cd)(w:Ub):TV 202 #[T1 c.vals.toArray] w (T2 (!fS c)):=by
 have a:=fun W=>oG c W
 obtain⟨g,i,f,d⟩:=c;replace a:∀W,TV 203 #[T1 #[TY T6 g,TY T6 i,TY T8 f,TY T8 d]] W (T2 (fS ⟨g,i,f,d⟩)):=a;show Calls prog _ #[T1 #[TY T6 g,TY T6 i,TY T8 f,TY T8 d]] w _
 have l:=(aw w.heap.size w).alloc (ae _) (Ua #[TY T6 g,TY T6 i,TY T8 f,TY T8 d] 162);have j:(w.alloc (Ua #[TY T6 g,TY T6 i,TY T8 f,TY T8 d] 162)).heap.size=w.heap.size+1:=by simp
 generalize fS ⟨g,i,f,d⟩=p at*;obtain⟨n,o⟩:=aA l j;clear l j;go_enter func202,ntmps202;go_wp2_with fail;refine(a _).mono ?_;rintro e w5 ⟨rfl,k⟩;have b:=n.out.trans (k.mono (by have:=o.out;omega));have m:=Lib.hid b;clear b;clear a k;go_wp2_with fail;go_ret;exact⟨rfl,m.out⟩
theorem JU{α:Type}(l:List α)(p:α->Bool):(l.any fun x=> !p x)= !l.all p:=by
 induction l with
 |nil=>rfl
 |cons x t ih=>rw[List.any_cons,fg,ih];cases p x<;>rfl
theorem Ao(r:Rl)(O:r.name.size<=9223372036854775807)(N:r.conds.length<=1000000)(A:Option Addr)(c B:Nat)(w:Ub)(t:B<=w.heap.size)(D:bh w B 4 A r.conds.length (cR r.conds)):
  TV 123 #[T1 #[.string r.name,TY T6 r.kind,TY T6 r.num,T0 A r.conds.length c]] w (T2 (pB r)):=by
 obtain⟨l,kd,o,cs⟩:=r;simp only at O N D⊢;have G:=fun W=>CW l O W
 have y:=fun W=>pF kd o W
 have u:=(aw w.heap.size w).alloc (ae _) (Ua #[.string l,TY T6 kd,TY T6 o,T0 A cs.length c] 80);have J:=bK.new w 80 #[.string l,TY T6 kd,TY T6 o,T0 A cs.length c];have q:(w.alloc (Ua #[.string l,TY T6 kd,TY T6 o,T0 A cs.length c] 80)).heap.size=w.heap.size+1:=by simp
 have m:=fun(W:Ub) (H:Below w.heap.size w W)=>si cs N (fun c=> !fS c) 202 #[] (eU func202 (by kernel_rfl) rfl) A c B W (ax t H.size) (D.below (H.mono t)) (fun k _ W' _ _=>Ie _ W')
 rw[show pB ⟨l,kd,o,cs⟩=(jQ l&&eT kd o&&decide (cs.length<=6)&&cs.all fS) from rfl];rw[JU]at m;generalize jQ l=X at*;generalize eT kd o=T at*;generalize cs.all fS=al at*;generalize cs.length=n at*;obtain⟨x,Z,E,F⟩:=aB u J q m;clear u J q m;clear D;go_enter func123,ntmps123;go_wp2_with fail;refine(G _).mono ?_;rintro e w5 ⟨rfl,d⟩;have U:=E.out;have Y:=d.size;have b:=x.out.trans (d.mono (by omega));have p:=Z.out.below d (by omega);cases X with
 |false=>
  obtain⟨f,S⟩:=aA b p;clear b p;clear d;go_wp2_with fail;go_ret;exact⟨iL (by simp),f.out⟩
 |true=>
  have L:=p.cell 1;have M:=p.cell 2;simp only[ao]at L M;obtain⟨f,S⟩:=aA b p;clear b p;clear d;go_wp2_with fail;refine(y _).mono ?_;rintro e w6 ⟨rfl,g⟩;have V:=g.size;have j:=f.out.trans (g.mono (by omega));have z:=S.out.below g (by omega);have c3:=z.cell 3;simp only[ao]at c3;obtain⟨a,B6⟩:=aA j z;clear j z;clear g L M;cases T with
  |false=>
   go_wp2_with fail;go_ret
   exact⟨iL (by simp),a.out⟩
  |true=>
   by_cases R:n<=6
   ·have C:(n:Int)<=6:=by omega
    go_wp2_with fail;refine(F.out _ a.out).mono ?_
    rintro e w7 ⟨rfl,s⟩;have i:=a.out.trans (s.mono a.out.size);have v:=Lib.hid i;clear i;clear s;go_wp2_with fail;go_ret;exact⟨iL (by simp[R]),v.out⟩
   have C:¬(n:Int)<=6:=by omega
   go_wp2_with fail;go_ret
   exact⟨iL (by simp[R]),a.out⟩
theorem Aq(r:Rl)(u:r.name.size<=9223372036854775807)(t:r.conds.length<=1000000)(A:Option Addr)(c B:Nat)(w:Ub)(i:B<=w.heap.size)(p:bh w B 4 A r.conds.length (cR r.conds)):
  TV 122 #[T1 #[.string r.name,TY T6 r.kind,TY T6 r.num,T0 A r.conds.length c]] w (T2 (!pB r)):=by
 have b:=fun W (s:Below w.heap.size w W)=>Ao r u t A c B W (ax i s.size) (p.below (s.mono i))
 obtain⟨l,kd,o,cs⟩:=r;simp only at u t p b⊢;have j:=(aw w.heap.size w).alloc (ae _) (Ua #[.string l,TY T6 kd,TY T6 o,T0 A cs.length c] 80);have f:(w.alloc (Ua #[.string l,TY T6 kd,TY T6 o,T0 A cs.length c] 80)).heap.size=w.heap.size+1:=by simp
 generalize pB ⟨l,kd,o,cs⟩=v at*;generalize cs.length=n at*;obtain⟨d,q,m⟩:=aC j f b;clear j f b;clear p;go_enter func122,ntmps122;go_wp2_with fail;refine(m.out _ d.out).mono ?_;rintro e w5 ⟨rfl,g⟩;have a:=d.out.trans (g.mono (by have:=q.out;omega));have k:=Lib.hid a;clear a;clear g;go_wp2_with fail;go_ret;exact⟨rfl,k.out⟩
theorem uu(p:Po)(O:p.rules.length<=1000000)(d:∀r∈p.rules,r.conds.length<=1000000/\r.name.size<=9223372036854775807)(A:Option Addr)(c B:Nat)(w:Ub)(l:B<=w.heap.size)(E:eI w B A p.rules):
  TV 71 #[nu p A c] w (T2 (kB p)):=by
 unfold nu;obtain⟨m,j,u,rs⟩:=p;simp only at O d E⊢;have y:=fun W=>pF m j W
 have s:=(aw w.heap.size w).alloc (ae _) (Ua #[TY T6 m,TY T6 j,T2 u,T0 A rs.length c] 46);have M:=bK.new w 46 #[TY T6 m,TY T6 j,T2 u,T0 A rs.length c];have o:(w.alloc (Ua #[TY T6 m,TY T6 j,T2 u,T0 A rs.length c] 46)).heap.size=w.heap.size+1:=by simp
 have i:=fun(W:Ub) (z:Below w.heap.size w W)=>so rs O (fun r=> !pB r) 122 #[] (eU func122 (by kernel_rfl) rfl) A c B W (ax l z.size) (E.below (z.mono l))
  (fun k L Y U W' G H=>Aq (rs.getD k default) (d _ (gu L)).2 (d _ (gu L)).1 Y U B W' (ax (ax l z.size) G.size) H)
 rw[show kB ⟨m,j,u,rs⟩=(eT m j&&decide (rs.length<=500)&&rs.all pB) from rfl];rw[JU]at i;generalize eT m j=T at*;generalize rs.all pB=al at*;generalize rs.length=n at*;obtain⟨v,C,F,J⟩:=aB s M o i;clear s M o i;clear E d;have S:=C.out.cell 0;have N:=C.out.cell 1;simp only[ao]at S N;go_enter func71,ntmps71;go_wp2_with fail;refine(y _).mono ?_;rintro e w5 ⟨rfl,b⟩;have V:=F.out;have X:=b.size;have g:=v.out.trans (b.mono (by omega));have x:=C.out.below b (by omega);have Z:=x.cell 3;simp only[ao]at Z;obtain⟨a,B5⟩:=aA g x;clear g x;clear b S N;cases T with
 |false=>
  go_wp2_with fail;go_ret
  exact⟨iL (by simp),a.out⟩
 |true=>
  by_cases R:n<=500
  ·have D:(n:Int)<=500:=by omega
   go_wp2_with fail;refine(J.out _ a.out).mono ?_
   rintro e w7 ⟨rfl,q⟩;have f:=a.out.trans (q.mono a.out.size);have t:=Lib.hid f;clear f;clear q;go_wp2_with fail;go_ret;exact⟨iL (by simp[R]),t.out⟩
  have D:¬(n:Int)<=500:=by omega
  go_wp2_with fail;go_ret
  exact⟨iL (by simp[R]),a.out⟩
def qa(l:List Rw)(name:ByteArray)(k:Nat):Int:=Lib.compareBytes (l.getD k default).name.data.toList name.data.toList
structure JS(l:List Rw)(name:ByteArray)(i:Nat)(is:Bool):Prop where
 le:i<=l.length
 yes:is=true->i<l.length/\(l.getD i default).name=name
 no:is=false->∀k,k<l.length->(l.getD k default).name≠name
def za(l:List Rw)(name:ByteArray)(w:Ub)(e:Ending)(w':Ub):Prop:=(∃(i:Nat) (a:Bool),e=.returned (T4 #[TY T6 i,T2 a])/\JS l name i a)/\Below w.heap.size w w'
theorem CT(l:List Rw)(name:ByteArray)(k:Nat):qa l name k<0↔JV (l.getD k default).name name:=by
 unfold qa JV;rw[Ih,ByteArray.toList_eq,ByteArray.toList_eq];generalize (l.getD k default).name.data.toList=a;split
 ·rename_i h;simp[h]
 rename_i h;split<;>simp[h]
theorem JT(l:List Rw)(name:ByteArray)(k:Nat):qa l name k=0↔(l.getD k default).name=name:=by
 unfold qa;rw[Ih];generalize (l.getD k default).name=a;constructor
 ·intro h;split at h
  ·omega
  split at h
  ·rename_i b;cases a;cases name;congr 1;exact vF.1 b
  omega
 rintro rfl;rw[Ig];simp
theorem LC(r:Rw)(d:r.nums.length=5)(name:ByteArray)(w:Ub):TV 90 #[T1 r.vals.toArray,.string name] w (TY T6 (Lib.compareBytes r.name.data.toList name.data.toList)):=by
 obtain⟨b,nums,f,i⟩:=r;simp only at d;match nums,d with
 |[a0,a1,a2,a3,g],_=>
 have j:=fun W=>sZ b name W
 show Calls prog _ #[T1 #[.string b,TY T6 a0,TY T6 a1,TY T6 a2,TY T6 a3,TY T6 g,TY T6 f,TY T6 i],_] w _
 have a:=(aw w.heap.size w).alloc (ae _) (Ua #[.string b,TY T6 a0,TY T6 a1,TY T6 a2,TY T6 a3,TY T6 g,TY T6 f,TY T6 i] 82);simp only;generalize Lib.compareBytes b.data.toList name.data.toList=k at*;have c:=Lib.hid a;clear a;go_enter func90,ntmps90;go_wp2_with fail;refine(j _).mono ?_;rintro e w5 ⟨rfl,rfl⟩;go_wp2_with fail;go_ret;exact⟨rfl,c.out⟩
theorem Fg(l:List Rw)(h5:∀r∈l,r.nums.length=5)(hl:l.length<=1000000)(v:∀j i,i<j->j<l.length->JV (l.getD i default).name (l.getD j default).name)(name:ByteArray)(A:Option Addr)(c B:Nat)(w:Ub)(ad:B<=w.heap.size)(hr:jv w B A l):
  Calls prog 89 #[T0 A l.length c,.string name,.func (.func 90) #[] #[]] w (za l name w):=by
 have x:∀i j,i<j->j<l.length->qa l name j<0->qa l name i<0:=fun i j h1 h2 h3=>(CT _ _ _).2 (BM (v j i h1 h2) ((CT _ _ _).1 h3))
 have J:=fun k (Y:k<l.length) W=>LC (l.getD k default) (h5 _ (gu Y)) name W
 have d:∀i,i<=l.length->(∀m,m<i->qa l name m<0)->(∀m,i<=m->m<l.length->0<=qa l name m)->JS l name i (decide (i<l.length)&&decide (qa l name i=0)):=fun i hi h1 h2=>by
  refine⟨hi,fun h=>?_,fun h k Y e=>?_⟩
  ·simp only[bG,aV]at h;exact⟨h.1,(JT _ _ _).1 h.2⟩
  have bi:=(JT l name k).2 e;have b6:i<=k:=by
   rcases dB k i with g|g
   ·have:=h1 k g;omega
   exact g
  rcases dB i k with g|g
  ·have:=x i k g Y;have h3:=(CT l name i).2 (by
    have:=v k i g Y;rw[e]at this;exact this)
   exact absurd h3 (by have:=h2 i (ae _) (by omega);omega)
  obtain rfl:i=k:=by omega
  simp[Y,bi]at h
 generalize hn:l.length=n at*;obtain⟨HN,z,t,H5,HR,H⟩:=aF hn x d h5 hr J;clear hn x d h5 hr J;clear v;go_enter func89,ntmps89;go_wp2_with fail;go_loopw [9,10] (fun vi vj wr=>∃i j:Nat,i<=j/\j<=n/\vi=TY T6 i/\vj=TY T6 j/\(∀m,m<i->qa l name m<0)/\(∀m,j<=m->m<n->0<=qa l name m)/\Below w.heap.size w wr) (fun vi vj _=>(intOf vj).toNat - (intOf vi).toNat)
 case atStart=>exact⟨0,n,by omega,by omega,rfl,rfl,fun m hm=>absurd hm (by omega),fun m h1 h2=>absurd h1 (by omega),aw _ _⟩
 case round=>
  obtain⟨i,j,bS,hj,rfl,rfl,X,ab,L⟩:=hrel;obtain⟨ag,am⟩:=aA X ab;clear X ab;by_cases bR:i<j
  ·have br:(i:Int)<(j:Int):=by omega
   have bN:IntKind.i64.wrap ((i:Int)+(j:Int))=(i:Int)+(j:Int):=IntWalk.i64_in _ (by omega);obtain⟨m,bq⟩:∃m:Nat,((i:Int)+(j:Int)) / 2=(m:Int):=⟨(i+j) / 2,by omega⟩;have b5:i<=m:=by omega
   have bW:m<j:=by omega
   have b0:(m:Int)<(n:Int):=by omega
   have bB:IntKind.i64.wrap ((m:Int)+1)=(m:Int)+1:=IntWalk.i64_in _ (by omega);obtain⟨b,p,rfl,hb,S,a,U,T⟩:=(HR.out.below (L.mono ad)).at_ H5.out (k:=m) (by rw[HN.out];omega);have f:=H.out m (by omega);have u:=H5.out _ (gu (l:=l) (k:=m) (by rw[HN.out];omega));have E:Lib.compareBytes (l.getD m default).name.data.toList name.data.toList=qa l name m:=rfl;rw[E]at f;generalize D:qa l name m=R at*;generalize l.getD m default=ck at*;obtain⟨nm,nums,mx,sb⟩:=ck;simp only at u S a U T;match nums,u with
   |[a0,a1,a2,a3,a4],_=>
   have g1:wr.cell? ⟨b,p+m*8+1,none⟩=some (TY T6 a0):=a 0 (by omega);have g2:wr.cell? ⟨b,p+m*8+2,none⟩=some (TY T6 a1):=a 1 (by omega);have g3:wr.cell? ⟨b,p+m*8+3,none⟩=some (TY T6 a2):=a 2 (by omega);have g4:wr.cell? ⟨b,p+m*8+4,none⟩=some (TY T6 a3):=a 3 (by omega);have g5:wr.cell? ⟨b,p+m*8+5,none⟩=some (TY T6 a4):=a 4 (by omega);replace f:∀W,TV 90 #[T1 #[.string nm,TY T6 a0,TY T6 a1,TY T6 a2,TY T6 a3,TY T6 a4,TY T6 mx,TY T6 sb],.string name] W (TY T6 R):=f;clear a E;obtain⟨C,F⟩:=aA D L;clear D L;by_cases G:R<0
   ·go_wp2_with fail;refine(f _).mono ?_
    rintro e w5 ⟨rfl,s⟩;have o:=F.out.trans (s.mono F.out.size);have N:∀y,y<m+1->qa l name y<0:=fun y h=>by
     rcases dB y m with g|g
     ·exact z.out y m g (by omega) (by rw[C.out];exact G)
     obtain rfl:y=m:=by omega
     rw[C.out];exact G
    obtain⟨q,ak⟩:=aA o N;clear o N;clear s f S g1 g2 g3 g4 g5 U T;go_wp2_with fail;go_roundw;case rel=>exact⟨m+1,j,by omega,hj,by go_num,rfl,ak.out,am.out,q.out⟩
    case measure=>simp[intOf];omega
   go_wp2_with fail;refine(f _).mono ?_
   rintro e w5 ⟨rfl,s⟩;have o:=F.out.trans (s.mono F.out.size);have M:∀y,m<=y->y<n->0<=qa l name y:=fun y h h'=>by
    rcases dB m y with g|g
    ·rcases Je (qa l name y) 0 with hc|hc
     ·have h9:=z.out m y g h' hc;rw[C.out]at h9;omega
     exact hc
    obtain rfl:y=m:=by omega
    rw[C.out];omega
   obtain⟨q,Z⟩:=aA o M;clear o M;clear s f S g1 g2 g3 g4 g5 U T;go_wp2_with fail;go_roundw;case rel=>exact⟨i,m,by omega,by omega,rfl,by go_num,ag.out,Z.out,q.out⟩
   case measure=>simp[intOf];omega
  obtain rfl:j=i:=by omega
  have d:=t.out j hj ag.out am.out;by_cases V:j<n
  ·have be:(j:Int)<(n:Int):=by omega
   obtain⟨b,p,rfl,hb,S,a,U,T⟩:=(HR.out.below (L.mono ad)).at_ H5.out (k:=j) (by rw[HN.out];omega);have f:=H.out j (by omega);have u:=H5.out _ (gu (l:=l) (k:=j) (by rw[HN.out];omega));have E:Lib.compareBytes (l.getD j default).name.data.toList name.data.toList=qa l name j:=rfl;rw[E]at f;generalize D:qa l name j=R at*;generalize l.getD j default=ck at*;obtain⟨nm,nums,mx,sb⟩:=ck;simp only at u S a U T;match nums,u with
   |[a0,a1,a2,a3,a4],_=>
   have g1:wr.cell? ⟨b,p+j*8+1,none⟩=some (TY T6 a0):=a 0 (by omega);have g2:wr.cell? ⟨b,p+j*8+2,none⟩=some (TY T6 a1):=a 1 (by omega);have g3:wr.cell? ⟨b,p+j*8+3,none⟩=some (TY T6 a2):=a 2 (by omega);have g4:wr.cell? ⟨b,p+j*8+4,none⟩=some (TY T6 a3):=a 3 (by omega);have g5:wr.cell? ⟨b,p+j*8+5,none⟩=some (TY T6 a4):=a 4 (by omega);replace f:∀W,TV 90 #[T1 #[.string nm,TY T6 a0,TY T6 a1,TY T6 a2,TY T6 a3,TY T6 a4,TY T6 mx,TY T6 sb],.string name] W (TY T6 R):=f;clear a E;rw[bM V,il]at d;have O:(R==0)=decide (R=0):=by rw[aZ];simp
   rw[<-O]at d;generalize b4:(R==0)=cb at*;obtain⟨C,F,t,bO⟩:=aB D L d O;clear D L d O;go_wp2_with fail;refine(f _).mono ?_;rintro e w5 ⟨rfl,s⟩;have o:=F.out.trans (s.mono F.out.size);have q:=Lib.hid o;clear o;clear s f S g1 g2 g3 g4 g5 U T;go_wp2_with fail;go_ret2;exact⟨⟨j,cb,rfl,t.out⟩,q.out⟩
  have be:¬(j:Int)<(n:Int):=by omega
  rw[aK V,lx]at d;obtain⟨t,F⟩:=aA d L;clear d L;go_wp2_with fail;go_ret2;exact⟨⟨j,false,rfl,t.out⟩,F.out⟩
theorem lZ{P:Program}{e:Func}{p q r:Tmp}{ty:TypeId}(h:e.results=#[.cell p ty,.tmp q,.tmp r])(tmps:Array Uc)(w:Ub)(g:Nat)(t:TypeId)(cs:Array Uc)(fr:Nat×Nat)(d:TypeDesc)(v u:Uc)
  (k:tmps.getD p undef=TZ (some ⟨g,0,none⟩))(j:tmps.getD q undef=v)(l:tmps.getD r undef=u)(i:w.heap[g]? =some (Ua cs t fr))
  (m : P.underlying ty = some d) (f : (match d with | .struct _ | .array _ _ => true | _ => false) = true) (n : (P.info? ty).map (·.size) = some cs.size) :
  (results e tmps).run P w=.ok (T4 #[T1 cs,v,u]) w:=by
 have b:tmps[p]?.getD undef=TZ (some ⟨g,0,none⟩):=by simpa using k
 have c:tmps[q]?.getD undef=v:=by simpa using j
 have a:tmps[r]?.getD undef=u:=by simpa using l
 simp[results,h,b,c,a,asAddr,kQ w g t ty cs fr d i m f n]
theorem aR{P:Program}{d:Array Oper}{rest:List Oper}{o:Oper}{a:Act}{w:Ub}{Q:Exit->Act->Ub->Prop}(f:o.guard=none)(ty:TypeId)(x y:Operand)(q:o.op=.store ty x y)
  (g:Nat)(cells:Array Uc)(u:a.eval x=TZ (some ⟨g,0,none⟩))(r:a.eval y=T1 cells)(t:TypeId)(b:Array Uc)(m:bK w g t b)(s:(P.info? ty).map (·.size)=some cells.size)
  (c:b.size=cells.size)(n:cells.all (·.oneCell')=true)(h:∀l,bK l g t cells->w.grownBy l (some g)->wpList P d Q rest (a.put o.dst undef) l):wpList P d Q (o::rest) a w:=
 jG f fun _ p=>wp_store_row ty x y q g cells u r t b m s c n (p _ _ (h _ (P9 w g b cells t (0,0) m)
  ⟨rfl,rfl,rfl,by simp,fun k v i=>by
    have j:g≠k:=fun e=>i (by rw[e])
    unfold World.setRow;rw[oI,af j]⟩))
def Ib:Rw:=⟨⟨#[]⟩,[0,0,0,0,0],0,0⟩
structure nI(l:List Rw)(name:ByteArray)(r:Rw)(i:Nat)(is:Bool):Prop where
 five:r.nums.length=5
 yes:is=true->i<l.length/\r=l.getD i default/\r.name=name
 no:is=false->(∀k,k<l.length->(l.getD k default).name≠name)/\r=Ib
def LB(l:List Rw)(name:ByteArray)(w:Ub)(e:Ending)(w':Ub):Prop:=(∃(r:Rw) (i:Nat) (a:Bool),e=.returned (T4 #[T1 r.vals.toArray,TY T6 i,T2 a])/\nI l name r i a)/\Below w.heap.size w w'
theorem N2(l:List Rw)(N:∀r∈l,r.nums.length=5)(hl:l.length<=1000000)(f:∀j i,i<j->j<l.length->JV (l.getD i default).name (l.getD j default).name)(name:ByteArray)(A:Option Addr)(c B:Nat)(w:Ub)(z:B<=w.heap.size)(O:jv w B A l):
  Calls prog 36 #[T0 A l.length c,.string name] w (LB l name w):=by
 have H:=(aw w.heap.size w).alloc (ae _) (Ua #[.string ⟨#[]⟩,TY T6 0,TY T6 0,TY T6 0,TY T6 0,TY T6 0,TY T6 0,TY T6 0] 82);have U:=bK.new w 82 #[.string ⟨#[]⟩,TY T6 0,TY T6 0,TY T6 0,TY T6 0,TY T6 0,TY T6 0,TY T6 0];have F:(w.alloc (Ua #[.string ⟨#[]⟩,TY T6 0,TY T6 0,TY T6 0,TY T6 0,TY T6 0,TY T6 0,TY T6 0] 82)).heap.size=w.heap.size+1:=by simp
 have x:=fun(W:Ub) (X:Below w.heap.size w W)=>Fg l N hl f name A c B W (ax z X.size) (O.below (X.mono z))
 unfold za at x;generalize Y:l.length=n at*;obtain⟨HN,G,Z,L,S,T,HR⟩:=az Y H U F x N O;clear Y H U F x N O;clear f;go_enter func36,ntmps36;go_wp2_with fail;refine(S.out _ G.out).mono ?_;rintro e w5 ⟨⟨i,is,rfl,t⟩,u⟩;have ad:=L.out;have J:=Z.out.below u (by omega);have d:=G.out.trans (u.mono (by omega));have V:w.heap.size<w5.heap.size:=by have:=u.size;omega
 clear u;cases is with
 |false=>
  have o:nI l name Ib 0 false:=⟨rfl,(fun h=>by cases h),fun _=>⟨t.no rfl,rfl⟩⟩;obtain⟨y,m,R⟩:=aC o d J;clear o d J;clear t;go_wp2_with (refine aR rfl 82 (.tmp 4) (.tmp 17) rfl w.heap.size _ rfl rfl 82 _ R.out (by kernel_rfl) rfl (by simp[Value.oneCell']) ?_;intro w6 M D);have C:=m.out.grown D (by omega) (fun k e=>by cases e;exact ae _);refine aO (lZ (p:=4) (q:=5) (r:=6) (ty:=82) rfl _ _ w.heap.size _ _ _ _ _ _ rfl rfl rfl M underlying82 rfl (by kernel_rfl)) rfl ⟨⟨Ib,0,false,rfl,y.out⟩,C⟩
 |true=>
  obtain⟨v,E⟩:=t.yes rfl;have ab:(i:Int)<(n:Int):=by rw[HN.out]at v;omega
  obtain⟨b,g,rfl,hb,h0,a,h6,h7⟩:=(HR.out.below (d.mono z)).at_ T.out v;have s:=T.out _ (gu (l:=l) (k:=i) v);have o:nI l name (l.getD i default) i true:=⟨s,fun _=>⟨v,rfl,E⟩,fun h=>by cases h⟩;generalize l.getD i default=ck at*;obtain⟨nm,nums,mx,sb⟩:=ck;simp only at s h0 a h6 h7;match nums,s with
  |[a0,a1,a2,a3,a4],_=>
  have g1:w5.cell? ⟨b,g+i*8+1,none⟩=some (TY T6 a0):=a 0 (by omega);have g2:w5.cell? ⟨b,g+i*8+2,none⟩=some (TY T6 a1):=a 1 (by omega);have g3:w5.cell? ⟨b,g+i*8+3,none⟩=some (TY T6 a2):=a 2 (by omega);have g4:w5.cell? ⟨b,g+i*8+4,none⟩=some (TY T6 a3):=a 3 (by omega);have g5:w5.cell? ⟨b,g+i*8+5,none⟩=some (TY T6 a4):=a 4 (by omega);obtain⟨y,m,R⟩:=aC o d J;clear o d J;clear a E t;go_wp2_with (refine aR rfl 82 (.tmp 4) (.tmp 21) rfl w.heap.size _ rfl rfl 82 _ R.out (by kernel_rfl) rfl (by simp[Value.oneCell']) ?_;intro w6 M D);have C:=m.out.grown D (by omega) (fun k e=>by cases e;exact ae _);refine aO (lZ (p:=4) (q:=5) (r:=6) (ty:=82) rfl _ _ w.heap.size _ _ _ _ _ _ rfl rfl rfl M underlying82 rfl (by kernel_rfl)) rfl ⟨⟨_,i,true,rfl,y.out⟩,C⟩
end
end Go.Proofs.YtfammloeljmplaaGreatDoor
