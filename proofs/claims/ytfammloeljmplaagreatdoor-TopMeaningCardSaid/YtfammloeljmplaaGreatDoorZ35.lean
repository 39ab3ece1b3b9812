/- Contracts of norm, narrow and valid; conditions: each lemma's own. -/
import Derived.Sort.OwnSorted
import Derived.Test.YtfammloeljmplaaGreatDoorZ11
import Derived.Test.YtfammloeljmplaaGreatDoorZ28
import Derived.Test.YtfammloeljmplaaGreatDoorZ34
open Go.Value renaming int->TY,pointer->TZ,slice->T0,agg->T1,bool->T2,tuple->T4
open Go.IntKind renaming i64->T6,u64->T8
open Go.Obj renaming cells->Ua
open Go renaming World->Ub,Value->Uc
namespace Go.Proofs.YtfammloeljmplaaGreatDoor
open Go.Proofs.Tryz
set_option maxRecDepth 100000
set_option maxHeartbeats 8000000
set_option linter.unusedVariables false
set_option linter.unusedSimpArgs false
section
open Go.RowKit
theorem BJ{l:List Rw}(m:∀i j,i<l.length->j<l.length->(l.getD i default).name=(l.getD j default).name->i=j){name:ByteArray}{r:Rw}{i:Nat}{d:Bool}(h:nI l name r i d):(d=true->r=gS l name)/\r.mux=(gS l name).mux:=by
 unfold gS;cases d with
 |true=>
  obtain⟨b,a,k⟩:=h.yes rfl;have c:l.find? (fun r=>decide (r.name=name))=some (l.getD i default):=by
   cases e:l.find? (fun r=>decide (r.name=name))with
   |none=>
    rw[dQ]at e;exact absurd (bM (show(l.getD i default).name=name by rw[<-a];exact k)) (e _ (gu b))
   |some x=>
    have f:x.name=name:=aN (kE (p:=fun r:Rw=>decide (r.name=name)) e);obtain⟨j,g,rfl⟩:=rL (dj e);have:j=i:=m j i g b (by rw[f,<-a,k]);subst this;rfl
  rw[c];exact⟨fun _=>a,by rw[a];rfl⟩
 |false=>
  obtain⟨b,a⟩:=h.no rfl;have c:l.find? (fun r=>decide (r.name=name))=none:=by
   rw[dQ];intro x f;obtain⟨j,g,rfl⟩:=rL f;simpa using b j g
  rw[c];exact⟨fun h=>absurd h (by decide),by rw[a];rfl⟩
def pA(l:List Rw)(name:ByteArray)(w:Ub)(e:Ending)(w':Ub):Prop:=(∃(b:ByteArray) (a0 a1 a2 a3 a d c:Int) (i:Nat) (f:Bool),e=.returned (T4 #[T1 #[.string b,TY T6 a0,TY T6 a1,TY T6 a2,TY T6 a3,TY T6 a,TY T6 d,TY T6 c],TY T6 i,T2 f])/\nI l name ⟨b,[a0,a1,a2,a3,a],d,c⟩ i f)/\Below w.heap.size w w'
theorem te(l:List Rw)(g:∀r∈l,r.nums.length=5)(n:l.length<=1000000)(a:∀j i,i<j->j<l.length->JV (l.getD i default).name (l.getD j default).name)(name:ByteArray)(A:Option Addr)(c B:Nat)(w:Ub)(d:B<=w.heap.size)(o:jv w B A l):
  Calls prog 36 #[T0 A l.length c,.string name] w (pA l name w):=by
 refine(N2 l g n a name A c B w d o).mono ?_;rintro e w' ⟨⟨r,i,p,rfl,h⟩,q⟩;obtain⟨f,nums,k,s⟩:=r;have b:=h.five;simp only at b;match nums,b,h with
 |[a0,a1,a2,a3,m],_,h=>exact⟨⟨f,a0,a1,a2,a3,m,k,s,i,p,rfl,h⟩,q⟩
def vq(m:Bool)(w:Ub)(e:Ending)(w':Ub):Prop:=(∃d:Bool,e=.returned (T4 #[T2 d,T2 m]))/\Below w.heap.size w w'
theorem BK{m d:Bool}{w w':Ub}{b:Bool}(h:Below w.heap.size w w')(a:b=m):vq m w (.returned (T4 #[T2 d,T2 b])) w':=⟨⟨d,by rw[a]⟩,h⟩
theorem N1(l:List Rw)(F:∀r∈l,r.nums.length=5)(G:l.length<=1000000)(a:∀j i,i<j->j<l.length->JV (l.getD i default).name (l.getD j default).name)(v:∀i j,i<l.length->j<l.length->(l.getD i default).name=(l.getD j default).name->i=j)
  (name:ByteArray)(A:Option Addr)(c B:Nat)(w:Ub)(u:B<=w.heap.size)(z:jv w B A l):
  Calls prog 81 #[T0 A l.length c,.string name] w (vq (decide (0<(gS l name).mux)) w):=by
 have d:=te l F G a name A c B w u z;unfold pA at d;have f:=fun r i q (h:nI l name r i q)=>(BJ v h).2
 generalize (gS l name).mux=E at*;generalize l.length=n at*;have k:=Lib.hid f;clear f;clear a v z;go_enter func81,ntmps81;go_wp2_with fail;refine d.mono ?_;rintro e w5 ⟨⟨x,a0,a1,a2,a3,y,t,C,i,q,rfl,m⟩,b⟩;have s:t=E:=k.out _ i q m;subst s;clear m d k;have o:=b.alloc b.size (Ua #[.string x,TY T6 a0,TY T6 a1,TY T6 a2,TY T6 a3,TY T6 y,TY T6 t,TY T6 C] 82);have p:=bK.new w5 82 #[.string x,TY T6 a0,TY T6 a1,TY T6 a2,TY T6 a3,TY T6 y,TY T6 t,TY T6 C];have g:=Lib.hid o;clear o;clear b;have D:=p.lt;have H:=p.cell 3;have J:=p.cell 6;simp only[ao]at H J;clear p;cases q with
 |false=>
  go_wp2_with fail;go_region
  go_wp2_with fail;go_ret2
  exact BK g.out.drew rfl
 |true=>
  go_wp2_with fail;go_region
  go_wp2_with fail;go_ret2
  exact BK g.out.drew rfl
def Ak(l:List Rw)(r:Rl):Bool:=decide (0<(gS l r.name).mux)&&decide (0<r.conds.length)
structure JR(l:List Rw):Prop where
 five:∀r∈l,r.nums.length=5
 len:l.length<=1000000
 rise:∀j i,i<j->j<l.length->JV (l.getD i default).name (l.getD j default).name
 names:∀i j,i<l.length->j<l.length->(l.getD i default).name=(l.getD j default).name->i=j
theorem y9(l:List Rw)(v:JR l)(r:Rl)(A:Option Addr)(c B:Nat)(t:Option Addr)(o:Nat)(g:Nat)(w:Ub)(u:B<=w.heap.size)(H:jv w B A l)(z:w.cell? ⟨g,0,none⟩=some (T0 A l.length c)):
  TV 80 #[T1 #[.string r.name,TY T6 r.kind,TY T6 r.num,T0 t r.conds.length o],TZ (some ⟨g,0,none⟩)] w (T2 (Ak l r)):=by
 obtain⟨b,kd,s,cs⟩:=r;simp only;have q:g<w.heap.size:=fM z;have x:=(aw w.heap.size w).alloc (ae _) (Ua #[.string b,TY T6 kd,TY T6 s,T0 t cs.length o] 80);have G:=bK.new w 80 #[.string b,TY T6 kd,TY T6 s,T0 t cs.length o];have p:(w.alloc (Ua #[.string b,TY T6 kd,TY T6 s,T0 t cs.length o] 80)).heap.size=w.heap.size+1:=by simp
 have j:=fun(W:Ub) (F:Below w.heap.size w W)=>N1 l v.five v.len v.rise v.names b A c B W (ax u F.size) (H.below (F.mono u))
 unfold vq at j;have C:(w.alloc (Ua #[.string b,TY T6 kd,TY T6 s,T0 t cs.length o] 80)).cell? ⟨g,0,none⟩=some (T0 A l.length c):=(cz w _ ⟨g,0,none⟩ q).trans z;rw[show Ak l ⟨b,kd,s,cs⟩=(decide (0<(gS l b).mux)&&decide (0<cs.length)) from rfl];generalize decide (0<(gS l b).mux)=L at*;generalize l.length=n at*;generalize cs.length=m at*;obtain⟨k,N,D,E⟩:=aB x G p j;clear x G p j;clear H z v;go_enter func80,ntmps80;go_wp2_with fail;refine(E.out _ k.out).mono ?_;rintro e w5 ⟨⟨d,rfl⟩,a⟩;have J:=D.out;have M:=a.size;have y:=N.out.below a (by omega);have f:=k.out.trans (a.mono (by omega));have O:=y.cell 3;simp only[ao]at O;obtain⟨i,S⟩:=aA f y;clear f y;clear a C;cases L with
 |false=>
  go_wp2_with fail;go_ret
  exact⟨iL (by simp),i.out⟩
 |true=>
  have R:(decide (0<(m:Int)))=decide (0<m):=by rw[aZ];simp
  go_wp2_with fail;go_ret
  exact⟨iL (by simp),i.out⟩
def vo(a:Bool)(w:Ub)(e:Ending)(w':Ub):Prop:=(∃i:Int,e=.returned (T4 #[TY T6 i,T2 a]))/\Below w.heap.size w w'
theorem LA{b a:Bool}{i:Int}{w w':Ub}(h:Below w.heap.size w w')(c:a=b):vo b w (.returned (T4 #[TY T6 i,T2 a])) w':=⟨⟨i,by rw[c]⟩,h⟩
theorem Al(l:List Rw)(F:JR l)(p:Po)(t:p.rules.length<=1000000)(A:Option Addr)(c B:Nat)(g:Option Addr)(i:Nat)(w:Ub)(b:B<=w.heap.size)(f:eI w B g p.rules)(G:jv w B A l):
  Calls prog 30 #[nu p g i,T0 A l.length c] w (vo (!p.rules.any (Ak l)) w):=by
 unfold nu;obtain⟨x,v,u,rs⟩:=p;simp only at t f⊢;have a:=((aw w.heap.size w).alloc (ae _) (Ua #[TY T6 x,TY T6 v,T2 u,T0 g rs.length i] 46)).alloc (by simp) (Ua #[T0 A l.length c] 48);have C:=(bK.new w 46 #[TY T6 x,TY T6 v,T2 u,T0 g rs.length i]).alloc (Ua #[T0 A l.length c] 48);have b1:bK ((w.alloc (Ua #[TY T6 x,TY T6 v,T2 u,T0 g rs.length i] 46)).alloc (Ua #[T0 A l.length c] 48)) (w.heap.size+1) 48 #[T0 A l.length c]:=dP w _ _ _;have r:((w.alloc (Ua #[TY T6 x,TY T6 v,T2 u,T0 g rs.length i] 46)).alloc (Ua #[T0 A l.length c] 48)).heap.size=w.heap.size+2:=by simp
 have o:=yK rs t (Ak l) 80 #[TZ (some ⟨w.heap.size+1,0,none⟩)] (eU func80 (by kernel_rfl) rfl) g i B _ (ax b a.size) (f.below (a.mono b))
  (fun k S J H W y M=>y9 l F (rs.getD k default) A c B J H (w.heap.size+1) W (ax (ax b a.size) y.size) (G.below ((a.mono b).trans (y.mono (ax b a.size)))) ((y.cell (p:=⟨w.heap.size+1,0,none⟩) (by simp only;omega)).trans (b1.cell 0)))
 have j:=xj rs (Ak l);generalize rs.any (Ak l)=O at*;generalize Ad (rs.findIdx? (Ak l))=N at*;generalize rs.length=m at*;generalize l.length=n at*;have L:=C.cell 3;simp only[ao]at L;obtain⟨E,T,U,z,D⟩:=aG a C b1 r j;clear a C b1 r j;clear f G F;go_enter func30,ntmps30;go_wp2_with fail;refine o.mono ?_;rintro e w5 ⟨rfl,q⟩;have d:=E.out.trans (q.mono (by have:=z.out;omega));have hv:decide (N<0)= !O:=by rw[<-D.out,aZ];simp
 obtain⟨s,R⟩:=aA d hv;clear d hv;clear q o;go_wp2_with fail;go_ret2;exact LA s.out R.out
end
section
open Go.RowKit Go.Sort
theorem BS{α:Type}[Inhabited α]{l:List α}{k:Nat}(h:k<l.length):l.getD k default∈l:=by
 rw[aa,ah h];exact bj h
theorem Io(s:ByteArray):(⟨s.data.toList.toArray⟩:ByteArray)=s:=by cases s;simp
theorem JY(a:List ByteArray):a.map Value.string=(a.map (·.data.toList)).map encStr:=by
 rw[cT];exact fN fun s _=>by simp only[Function.comp,encStr,Io]
theorem wz{W:Ub}{B n m:Nat}{v:Uc}(a:List (List UInt8))(c:a.length=n)(b:∀t∈a,t.length<=m)(e:W.ownsRow B 9 1 v n (a.map encStr)):mg B n m v W:=by
 refine⟨a.map fun t=>⟨t.toArray⟩,by simpa using c,fun s f=>?_,?_⟩
 ·obtain⟨t,d,rfl⟩:=bt.1 f;have:=b t d;show t.toArray.size<=m
  simpa using this
 rw[cT];exact e
theorem LL{W:Ub}{B n m:Nat}{v:Uc}(h:mg B n m v W)(F:n<=100000):Calls prog 129 #[v] W fun e w'=>e=.returned (T4 #[])/\mg B n m v w'/\W.grownBy w' v.ownBlock:=by
 obtain⟨f,o,k,d⟩:=h;rw[JY]at d;have b:∀t∈f.map (·.data.toList),t.length<=m:=by
  intro t i;obtain⟨s,C,rfl⟩:=bt.1 i;have:=k s C;rw[dW];exact this
 have a:(f.map (·.data.toList)).length=n:=by simpa using o
 generalize f.map (·.data.toList)=c at*;clear o k;subst a;rcases d.2 with⟨rfl,l⟩|⟨g,cap,A,rfl,u,j,z,D,E,p⟩
 ·rw[l]at d⊢;refine(nC none 0 W).mono ?_;rintro e w' ⟨rfl,rfl⟩;exact⟨rfl,wz c l b (by simpa using d),rfl,rfl,rfl,ae _,fun _ _ _=>rfl⟩
 rw[Mw]at p;refine(p9 g 0 cap c W (holds_of_block j p) (aL.1 j).1 (by omega)).mono ?_;rintro e w' ⟨rfl,q,os,rfl⟩;have r:(c.mergeSort fun x y=>decide (x<=y)).length=c.length:=kP _;refine⟨rfl,wz _ r (fun t i=>b t ((gK _ _).mem_iff.1 i)) (ownsRow_sorted r u j z D (by omega)),grownBy_sorted _⟩
theorem wT{α:Type}[Inhabited α][DecidableEq α](a:List α){x:α}(h:x∈Lib.compact a):x∈a:=by
 unfold Lib.compact Lib.compactUpTo at h;obtain⟨j,b,rfl⟩:=bt.1 h;have c:j<a.length:=bE.1 (gO.1 b).1;rw[gF _ j (by simpa using c)];simp
theorem CY{W:Ub}{B n m:Nat}{v:Uc}(h:mg B n m v W)(R:n<=100000):Calls prog 131 #[v] W fun e w'=>(∃A f c,e=.returned (T0 A f c)/\f<=n/\f<=c/\
   (0<f->∃b o,A=some ⟨b,o,none⟩/\b<w'.heap.size/\∀j,j<f->∃s:ByteArray,w'.cell? ⟨b,o+j,none⟩=some (.string s)/\s.size<=m))/\W.grownBy w' v.ownBlock:=by
 obtain⟨l,D,C,x⟩:=h;rw[JY]at x;have y:∀t∈l.map (·.data.toList),t.length<=m:=by
  intro t F;obtain⟨s,L,rfl⟩:=bt.1 F;have:=C s L;rw[dW];exact this
 have i:(l.map (·.data.toList)).length=n:=by simpa using D
 generalize l.map (·.data.toList)=a at*;clear D C;subst i;rcases x.2 with⟨rfl,G⟩|⟨g,cap,J,rfl,N,u,H,S,O,r⟩
 ·rw[G]at x⊢;refine(lJ none 0 W).mono ?_;rintro e w' ⟨rfl,rfl⟩;exact⟨⟨none,0,0,rfl,ae _,ae _,fun h=>absurd h (by omega)⟩,rfl,rfl,rfl,ae _,fun _ _ _=>rfl⟩
 rw[Mw]at r;have z:=Lib.compact_length_le a;refine(oE g 0 cap a W (holds_of_block u r) (by omega) H).mono ?_;rintro e w' ⟨rfl,q,rfl⟩;have d:W.grownBy (grow (putRow encStr (Sort.ahead W q) g 0 (Lib.compact a++List.replicate (a.length - (Lib.compact a).length) []).toArray) #[]) (some g):=grownBy_sorted _;rw[grow_empty]at d;have k:=(aL.1 u).1;have p:Holds encStr (Sort.ahead W q) g 0 a.toArray:=holds_of_block (w:=Sort.ahead W q) u r;refine⟨⟨_,_,cap,rfl,z,by omega,fun _=>⟨g,0,rfl,bn k d.size,fun j E=>?_⟩⟩,d⟩;have M:=cell?_putRow encStr (Sort.ahead W q) g 0 _ (Lib.compact a++List.replicate (a.length - (Lib.compact a).length) []).toArray p (by simp;omega) j (by simp;omega);refine⟨_,M,?_⟩;rw[gF _ j (by simp;omega)];simp only[List.getElem_toArray];rw[QS E];have:=y _ (wT a (bj E));show(Array.size _)<=m
 simpa using this
theorem PH(l:List Cd)(hl:l.length<=1000)(C:∀c∈l,fS c=true/\c.Ok)(A:Option Addr)(c:Nat)(w:Ub)(hr:bh w w.heap.size 4 A l.length (cR l))(ht:kC w):
  Calls prog 77 #[T0 A l.length c] w (gz 200000 w):=by
 unfold gz;obtain⟨i0,aE,ag,a1,ar⟩:=cZ uy;have z:=fun k (hk:k<l.length) W hW=>N9 (l.getD k default) (C _ (BS hk)).2 (C _ (BS hk)).1 W hW
 unfold gz at z;generalize hn:l.length=n at*;obtain⟨ad,HT⟩:=aA z ht;clear z ht;clear C;go_enter func77,ntmps77;go_wp2_with fail;go_loopw [3,8] (fun v i wr=>∃k,k<=n/\i=TY T6 k/\mg w.heap.size k 110 v wr/\Below w.heap.size w wr) (fun _ i _=>n - (intOf i).toNat)
 case atStart=>exact⟨0,by omega,rfl,⟨[],rfl,fun s hs=>by simp at hs,aX _ _ _ _⟩,aw _ _⟩
 case round=>
  obtain⟨k,hk,rfl,D,G⟩:=hrel;have X:=G.size;by_cases M:k<n
  ·obtain⟨b,bq,rfl,hb,h0,h1,h2,h3⟩:=(hr.below G).Ts M;have r:=ad.out k M;have bk:(k:Int)<(n:Int):=by omega
   have bs:b<wr.heap.size:=by omega
   generalize l.getD k default=ck at*;obtain⟨ca,co,cm,cv⟩:=ck;simp only at h0 h1 h2 h3;have r:∀W,kC W->Calls prog 128 #[T1 #[TY T6 ca,TY T6 co,TY T8 cm,TY T8 cv]] W fun e w'=>(∃s:ByteArray,e=.returned (.string s)/\s.size<=110)/\Below W.heap.size W w':=r
   obtain⟨ss,O,p,a⟩:=D;obtain⟨A1,c1,rfl,_⟩:=cX a;have H:=G.alloc (ax (ae _) X) (Ua #[TY T6 ca,TY T6 co,TY T8 cm,TY T8 cv] 162);have j:=a.alloc (Ua #[TY T6 ca,TY T6 co,TY T8 cm,TY T8 cv] 162);obtain⟨a2,q,ab,m⟩:=aB p H r j;clear p H r j;clear G a;go_wp2_with fail;refine(ab.out _ (HT.out.below q.out (ae _))).mono ?_;rintro e w6 ⟨⟨s6,rfl,L⟩,d⟩;have B:=pG m.out d;have bo:=d.size;have ai:=q.out.size;have t:=q.out.trans (d.mono ai);obtain⟨am,S⟩:=aA L t;clear L t;clear d m q;go_wp2_with (at_builtin;refine fo rfl (.tmp 12) (.tmp 15) 196 rfl w.heap.size 9 i0 _ 1 16 underlying196 aE ag a1 ar rfl (by omega) _ _ k _ rfl B _ 1 1 rfl _ rfl rfl (by simp[Value.oneCell']) (by simp only[maxLen];omega) (by omega) (by omega) ?_;intro v1 w7 F o bv);go_roundw;case rel=>
    refine⟨k+1,by omega,by go_num,⟨ss++[s6],by simp[O],fun s hs=>?_,by simpa using F⟩,S.out.trans o⟩;rcases bT.1 hs with h|h
    ·exact a2.out s h
    have:=bz.1 h;subst this;exact am.out
   case measure=>simp[intOf];omega
  obtain rfl:n=k:=by omega
  have Y:=LL D (by omega);obtain⟨ss,O,p,a⟩:=D;obtain⟨A1,c1,rfl,_⟩:=cX a;have y:∀g,Value.ownBlock (T0 A1 n c1)=some g->w.heap.size<=g:=fun g e=>(a.lt g e).1
  have x:=Lib.hid y;clear y;clear p a;go_wp2_with fail;refine Y.mono ?_;rintro e w6 ⟨rfl,u,V⟩;have d:=G.grown V X x.out;have J:=CY u (by omega);clear Y u V G;go_wp2_with fail;refine J.mono ?_;rintro e w7 ⟨⟨A2,n',c2,rfl,be,a3,f⟩,T⟩;have o:=d.grown T d.size x.out;have E:=zf 110 n' c2 A2 59 w7 (by omega) (by omega) a3 f;unfold gz at E;clear J f T d;go_wp2_with fail;refine E.mono ?_;rintro e w8 ⟨⟨s8,rfl,R⟩,Z⟩;have U:=o.trans (Z.mono o.size);have N:s8.size<=200000:=ax R (ax (Qa (show n'<=1000 by omega) (ae 111)) (by omega));clear E Z o R;go_wp2_with fail;go_ret;exact⟨⟨s8,rfl,N⟩,U⟩
end
section
open Go.RowKit
theorem wm(v m:Nat)(hv:v<18446744073709551616)(c:m<18446744073709551616):v&&&(18446744073709551615 - m)=0↔v|||m=m:=by
 have b:∀i,(18446744073709551615 - m).testBit i=(decide (i<64)&& !m.testBit i):=fun i=>by
  have:=Nat.testBit_two_pow_sub_succ (n:=64) (x:=m) c i;rwa [show 2 ^ 64 - (m+1)=18446744073709551615 - m by omega]at this
 constructor
 ·intro h;apply iy;intro i;rw[r9];have a:(v&&&(18446744073709551615 - m)).testBit i=false:=by rw[h];simp
  rw[mB,b]at a;by_cases d:i<64
  ·revert a
   simp only[d,decide_true,il];cases v.testBit i<;>cases m.testBit i<;>simp
  have:v.testBit i=false:=nT (bn hv (by rw[show(18446744073709551616:Nat)=2 ^ 64 by rfl];exact gk (by omega) (by omega)));rw[this];simp
 intro h;apply iy;intro i;rw[mB,b];have a:(v|||m).testBit i=m.testBit i:=by rw[h]
 rw[r9]at a;revert a;cases v.testBit i<;>cases m.testBit i<;>simp
def PB(c:Cd):Bool:=decide (c.op=7)&& !decide (c.val|||c.mask=c.mask)
theorem Ff(c:Cd)(p:c.Ok)(w:Ub):TV 76 #[T1 c.vals.toArray] w (T2 (PB c)):=by
 obtain⟨l,d,a,b⟩:=c;have o:=p.mask;have hv:=p.val;unfold eC at o hv;simp only at o hv;have n:=wm b a (by omega) (by omega);have m:=u64_andNot_nat b a (by omega) (by omega);show Calls prog _ #[T1 #[TY T6 l,TY T6 d,TY T8 a,TY T8 b]] w _
 have g:=(aw w.heap.size w).alloc (ae _) (Ua #[TY T6 l,TY T6 d,TY T8 a,TY T8 b] 162);rw[show PB ⟨l,d,a,b⟩=(decide (d=7)&& !decide (b|||a=a)) from rfl];have i:(((b&&&(18446744073709551615 - a):Nat):Int) != 0)= !decide (b|||a=a):=by
  rw[aZ];simp only[bne_iff_ne,ne_eq,fm,dh];rw[<-n];omega
 generalize decide (b|||a=a)=q at*;clear n;generalize b&&&(18446744073709551615 - a)=z at*;obtain⟨f,j⟩:=aA g i;clear g i;by_cases k:d=7
 ·subst k;go_enter func76,ntmps76;go_wp2_with fail;go_ret;exact⟨iL (by rw[<-j.out];simp),f.out⟩
 have r:(d==7)=false:=by simpa using k
 go_enter func76,ntmps76;go_wp2_with fail;go_ret;exact⟨iL (by simp[k]),f.out⟩
def JQ(P:Bool->Prop)(w:Ub)(e:Ending)(w':Ub):Prop:=(∃b:Bool,e=.returned (T2 b)/\P b)/\Below w.heap.size w w'
theorem CS{P:Bool->Prop}{b:Bool}{w w':Ub}(a:Below w.heap.size w w')(h:P b):JQ P w (.returned (T2 b)) w':=⟨⟨b,rfl,h⟩,a⟩
theorem Hz(cs:List Cd)(r:cs.length<=1000000)(j:∀c∈cs,c.Ok)(o:ByteArray)(kd q:Int)(d:Option Addr)(l B g:Nat)(w:Ub)(i:B<=w.heap.size)(b:bh w B 4 d cs.length (cR cs))(m:bK w g 80 #[.string o,TY T6 kd,TY T6 q,T0 d cs.length l]):
  Calls prog 74 #[TZ (some ⟨g,0,none⟩)] w (JQ (fun _=>True) w):=by
 have a:=si cs r PB 76 #[] (eU func76 (by kernel_rfl) rfl) d l B w i b (fun k p W _ _=>Ff _ (j _ (gu p)) W);have s:=m.cell 3;simp only[ao]at s;generalize cs.any PB=t at*;generalize cs.length=n at*;clear b m;go_enter func74,ntmps74;go_wp2_with fail;refine a.mono ?_;rintro e w5 ⟨rfl,f⟩;clear a;go_wp2_with fail;go_ret;exact CS f trivial
theorem H0(l:List Rw)(q:JR l)(A:Option Addr)(c B y:Nat)(j:ByteArray)(v1 v2 v3:Uc)(g:Nat)(w:Ub)(u:B<=w.heap.size)(D:jv w B A l)(v:w.cell? ⟨y,0,none⟩=some (T0 A l.length c))(z:bK w g 80 #[.string j,v1,v2,v3]):
  Calls prog 73 #[TZ (some ⟨y,0,none⟩),TZ (some ⟨g,0,none⟩)] w (JQ (fun b=>b=true->∃x∈l,x.name=j) w):=by
 have f:=te l q.five q.len q.rise j A c B w u D;unfold pA at f;have a:∀r i o,nI l j r i o->o=true->∃x∈l,x.name=j:=fun r i o h e=>by
  obtain⟨G,F,M⟩:=h.yes e;exact⟨_,gu G,by rw[<-F];exact M⟩
 have E:=z.cell 0;simp only[ao]at E;generalize l.length=n at*;have k:=Lib.hid a;clear a;clear D z q;go_enter func73,ntmps73;go_wp2_with fail;refine f.mono ?_;rintro e w5 ⟨⟨t,a0,a1,a2,a3,J,H,N,i,o,rfl,m⟩,d⟩;have C:=k.out _ i o m;have p:=d.alloc d.size (Ua #[.string t,TY T6 a0,TY T6 a1,TY T6 a2,TY T6 a3,TY T6 J,TY T6 H,TY T6 N] 82);obtain⟨L,s⟩:=aA C p;clear C p;clear m f d E v;go_wp2_with fail;go_ret;exact CS s.out L.out
def BI(a:List ByteArray):List (ByteArray×Uc):=a.map fun k=>(k,T2 true)
theorem H9(a:List ByteArray)(k:ByteArray):(GMap.look (BI a) k).getD (T2 false)=T2 (a.any fun x=>decide (x=k)):=by
 induction a with
 |nil=>rfl
 |cons x t ih=>
  unfold GMap.look BI at ih⊢;rw[aJ,cG,List.any_cons];by_cases h:x=k
  ·subst h;simp
  simp only[aK h];rw[ih];simp
theorem Lz(c:List ByteArray)(k:ByteArray):∃a,GMap.put (BI c) k (T2 true)=BI a:=by
 induction c with
 |nil=>exact⟨[k],rfl⟩
 |cons y t ih=>
  obtain⟨a,b⟩:=ih;unfold BI at b⊢;rw[aJ];unfold GMap.put;by_cases h:y=k
  ·subst h;rw[aj rfl];exact⟨y::t,rfl⟩
  rw[af h,b];exact⟨y::a,rfl⟩
abbrev y8(w:Ub)(g:Nat)(ks:List ByteArray):Prop:=GMap.Row w g Value.string (BI ks)
theorem vn:GMap.Keys prog 9 Value.string:=GMap.keys_str _ underlying9
theorem Ia(gm g go_ d:Nat)(e:List ByteArray)(c b:ByteArray)(r:c.size<=1000)(v1 v2 v3:Uc)(w:Ub)(i:y8 w d e)(o:w.cell? ⟨gm,0,none⟩=some (.map (some d)))(f:bK w g 80 #[.string c,v1,v2,v3])(p:w.cell? ⟨go_,0,none⟩=some (.string b)):
  Calls prog 78 #[TZ (some ⟨gm,0,none⟩),TZ (some ⟨g,0,none⟩),TZ (some ⟨go_,0,none⟩)] w (JQ (fun _=>True) w):=by
 have a:=fun k=>GMap.run_look i vn 182 4 underlying182 k (T2 false) (by kernel_rfl)
 have l:=a (c++⟨#[58]⟩);have j:=a b;rw[H9]at l j;have n:=f.cell 0;simp only[ao]at n;generalize (e.any fun x=>decide (x=c++⟨#[58]⟩))=b1 at*;generalize (e.any fun x=>decide (x=b))=q at*;have m:(c.size:Int)+1<=9223372036854775807:=by omega
 clear a i f;cases b1 with
 |true=>
  go_enter func78,ntmps78;go_wp2_with fail;go_ret;exact CS (aw _ _) trivial
 |false=>
  go_enter func78,ntmps78;go_wp2_with fail;go_ret;exact CS (aw _ _) trivial
def y6(a o:Int)(m v:Nat):Uc:=T1 #[TY T6 a,TY T6 o,TY T8 m,TY T8 v]
def QI:Nf->Uc
 | .asks c=>T4 #[y6 c.arg c.op c.mask c.val,TY T6 0]
 | .always=>T4 #[y6 0 0 0 0,TY T6 1]
 | .never=>T4 #[y6 0 0 0 0,TY T6 2]
def fJ(n:Nf)(w:Ub)(e:Ending)(w':Ub):Prop:=e=.returned (QI n)/\Below w.heap.size w w'
abbrev da:Array Uc:=#[TY T6 0,TY T6 0,TY T8 0,TY T8 0]
theorem dU{n:Nf}{v:Uc}{w w':Ub}(h:v=QI n)(a:Below w.heap.size w w'):fJ n w (.returned v) w':=⟨by rw[h],a⟩
theorem y7(b g:Int)(c f:Nat)(op:Int)(v:Nat)(w:Ub):Calls prog 346 #[y6 b g c f,TY T6 op,TY T8 v] w (fJ (.asks ⟨b,op,0,v⟩) w):=by
 unfold y6;have a:=((aw w.heap.size w).alloc (ae _) (Ua #[TY T6 b,TY T6 g,TY T8 c,TY T8 f] 162)).alloc (by simp) (Ua da 162);have b1:bK ((w.alloc (Ua #[TY T6 b,TY T6 g,TY T8 c,TY T8 f] 162)).alloc (Ua da 162)) (w.heap.size+1) 162 da:=dP w _ _ _;obtain⟨i,m⟩:=aA a b1;clear a b1;go_enter func346,ntmps346;go_wp2_with (refine aR rfl 162 (.tmp 6) (.tmp 12) rfl (w.heap.size+1) _ rfl rfl 162 _ m.out (by kernel_rfl) rfl (by simp[Value.oneCell']) ?_;intro n l d);have j:=i.out.grown d (by simp;omega) (fun k e=>by cases e;omega);exact aO (bH (p:=6) (q:=7) (ty:=162) rfl _ _ (w.heap.size+1) _ _ _ _ _ rfl rfl l underlying162 rfl (by kernel_rfl)) rfl (dU rfl j)
theorem td(b:Bool)(w:Ub):Calls prog 215 #[T2 b] w (fJ (if b=true then .always else .never) w):=by
 have d:=(aw w.heap.size w).alloc (ae _) (Ua da 162);have b1:bK (w.alloc (Ua da 162)) w.heap.size 162 da:=bK.new w _ _;obtain⟨f,i⟩:=aA d b1;clear d b1;cases b with
 |true=>
  go_enter func215,ntmps215;go_wp2_with (refine aR rfl 162 (.tmp 2) (.tmp 5) rfl w.heap.size _ rfl rfl 162 _ i.out (by kernel_rfl) rfl (by simp[Value.oneCell']) ?_;intro j g a);have c:=f.out.grown a (by simp) (fun k e=>by cases e;omega);exact aO (bH (p:=2) (q:=3) (ty:=162) rfl _ _ w.heap.size _ _ _ _ _ rfl rfl g underlying162 rfl (by kernel_rfl)) rfl (dU rfl c)
 |false=>
  go_enter func215,ntmps215;go_wp2_with (refine aR rfl 162 (.tmp 2) (.tmp 6) rfl w.heap.size _ rfl rfl 162 _ i.out (by kernel_rfl) rfl (by simp[Value.oneCell']) ?_;intro j g a);have c:=f.out.grown a (by simp) (fun k e=>by cases e;omega);exact aO (bH (p:=2) (q:=3) (ty:=162) rfl _ _ w.heap.size _ _ _ _ _ rfl rfl g underlying162 rfl (by kernel_rfl)) rfl (dU rfl c)
theorem BF(f n:Int)(j i:Nat)(v:Nat)(hv:v<=eC)(w:Ub):Calls prog 293 #[T1 #[TY T6 f,TY T6 n,TY T8 j,TY T8 i],TY T8 v] w (fJ (iJ ⟨f,n,j,i⟩ v) w):=by
 have t:=((aw w.heap.size w).alloc (ae _) (Ua #[TY T6 f,TY T6 n,TY T8 j,TY T8 i] 162)).alloc (by simp) (Ua da 162);have s:=(bK.new w 162 #[TY T6 f,TY T6 n,TY T8 j,TY T8 i]).alloc (Ua da 162);have b1:bK ((w.alloc (Ua #[TY T6 f,TY T6 n,TY T8 j,TY T8 i] 162)).alloc (Ua da 162)) (w.heap.size+1) 162 da:=dP w _ _ _;have z:((w.alloc (Ua #[TY T6 f,TY T6 n,TY T8 j,TY T8 i] 162)).alloc (Ua da 162)).heap.size=w.heap.size+2:=by simp
 have G:=s.cell 0;have H:=s.cell 1;have J:=s.cell 2;have L:=s.cell 3;simp only[ao]at G H J L;obtain⟨r,N,D,F⟩:=aB t s b1 z;clear t s b1 z;by_cases B:v=0
 ·subst B;clear hv;have c:∀W,TV 215 #[T2 false] W (T4 #[T1 #[TY T6 0,TY T6 0,TY T8 0,TY T8 0],TY T6 2]):=fun W=>td false W
  have l:=Lib.hid c;clear c;go_enter func293,ntmps293;go_wp2_with fail;refine(l.out _).mono ?_;rintro e w5 ⟨rfl,b⟩;have g:=D.out.below b (by first|(simp;done)|(simp;omega));have a:=r.out.trans (b.mono (by first|(simp;done)|(simp;omega)));have y:=g.lt;obtain⟨A,d⟩:=aA g a;clear g a;clear b;go_wp2_with (refine aR rfl 162 (.tmp 4) (.tmp 10) rfl (w.heap.size+1) _ rfl rfl 162 _ A.out (by kernel_rfl) rfl (by simp[Value.oneCell']) ?_;intro E u m);have o:=d.out.grown m (by omega) (fun k e=>by cases e;omega);exact aO (bH (p:=4) (q:=5) (ty:=162) rfl _ _ (w.heap.size+1) _ _ _ _ _ rfl rfl u underlying162 rfl (by kernel_rfl)) rfl (dU (by rfl) o)
 by_cases C:v=1
 ·subst C;clear hv B;have c:∀W,TV 346 #[T1 #[TY T6 f,TY T6 n,TY T8 j,TY T8 i],TY T6 1,TY T8 0] W (T4 #[T1 #[TY T6 f,TY T6 1,TY T8 0,TY T8 0],TY T6 0]):=fun W=>y7 f n j i 1 (0) W
  have l:=Lib.hid c;clear c;go_enter func293,ntmps293;go_wp2_with fail;refine(l.out _).mono ?_;rintro e w5 ⟨rfl,b⟩;have g:=D.out.below b (by first|(simp;done)|(simp;omega));have a:=r.out.trans (b.mono (by first|(simp;done)|(simp;omega)));have y:=g.lt;obtain⟨A,d⟩:=aA g a;clear g a;clear b;go_wp2_with (refine aR rfl 162 (.tmp 4) (.tmp 16) rfl (w.heap.size+1) _ rfl rfl 162 _ A.out (by kernel_rfl) rfl (by simp[Value.oneCell']) ?_;intro E u m);have o:=d.out.grown m (by omega) (fun k e=>by cases e;omega);exact aO (bH (p:=4) (q:=5) (ty:=162) rfl _ _ (w.heap.size+1) _ _ _ _ _ rfl rfl u underlying162 rfl (by kernel_rfl)) rfl (dU (by rfl) o)
 have M:((v:Int)==0)=false:=by simp;omega
 have O:((v:Int)==1)=false:=by simp;omega
 have x:iJ ⟨f,n,j,i⟩ v=.asks ⟨f,3,0,v⟩:=by unfold iJ;rw[af B,af C]
 rw[x];clear x hv B C;have c:∀W,TV 346 #[T1 #[TY T6 f,TY T6 n,TY T8 j,TY T8 i],TY T6 3,TY T8 ((v:Nat):Int)] W (T4 #[T1 #[TY T6 f,TY T6 3,TY T8 0,TY T8 ((v:Nat):Int)],TY T6 0]):=fun W=>y7 f n j i 3 (v) W
 have l:=Lib.hid c;clear c;go_enter func293,ntmps293;go_wp2_with fail;refine(l.out _).mono ?_;rintro e w5 ⟨rfl,b⟩;have g:=D.out.below b (by first|(simp;done)|(simp;omega));have a:=r.out.trans (b.mono (by first|(simp;done)|(simp;omega)));have y:=g.lt;obtain⟨A,d⟩:=aA g a;clear g a;clear b;go_wp2_with (refine aR rfl 162 (.tmp 4) (.tmp 21) rfl (w.heap.size+1) _ rfl rfl 162 _ A.out (by kernel_rfl) rfl (by simp[Value.oneCell']) ?_;intro E u m);have o:=d.out.grown m (by omega) (fun k e=>by cases e;omega);exact aO (bH (p:=4) (q:=5) (ty:=162) rfl _ _ (w.heap.size+1) _ _ _ _ _ rfl rfl u underlying162 rfl (by kernel_rfl)) rfl (dU (by rfl) o)
theorem Fe(f n:Int)(j i:Nat)(v:Nat)(hv:v<=eC)(w:Ub):Calls prog 295 #[T1 #[TY T6 f,TY T6 n,TY T8 j,TY T8 i],TY T8 v] w (fJ (j8 ⟨f,n,j,i⟩ v) w):=by
 have t:=((aw w.heap.size w).alloc (ae _) (Ua #[TY T6 f,TY T6 n,TY T8 j,TY T8 i] 162)).alloc (by simp) (Ua da 162);have s:=(bK.new w 162 #[TY T6 f,TY T6 n,TY T8 j,TY T8 i]).alloc (Ua da 162);have b1:bK ((w.alloc (Ua #[TY T6 f,TY T6 n,TY T8 j,TY T8 i] 162)).alloc (Ua da 162)) (w.heap.size+1) 162 da:=dP w _ _ _;have z:((w.alloc (Ua #[TY T6 f,TY T6 n,TY T8 j,TY T8 i] 162)).alloc (Ua da 162)).heap.size=w.heap.size+2:=by simp
 have G:=s.cell 0;have H:=s.cell 1;have J:=s.cell 2;have L:=s.cell 3;simp only[ao]at G H J L;obtain⟨r,N,D,F⟩:=aB t s b1 z;clear t s b1 z;by_cases B:v=0
 ·subst B;clear hv;have c:∀W,TV 215 #[T2 true] W (T4 #[T1 #[TY T6 0,TY T6 0,TY T8 0,TY T8 0],TY T6 1]):=fun W=>td true W
  have l:=Lib.hid c;clear c;go_enter func295,ntmps295;go_wp2_with fail;refine(l.out _).mono ?_;rintro e w5 ⟨rfl,b⟩;have g:=D.out.below b (by first|(simp;done)|(simp;omega));have a:=r.out.trans (b.mono (by first|(simp;done)|(simp;omega)));have y:=g.lt;obtain⟨A,d⟩:=aA g a;clear g a;clear b;go_wp2_with (refine aR rfl 162 (.tmp 4) (.tmp 10) rfl (w.heap.size+1) _ rfl rfl 162 _ A.out (by kernel_rfl) rfl (by simp[Value.oneCell']) ?_;intro E u m);have o:=d.out.grown m (by omega) (fun k e=>by cases e;omega);exact aO (bH (p:=4) (q:=5) (ty:=162) rfl _ _ (w.heap.size+1) _ _ _ _ _ rfl rfl u underlying162 rfl (by kernel_rfl)) rfl (dU (by rfl) o)
 by_cases C:v=18446744073709551615
 ·subst C;clear hv B;have c:∀W,TV 346 #[T1 #[TY T6 f,TY T6 n,TY T8 j,TY T8 i],TY T6 1,TY T8 18446744073709551615] W (T4 #[T1 #[TY T6 f,TY T6 1,TY T8 0,TY T8 18446744073709551615],TY T6 0]):=fun W=>y7 f n j i 1 (18446744073709551615) W
  have l:=Lib.hid c;clear c;go_enter func295,ntmps295;go_wp2_with fail;refine(l.out _).mono ?_;rintro e w5 ⟨rfl,b⟩;have g:=D.out.below b (by first|(simp;done)|(simp;omega));have a:=r.out.trans (b.mono (by first|(simp;done)|(simp;omega)));have y:=g.lt;obtain⟨A,d⟩:=aA g a;clear g a;clear b;go_wp2_with (refine aR rfl 162 (.tmp 4) (.tmp 17) rfl (w.heap.size+1) _ rfl rfl 162 _ A.out (by kernel_rfl) rfl (by simp[Value.oneCell']) ?_;intro E u m);have o:=d.out.grown m (by omega) (fun k e=>by cases e;omega);exact aO (bH (p:=4) (q:=5) (ty:=162) rfl _ _ (w.heap.size+1) _ _ _ _ _ rfl rfl u underlying162 rfl (by kernel_rfl)) rfl (dU (by rfl) o)
 have M:((v:Int)==0)=false:=by simp;omega
 have O:((v:Int)==18446744073709551615)=false:=by simp;omega
 have x:j8 ⟨f,n,j,i⟩ v=.asks ⟨f,6,0,v⟩:=by unfold j8;rw[af B,af (show¬v=eC from C)]
 rw[x];clear x hv B C;have c:∀W,TV 346 #[T1 #[TY T6 f,TY T6 n,TY T8 j,TY T8 i],TY T6 6,TY T8 ((v:Nat):Int)] W (T4 #[T1 #[TY T6 f,TY T6 6,TY T8 0,TY T8 ((v:Nat):Int)],TY T6 0]):=fun W=>y7 f n j i 6 (v) W
 have l:=Lib.hid c;clear c;go_enter func295,ntmps295;go_wp2_with fail;refine(l.out _).mono ?_;rintro e w5 ⟨rfl,b⟩;have g:=D.out.below b (by first|(simp;done)|(simp;omega));have a:=r.out.trans (b.mono (by first|(simp;done)|(simp;omega)));have y:=g.lt;obtain⟨A,d⟩:=aA g a;clear g a;clear b;go_wp2_with (refine aR rfl 162 (.tmp 4) (.tmp 22) rfl (w.heap.size+1) _ rfl rfl 162 _ A.out (by kernel_rfl) rfl (by simp[Value.oneCell']) ?_;intro E u m);have o:=d.out.grown m (by omega) (fun k e=>by cases e;omega);exact aO (bH (p:=4) (q:=5) (ty:=162) rfl _ _ (w.heap.size+1) _ _ _ _ _ rfl rfl u underlying162 rfl (by kernel_rfl)) rfl (dU (by rfl) o)
theorem N0(m r:Int)(a c:Nat)(H:a<=eC)(hv:c<=eC)(w:Ub):Calls prog 291 #[T1 #[TY T6 m,TY T6 r,TY T8 a,TY T8 c]] w (fJ (AX ⟨m,r,a,c⟩) w):=by
 have y:=((aw w.heap.size w).alloc (ae _) (Ua #[TY T6 m,TY T6 r,TY T8 a,TY T8 c] 162)).alloc (by simp) (Ua da 162);have x:=(bK.new w 162 #[TY T6 m,TY T6 r,TY T8 a,TY T8 c]).alloc (Ua da 162);have b1:bK ((w.alloc (Ua #[TY T6 m,TY T6 r,TY T8 a,TY T8 c] 162)).alloc (Ua da 162)) (w.heap.size+1) 162 da:=dP w _ _ _;have C:((w.alloc (Ua #[TY T6 m,TY T6 r,TY T8 a,TY T8 c] 162)).alloc (Ua da 162)).heap.size=w.heap.size+2:=by simp
 have O:=x.cell 0;have R:=x.cell 1;have S:=x.cell 2;have T:=x.cell 3;simp only[ao]at O R S T;obtain⟨s,V,G,M⟩:=aB y x b1 C;clear y x b1 C;have d:=u64_andNot_nat c a (by unfold eC at*;omega) (by unfold eC at*;omega);have F:=wm c a (by unfold eC at*;omega) (by unfold eC at*;omega);rw[show AX ⟨m,r,a,c⟩=(if c|||a≠a then .never else if a=0 then .always else if a=eC then .asks ⟨m,1,0,c⟩else .asks ⟨m,r,a,c⟩) from rfl];by_cases v:c|||a=a
 ·have A:=F.2 v;rw[A]at d;have d:bits .andNot T8 (c:Int) (a:Int)=0:=d;rw[af (by simpa using v)];clear F A v;by_cases E:a=0
  ·subst E;rw[aj rfl];have d:bits .andNot T8 (c:Int) 0=0:=d;clear H hv;have g:∀W,TV 215 #[T2 true] W (T4 #[T1 #[TY T6 0,TY T6 0,TY T8 0,TY T8 0],TY T6 1]):=fun W=>td true W
   have o:=Lib.hid g;clear g;go_enter func291,ntmps291;go_wp2_with fail;refine(o.out _).mono ?_;rintro e w5 ⟨rfl,f⟩;have n:=G.out.below f (by first|(simp;done)|(simp;omega));have b:=s.out.trans (f.mono (by first|(simp;done)|(simp;omega)));have B:=n.lt;obtain⟨D,i⟩:=aA n b;clear n b;clear f;go_wp2_with (refine aR rfl 162 (.tmp 2) (.tmp 19) rfl (w.heap.size+1) _ rfl rfl 162 _ D.out (by kernel_rfl) rfl (by simp[Value.oneCell']) ?_;intro J t j);have l:=i.out.grown j (by omega) (fun k e=>by cases e;omega);exact aO (bH (p:=2) (q:=3) (ty:=162) rfl _ _ (w.heap.size+1) _ _ _ _ _ rfl rfl t underlying162 rfl (by kernel_rfl)) rfl (dU (by rfl) l)
  rw[af E];by_cases u:a=eC
  ·have U:a=18446744073709551615:=u;rw[aj u];subst U;have d:bits .andNot T8 (c:Int) 18446744073709551615=0:=d;clear u E H hv;have g:∀W,TV 346 #[T1 #[TY T6 m,TY T6 r,TY T8 18446744073709551615,TY T8 c],TY T6 1,TY T8 ((c:Nat):Int)] W (T4 #[T1 #[TY T6 m,TY T6 1,TY T8 0,TY T8 ((c:Nat):Int)],TY T6 0]):=fun W=>y7 m r 18446744073709551615 c 1 c W
   have o:=Lib.hid g;clear g;go_enter func291,ntmps291;go_wp2_with fail;refine(o.out _).mono ?_;rintro e w5 ⟨rfl,f⟩;have n:=G.out.below f (by first|(simp;done)|(simp;omega));have b:=s.out.trans (f.mono (by first|(simp;done)|(simp;omega)));have B:=n.lt;obtain⟨D,i⟩:=aA n b;clear n b;clear f;go_wp2_with (refine aR rfl 162 (.tmp 2) (.tmp 29) rfl (w.heap.size+1) _ rfl rfl 162 _ D.out (by kernel_rfl) rfl (by simp[Value.oneCell']) ?_;intro J t j);have l:=i.out.grown j (by omega) (fun k e=>by cases e;omega);exact aO (bH (p:=2) (q:=3) (ty:=162) rfl _ _ (w.heap.size+1) _ _ _ _ _ rfl rfl t underlying162 rfl (by kernel_rfl)) rfl (dU (by rfl) l)
  rw[af u];have N:((a:Int)==0)=false:=by simp;omega
  have X:((a:Int)==18446744073709551615)=false:=by
   have:¬a=18446744073709551615:=u;simp;omega
  clear E u H hv;go_enter func291,ntmps291;go_wp2_with (refine aR rfl 162 (.tmp 2) (.tmp 31) rfl (w.heap.size+1) _ rfl rfl 162 _ G.out (by kernel_rfl) rfl (by simp[Value.oneCell']) ?_;intro J t j);have l:=s.out.grown j (by first|(simp;done)|(simp;omega)) (fun k e=>by cases e;omega);exact aO (bH (p:=2) (q:=3) (ty:=162) rfl _ _ (w.heap.size+1) _ _ _ _ _ rfl rfl t underlying162 rfl (by kernel_rfl)) rfl (dU (by rfl) l)
 rw[aj (by simpa using v)];have L:¬c&&&(18446744073709551615 - a)=0:=fun e=>v (F.1 e)
 generalize c&&&(18446744073709551615 - a)=z at*;have N:((z:Int) != 0)=true:=by simp;omega
 clear F v L H hv;have g:∀W,TV 215 #[T2 false] W (T4 #[T1 #[TY T6 0,TY T6 0,TY T8 0,TY T8 0],TY T6 2]):=fun W=>td false W
 have o:=Lib.hid g;clear g;go_enter func291,ntmps291;go_wp2_with fail;refine(o.out _).mono ?_;rintro e w5 ⟨rfl,f⟩;have n:=G.out.below f (by first|(simp;done)|(simp;omega));have b:=s.out.trans (f.mono (by first|(simp;done)|(simp;omega)));have B:=n.lt;obtain⟨D,i⟩:=aA n b;clear n b;clear f;go_wp2_with (refine aR rfl 162 (.tmp 2) (.tmp 12) rfl (w.heap.size+1) _ rfl rfl 162 _ D.out (by kernel_rfl) rfl (by simp[Value.oneCell']) ?_;intro J t j);have l:=i.out.grown j (by omega) (fun k e=>by cases e;omega);exact aO (bH (p:=2) (q:=3) (ty:=162) rfl _ _ (w.heap.size+1) _ _ _ _ _ rfl rfl t underlying162 rfl (by kernel_rfl)) rfl (dU (by rfl) l)
theorem BH(d f:Int)(b a:Nat)(w:Ub):Calls prog 290 #[T1 #[TY T6 d,TY T6 f,TY T8 b,TY T8 a]] w (fJ ((.asks ⟨d,f,b,a⟩)) w):=by
 have g:=((aw w.heap.size w).alloc (ae _) (Ua #[TY T6 d,TY T6 f,TY T8 b,TY T8 a] 162)).alloc (by simp) (Ua da 162);have c:=(bK.new w 162 #[TY T6 d,TY T6 f,TY T8 b,TY T8 a]).alloc (Ua da 162);have b1:bK ((w.alloc (Ua #[TY T6 d,TY T6 f,TY T8 b,TY T8 a] 162)).alloc (Ua da 162)) (w.heap.size+1) 162 da:=dP w _ _ _;have i:((w.alloc (Ua #[TY T6 d,TY T6 f,TY T8 b,TY T8 a] 162)).alloc (Ua da 162)).heap.size=w.heap.size+2:=by simp
 have r:=c.cell 0;have s:=c.cell 1;have t:=c.cell 2;have u:=c.cell 3;simp only[ao]at r s t u;obtain⟨l,y,v,o⟩:=aB g c b1 i;clear g c b1 i;go_enter func290,ntmps290;go_wp2_with (refine aR rfl 162 (.tmp 2) (.tmp 4) rfl (w.heap.size+1) _ rfl rfl 162 _ v.out (by kernel_rfl) rfl (by simp[Value.oneCell']) ?_;intro x n j);have m:=l.out.grown j (by first|(simp;done)|(simp;omega)) (fun k e=>by cases e;omega);exact aO (bH (p:=2) (q:=3) (ty:=162) rfl _ _ (w.heap.size+1) _ _ _ _ _ rfl rfl n underlying162 rfl (by kernel_rfl)) rfl (dU (by rfl) m)
theorem Lv(c d:Int)(b a:Nat)(hv:a<=eC)(w:Ub):Calls prog 292 #[T1 #[TY T6 c,TY T6 d,TY T8 b,TY T8 a]] w (fJ (iJ ⟨c,d,b,a⟩ a) w):=by
 have m:=((aw w.heap.size w).alloc (ae _) (Ua #[TY T6 c,TY T6 d,TY T8 b,TY T8 a] 162)).alloc (by simp) (Ua da 162);have l:=(bK.new w 162 #[TY T6 c,TY T6 d,TY T8 b,TY T8 a]).alloc (Ua da 162);have b1:bK ((w.alloc (Ua #[TY T6 c,TY T6 d,TY T8 b,TY T8 a] 162)).alloc (Ua da 162)) (w.heap.size+1) 162 da:=dP w _ _ _;have n:((w.alloc (Ua #[TY T6 c,TY T6 d,TY T8 b,TY T8 a] 162)).alloc (Ua da 162)).heap.size=w.heap.size+2:=by simp
 have G:=l.cell 0;have J:=l.cell 1;have M:=l.cell 2;have O:=l.cell 3;simp only[ao]at G J M O;obtain⟨y,X,R,F⟩:=aB m l b1 n;clear m l b1 n;have g:∀W,Calls prog 293 #[T1 #[TY T6 c,TY T6 d,TY T8 b,TY T8 a],TY T8 a] W (fJ (iJ ⟨c,d,b,a⟩ a) W):=fun W=>BF c d b a a hv W
 unfold fJ at g;have f:∃r A z u C:Uc,QI (iJ ⟨c,d,b,a⟩ a)=T4 #[T1 #[r,A,z,u],C]/\r.oneCell'=true/\A.oneCell'=true/\z.oneCell'=true/\u.oneCell'=true:=by
  cases (iJ ⟨c,d,b,a⟩ a)<;>exact⟨_,_,_,_,_,rfl,rfl,rfl,rfl,rfl⟩
 obtain⟨r,A,z,u,C,f,S,L,H,N⟩:=f;rw[f]at g;generalize (iJ ⟨c,d,b,a⟩ a)=V at*;obtain⟨v,s⟩:=aA g f;clear g f;go_enter func292,ntmps292;go_wp2_with fail;refine(v.out _).mono ?_;rintro e w5 ⟨rfl,j⟩;have t:=R.out.below j (by first|(simp;done)|(simp;omega));have i:=y.out.trans (j.mono (by first|(simp;done)|(simp;omega)));have E:=t.lt;obtain⟨T,o⟩:=aA t i;clear t i;clear j;go_wp2_with (refine aR rfl 162 (.tmp 2) (.tmp 8) rfl (w.heap.size+1) _ rfl rfl 162 _ T.out (by kernel_rfl) rfl (by simp[S,L,H,N]) ?_;intro U D x);have B:=o.out.grown x (by omega) (fun k e=>by cases e;omega);exact aO (bH (p:=2) (q:=3) (ty:=162) rfl _ _ (w.heap.size+1) _ _ _ _ _ rfl rfl D underlying162 rfl (by kernel_rfl)) rfl (dU s.out.symm B)
theorem Lw(c d:Int)(b a:Nat)(hv:a<=eC)(w:Ub):Calls prog 294 #[T1 #[TY T6 c,TY T6 d,TY T8 b,TY T8 a]] w (fJ (j8 ⟨c,d,b,a⟩ a) w):=by
 have m:=((aw w.heap.size w).alloc (ae _) (Ua #[TY T6 c,TY T6 d,TY T8 b,TY T8 a] 162)).alloc (by simp) (Ua da 162);have l:=(bK.new w 162 #[TY T6 c,TY T6 d,TY T8 b,TY T8 a]).alloc (Ua da 162);have b1:bK ((w.alloc (Ua #[TY T6 c,TY T6 d,TY T8 b,TY T8 a] 162)).alloc (Ua da 162)) (w.heap.size+1) 162 da:=dP w _ _ _;have n:((w.alloc (Ua #[TY T6 c,TY T6 d,TY T8 b,TY T8 a] 162)).alloc (Ua da 162)).heap.size=w.heap.size+2:=by simp
 have G:=l.cell 0;have J:=l.cell 1;have M:=l.cell 2;have O:=l.cell 3;simp only[ao]at G J M O;obtain⟨y,X,R,F⟩:=aB m l b1 n;clear m l b1 n;have g:∀W,Calls prog 295 #[T1 #[TY T6 c,TY T6 d,TY T8 b,TY T8 a],TY T8 a] W (fJ (j8 ⟨c,d,b,a⟩ a) W):=fun W=>Fe c d b a a hv W
 unfold fJ at g;have f:∃r A z u C:Uc,QI (j8 ⟨c,d,b,a⟩ a)=T4 #[T1 #[r,A,z,u],C]/\r.oneCell'=true/\A.oneCell'=true/\z.oneCell'=true/\u.oneCell'=true:=by
  cases (j8 ⟨c,d,b,a⟩ a)<;>exact⟨_,_,_,_,_,rfl,rfl,rfl,rfl,rfl⟩
 obtain⟨r,A,z,u,C,f,S,L,H,N⟩:=f;rw[f]at g;generalize (j8 ⟨c,d,b,a⟩ a)=V at*;obtain⟨v,s⟩:=aA g f;clear g f;go_enter func294,ntmps294;go_wp2_with fail;refine(v.out _).mono ?_;rintro e w5 ⟨rfl,j⟩;have t:=R.out.below j (by first|(simp;done)|(simp;omega));have i:=y.out.trans (j.mono (by first|(simp;done)|(simp;omega)));have E:=t.lt;obtain⟨T,o⟩:=aA t i;clear t i;clear j;go_wp2_with (refine aR rfl 162 (.tmp 2) (.tmp 8) rfl (w.heap.size+1) _ rfl rfl 162 _ T.out (by kernel_rfl) rfl (by simp[S,L,H,N]) ?_;intro U D x);have B:=o.out.grown x (by omega) (fun k e=>by cases e;omega);exact aO (bH (p:=2) (q:=3) (ty:=162) rfl _ _ (w.heap.size+1) _ _ _ _ _ rfl rfl D underlying162 rfl (by kernel_rfl)) rfl (dU s.out.symm B)
theorem Lx(g i:Int)(f a:Nat)(hv:a<=eC)(w:Ub):Calls prog 296 #[T1 #[TY T6 g,TY T6 i,TY T8 f,TY T8 a]] w (fJ (if a=eC then .always else iJ ⟨g,i,f,a⟩ (a+1)) w):=by
 have v:=((aw w.heap.size w).alloc (ae _) (Ua #[TY T6 g,TY T6 i,TY T8 f,TY T8 a] 162)).alloc (by simp) (Ua da 162);have t:=(bK.new w 162 #[TY T6 g,TY T6 i,TY T8 f,TY T8 a]).alloc (Ua da 162);have b1:bK ((w.alloc (Ua #[TY T6 g,TY T6 i,TY T8 f,TY T8 a] 162)).alloc (Ua da 162)) (w.heap.size+1) 162 da:=dP w _ _ _;have x:((w.alloc (Ua #[TY T6 g,TY T6 i,TY T8 f,TY T8 a] 162)).alloc (Ua da 162)).heap.size=w.heap.size+2:=by simp
 have O:=t.cell 0;have S:=t.cell 1;have T:=t.cell 2;have X:=t.cell 3;simp only[ao]at O S T X;obtain⟨y,B0,L,N⟩:=aB v t b1 x;clear v t b1 x;by_cases s:a=eC
 ·rw[aj s];have H:a=18446744073709551615:=s;subst H;clear s hv;have c:∀W,TV 215 #[T2 true] W (T4 #[T1 #[TY T6 0,TY T6 0,TY T8 0,TY T8 0],TY T6 1]):=fun W=>td true W
  have n:=Lib.hid c;clear c;go_enter func296,ntmps296;go_wp2_with fail;refine(n.out _).mono ?_;rintro e w5 ⟨rfl,d⟩;have m:=L.out.below d (by first|(simp;done)|(simp;omega));have b:=y.out.trans (d.mono (by first|(simp;done)|(simp;omega)));have D:=m.lt;obtain⟨F,l⟩:=aA m b;clear m b;clear d;go_wp2_with (refine aR rfl 162 (.tmp 2) (.tmp 8) rfl (w.heap.size+1) _ rfl rfl 162 _ F.out (by kernel_rfl) rfl (by simp[Value.oneCell']) ?_;intro M B o);have r:=l.out.grown o (by omega) (fun k e=>by cases e;omega);exact aO (bH (p:=2) (q:=3) (ty:=162) rfl _ _ (w.heap.size+1) _ _ _ _ _ rfl rfl B underlying162 rfl (by kernel_rfl)) rfl (dU (by rfl) r)
 rw[af s];have u:a+1<=eC:=by unfold eC at*;omega
 have Z:((a:Int)==18446744073709551615)=false:=by
  have:¬a=18446744073709551615:=s;simp;omega
 have hw:IntKind.u64.wrap ((a:Int)+1)=(a:Int)+1:=by
  unfold eC at u;rw[IntKind.wrap_u64];omega
 clear s hv;have c:∀W,Calls prog 293 #[T1 #[TY T6 g,TY T6 i,TY T8 f,TY T8 a],TY T8 ((a:Int)+1)] W (fJ (iJ ⟨g,i,f,a⟩ (a+1)) W):=fun W=>BF g i f a (a+1) u W
 unfold fJ at c;have j:∃z G E C J:Uc,QI (iJ ⟨g,i,f,a⟩ (a+1))=T4 #[T1 #[z,G,E,C],J]/\z.oneCell'=true/\G.oneCell'=true/\E.oneCell'=true/\C.oneCell'=true:=by
  cases (iJ ⟨g,i,f,a⟩ (a+1))<;>exact⟨_,_,_,_,_,rfl,rfl,rfl,rfl,rfl⟩
 obtain⟨z,G,E,C,J,j,Y,U,R,V⟩:=j;rw[j]at c;generalize (iJ ⟨g,i,f,a⟩ (a+1))=nq at*;obtain⟨n,A⟩:=aA c j;clear c j;go_enter func296,ntmps296;go_wp2_with fail;refine(n.out _).mono ?_;rintro e w5 ⟨rfl,d⟩;have m:=L.out.below d (by first|(simp;done)|(simp;omega));have b:=y.out.trans (d.mono (by first|(simp;done)|(simp;omega)));have D:=m.lt;obtain⟨F,l⟩:=aA m b;clear m b;clear d;go_wp2_with (refine aR rfl 162 (.tmp 2) (.tmp 15) rfl (w.heap.size+1) _ rfl rfl 162 _ F.out (by kernel_rfl) rfl (by simp[Y,U,R,V]) ?_;intro M B o);have r:=l.out.grown o (by omega) (fun k e=>by cases e;omega);exact aO (bH (p:=2) (q:=3) (ty:=162) rfl _ _ (w.heap.size+1) _ _ _ _ _ rfl rfl B underlying162 rfl (by kernel_rfl)) rfl (dU A.out.symm r)
theorem Ly(g i:Int)(f a:Nat)(hv:a<=eC)(w:Ub):Calls prog 297 #[T1 #[TY T6 g,TY T6 i,TY T8 f,TY T8 a]] w (fJ (if a=eC then .never else j8 ⟨g,i,f,a⟩ (a+1)) w):=by
 have v:=((aw w.heap.size w).alloc (ae _) (Ua #[TY T6 g,TY T6 i,TY T8 f,TY T8 a] 162)).alloc (by simp) (Ua da 162);have t:=(bK.new w 162 #[TY T6 g,TY T6 i,TY T8 f,TY T8 a]).alloc (Ua da 162);have b1:bK ((w.alloc (Ua #[TY T6 g,TY T6 i,TY T8 f,TY T8 a] 162)).alloc (Ua da 162)) (w.heap.size+1) 162 da:=dP w _ _ _;have x:((w.alloc (Ua #[TY T6 g,TY T6 i,TY T8 f,TY T8 a] 162)).alloc (Ua da 162)).heap.size=w.heap.size+2:=by simp
 have O:=t.cell 0;have S:=t.cell 1;have T:=t.cell 2;have X:=t.cell 3;simp only[ao]at O S T X;obtain⟨y,B0,L,N⟩:=aB v t b1 x;clear v t b1 x;by_cases s:a=eC
 ·rw[aj s];have H:a=18446744073709551615:=s;subst H;clear s hv;have c:∀W,TV 215 #[T2 false] W (T4 #[T1 #[TY T6 0,TY T6 0,TY T8 0,TY T8 0],TY T6 2]):=fun W=>td false W
  have n:=Lib.hid c;clear c;go_enter func297,ntmps297;go_wp2_with fail;refine(n.out _).mono ?_;rintro e w5 ⟨rfl,d⟩;have m:=L.out.below d (by first|(simp;done)|(simp;omega));have b:=y.out.trans (d.mono (by first|(simp;done)|(simp;omega)));have D:=m.lt;obtain⟨F,l⟩:=aA m b;clear m b;clear d;go_wp2_with (refine aR rfl 162 (.tmp 2) (.tmp 8) rfl (w.heap.size+1) _ rfl rfl 162 _ F.out (by kernel_rfl) rfl (by simp[Value.oneCell']) ?_;intro M B o);have r:=l.out.grown o (by omega) (fun k e=>by cases e;omega);exact aO (bH (p:=2) (q:=3) (ty:=162) rfl _ _ (w.heap.size+1) _ _ _ _ _ rfl rfl B underlying162 rfl (by kernel_rfl)) rfl (dU (by rfl) r)
 rw[af s];have u:a+1<=eC:=by unfold eC at*;omega
 have Z:((a:Int)==18446744073709551615)=false:=by
  have:¬a=18446744073709551615:=s;simp;omega
 have hw:IntKind.u64.wrap ((a:Int)+1)=(a:Int)+1:=by
  unfold eC at u;rw[IntKind.wrap_u64];omega
 clear s hv;have c:∀W,Calls prog 295 #[T1 #[TY T6 g,TY T6 i,TY T8 f,TY T8 a],TY T8 ((a:Int)+1)] W (fJ (j8 ⟨g,i,f,a⟩ (a+1)) W):=fun W=>Fe g i f a (a+1) u W
 unfold fJ at c;have j:∃z G E C J:Uc,QI (j8 ⟨g,i,f,a⟩ (a+1))=T4 #[T1 #[z,G,E,C],J]/\z.oneCell'=true/\G.oneCell'=true/\E.oneCell'=true/\C.oneCell'=true:=by
  cases (j8 ⟨g,i,f,a⟩ (a+1))<;>exact⟨_,_,_,_,_,rfl,rfl,rfl,rfl,rfl⟩
 obtain⟨z,G,E,C,J,j,Y,U,R,V⟩:=j;rw[j]at c;generalize (j8 ⟨g,i,f,a⟩ (a+1))=nq at*;obtain⟨n,A⟩:=aA c j;clear c j;go_enter func297,ntmps297;go_wp2_with fail;refine(n.out _).mono ?_;rintro e w5 ⟨rfl,d⟩;have m:=L.out.below d (by first|(simp;done)|(simp;omega));have b:=y.out.trans (d.mono (by first|(simp;done)|(simp;omega)));have D:=m.lt;obtain⟨F,l⟩:=aA m b;clear m b;clear d;go_wp2_with (refine aR rfl 162 (.tmp 2) (.tmp 15) rfl (w.heap.size+1) _ rfl rfl 162 _ F.out (by kernel_rfl) rfl (by simp[Y,U,R,V]) ?_;intro M B o);have r:=l.out.grown o (by omega) (fun k e=>by cases e;omega);exact aO (bH (p:=2) (q:=3) (ty:=162) rfl _ _ (w.heap.size+1) _ _ _ _ _ rfl rfl B underlying162 rfl (by kernel_rfl)) rfl (dU A.out.symm r)
def Qi(f:Nat):Uc:=.func (.func f) #[] #[]
def CR:List (Int×Uc):=[(1,Qi 290),(2,Qi 290),(7,Qi 291),(3,Qi 292),(6,Qi 294),(4,Qi 296),(5,Qi 297)]
theorem Lt(w:Ub):Calls prog 216 #[] w fun e w'=>e=.returned (.map (some w.heap.size))/\w'=w.alloc (.map (IntMaps.lit T6 CR) CR.length):=by
 go_enter func216,ntmps216;go_wp2_with (first|refine IntMaps.wpList_make rfl 330 rfl T6 w ?_|refine nz rfl 330 (.tmp 2) _ T6 _ _ rfl _ _ underlying330 underlying3 w _ rfl rfl rfl rfl ?_);go_ret;exact⟨rfl,rfl⟩
theorem NZ{P:Program}{b:Array Oper}{Q:Exit->Act->Ub->Prop}{S:Tmp->Kd}{a0:Act}{w0:Ub}{o:Oper}(d t:Tmp)(f:FuncId)(vs:Array Uc)(p:Any.Runs b S o){xs:Array Operand}{u:Array TypeId}(q:o.op=.call {callee:=.value (.tmp t),args:=xs,argTypes:=u})(k:o.dst=some d)
  (m:(Any.deps b o).contains t=true)(g:S t=.eq (.func (.func f) #[] #[]))(j:∀(args:Array Uc) (W:Ub),(callFunc f args).run P W=.ok (.enter f args) W)
  (i:∀(a:Act) (w:Ub),Any.Ctx b S a0 w0 o a w->xs.map a.eval=vs)(x:∀w,aS w0 w->Calls P f vs w fun e w'=>∃v,e=.returned v/\(S d).sat v w'/\aS w w'):Any.St P b Q S a0 w0 o:=
 Any.st_run p fun a w h=>by
  have e1:a.eval (.tmp t)=.func (.func f) #[] #[]:=h.eqv t m g;have r:(execOp a.eval o).run P w=.ok (.enter f vs) w:=by
   have e2:a.tmps[t]?.getD undef=.func (.func f) #[] #[]:=by
    have s:a.tmps.getD t undef=.func (.func f) #[] #[]:=e1;simpa using s
   unfold execOp;simp only[q];simp[go_sem,e2,j,i a w h]
  unfold Oper.wp;rw[r];refine(x w h.grows).mono ?_;rintro e w' ⟨v,rfl,n,l⟩;exact⟨v,rfl,fun y c=>by rw[k]at c;cases c;exact n,l⟩
def PA(v:Uc)(w:Ub):Prop:=∃g,v=.map (some g)/\ep w g CR
def Kd.Tn:Kd:=⟨PA,fun _ _ _ c ⟨g,b,a⟩=>⟨g,b,a.below c a.lt⟩⟩
def y5(o:Int):Nat:=if o=1\/o=2 then 290 else if o=3 then 292 else if o=4 then 296 else if o=5 then 297 else if o=6 then 294 else 291
theorem Hx(o:Int)(c:1<=o)(b:o<=7):(IntMaps.look CR o).getD .nilFunc=Qi (y5 o):=by
 have a:o=1\/o=2\/o=3\/o=4\/o=5\/o=6\/o=7:=by omega
 rcases a with rfl|rfl|rfl|rfl|rfl|rfl|rfl<;>rfl
theorem Hy(o:Int)(c:1<=o)(b:o<=7)(args:Array Uc)(W:Ub):(callFunc (y5 o) args).run prog W=.ok (.enter (y5 o) args) W:=by
 have a:o=1\/o=2\/o=3\/o=4\/o=5\/o=6\/o=7:=by omega
 rcases a with rfl|rfl|rfl|rfl|rfl|rfl|rfl
 ·exact eU (f:=290) func290 (by kernel_rfl) rfl args W
 ·exact eU (f:=290) func290 (by kernel_rfl) rfl args W
 ·exact eU (f:=292) func292 (by kernel_rfl) rfl args W
 ·exact eU (f:=296) func296 (by kernel_rfl) rfl args W
 ·exact eU (f:=297) func297 (by kernel_rfl) rfl args W
 ·exact eU (f:=294) func294 (by kernel_rfl) rfl args W
 exact eU (f:=291) func291 (by kernel_rfl) rfl args W
theorem Lu(d a:Int)(c b:Nat)(f:c<=eC)(hv:b<=eC)(k:1<=a)(j:a<=7)(i:fS ⟨d,a,c,b⟩=true)(w:Ub):Calls prog (y5 a) #[y6 d a c b] w (fJ (gd ⟨d,a,c,b⟩) w):=by
 have e:gd ⟨d,a,c,b⟩=if a=1\/a=2 then .asks ⟨d,a,c,b⟩
  else if a=3 then iJ ⟨d,a,c,b⟩ b
  else if a=4 then(if b=eC then .always else iJ ⟨d,a,c,b⟩ (b+1))
  else if a=5 then(if b=eC then .never else j8 ⟨d,a,c,b⟩ (b+1))
  else if a=6 then j8 ⟨d,a,c,b⟩ b
  else AX ⟨d,a,c,b⟩:=by
  unfold gd;rw[i];rfl
 rw[e];have g:a=1\/a=2\/a=3\/a=4\/a=5\/a=6\/a=7:=by omega
 rcases g with rfl|rfl|rfl|rfl|rfl|rfl|rfl
 ·exact BH d 1 c b w
 ·exact BH d 2 c b w
 ·exact Lv d 3 c b hv w
 ·exact Lx d 4 c b hv w
 ·exact Ly d 5 c b hv w
 ·exact Lw d 6 c b hv w
 exact N0 d 7 c b f hv w
theorem II(m d:Int)(c f:Nat)(r:c<=eC)(hv:f<=eC)(w:Ub):Calls prog 141 #[T1 #[TY T6 m,TY T6 d,TY T8 c,TY T8 f]] w (fJ (gq ⟨m,d,c,f⟩) w):=by
 have b:=((aw w.heap.size w).alloc (ae _) (Ua #[TY T6 m,TY T6 d,TY T8 c,TY T8 f] 162)).alloc (by simp) (Ua da 162);have g:=(bK.new w 162 #[TY T6 m,TY T6 d,TY T8 c,TY T8 f]).alloc (Ua da 162);have b1:bK ((w.alloc (Ua #[TY T6 m,TY T6 d,TY T8 c,TY T8 f] 162)).alloc (Ua da 162)) (w.heap.size+1) 162 da:=dP w _ _ _;have u:((w.alloc (Ua #[TY T6 m,TY T6 d,TY T8 c,TY T8 f] 162)).alloc (Ua da 162)).heap.size=w.heap.size+2:=by simp
 have G:=g.cell 0;have H:=g.cell 1;have J:=g.cell 2;have L:=g.cell 3;have S:=g.frozen 2;simp only[ao]at G H J L;have a:=bits_and_u64_nat c 4294967295 (by unfold eC at*;omega) (by omega);rw[show c&&&4294967295=c % 4294967296 from Ml c 32]at a;have a:bits .and T8 (c:Int) 4294967295=((c % 4294967296:Nat):Int):=a;have y:c % 4294967296<4294967296:=by omega
 rw[show gq ⟨m,d,c,f⟩=(if 4294967295<f/\(d=2\/d=3)then .always else if 4294967295<f then .never else if d≠7 then .asks ⟨m,d,c,f⟩else if c % 4294967296=0 then .always else .asks ⟨m,d,c % 4294967296,f⟩) from rfl];have D:f<=18446744073709551615:=hv;have E:=Lib.hid u;clear u;by_cases s:4294967295<f
 ·have v:(4294967295:Int)<(f:Nat):=by omega
  by_cases x:d=2
  ·subst x;rw[aj ⟨s,.inl rfl⟩];clear a y;obtain⟨j,C,o⟩:=aC b g b1;clear b g b1;clear r hv;go_enter func141,ntmps141;go_wp2_with (refine aR rfl 162 (.tmp 2) (.tmp 18) rfl (w.heap.size+1) _ rfl rfl 162 _ o.out (by kernel_rfl) rfl (by simp[Value.oneCell']) ?_;intro B n i);have l:=j.out.grown i (by first|(simp;done)|(simp;omega)) (fun k e=>by cases e;omega);exact aO (bH (p:=2) (q:=3) (ty:=162) rfl _ _ (w.heap.size+1) _ _ _ _ _ rfl rfl n underlying162 rfl (by kernel_rfl)) rfl (dU (by rfl) l)
  have N:(d==2)=false:=by simpa using x
  by_cases A:d=3
  ·subst A;rw[aj ⟨s,.inr rfl⟩];clear a y;obtain⟨j,C,o⟩:=aC b g b1;clear b g b1;clear r hv;go_enter func141,ntmps141;go_wp2_with (refine aR rfl 162 (.tmp 2) (.tmp 18) rfl (w.heap.size+1) _ rfl rfl 162 _ o.out (by kernel_rfl) rfl (by simp[Value.oneCell']) ?_;intro B n i);have l:=j.out.grown i (by first|(simp;done)|(simp;omega)) (fun k e=>by cases e;omega);exact aO (bH (p:=2) (q:=3) (ty:=162) rfl _ _ (w.heap.size+1) _ _ _ _ _ rfl rfl n underlying162 rfl (by kernel_rfl)) rfl (dU (by rfl) l)
  have T:(d==3)=false:=by simpa using A
  rw[af (fun h=>h.2.elim x A),aj s];clear a y x A;obtain⟨j,C,o⟩:=aC b g b1;clear b g b1;clear r hv;go_enter func141,ntmps141;go_wp2_with (refine aR rfl 162 (.tmp 2) (.tmp 23) rfl (w.heap.size+1) _ rfl rfl 162 _ o.out (by kernel_rfl) rfl (by simp[Value.oneCell']) ?_;intro B n i);have l:=j.out.grown i (by first|(simp;done)|(simp;omega)) (fun k e=>by cases e;omega);exact aO (bH (p:=2) (q:=3) (ty:=162) rfl _ _ (w.heap.size+1) _ _ _ _ _ rfl rfl n underlying162 rfl (by kernel_rfl)) rfl (dU (by rfl) l)
 have v:¬(4294967295:Int)<(f:Nat):=by omega
 have O:decide ((4294967295:Int)<(f:Nat))=false:=aK v;rw[af (fun h=>s h.1),af s];by_cases z:d=7
 ·subst z;rw[af (by simp)];generalize c % 4294967296=M at*;by_cases t:M=0
  ·rw[aj t];have F:((M:Int)==0)=true:=by simp[t]
   clear t;clear r hv b1 b g;go_enter func141,ntmps141;go_wp2_with fail;exact aO (bH (p:=2) (q:=3) (ty:=162) rfl _ _ (w.heap.size+1) _ _ _ _ _ rfl rfl (dP w _ _ _) underlying162 rfl (by kernel_rfl)) rfl (dU (by rfl) (((aw _ w).alloc (ae _) _).alloc (by simp) _))
  rw[af t];have F:((M:Int)==0)=false:=by simp;omega
  clear t;clear r hv b1 b g;go_enter func141,ntmps141;go_wp2_with fail;exact aO (bH (p:=2) (q:=3) (ty:=162) rfl _ _ (w.heap.size+1) _ _ _ _ _ rfl rfl (dP w _ _ _) underlying162 rfl (by kernel_rfl)) rfl (dU (by rfl) (((aw _ w).alloc (ae _) _).alloc (by simp) _))
 rw[aj z];have R:(d != 7)=true:=by simpa using z
 clear z a y;obtain⟨j,C,o⟩:=aC b g b1;clear b g b1;clear r hv;go_enter func141,ntmps141;go_wp2_with (refine aR rfl 162 (.tmp 2) (.tmp 28) rfl (w.heap.size+1) _ rfl rfl 162 _ o.out (by kernel_rfl) rfl (by simp[Value.oneCell']) ?_;intro B n i);have l:=j.out.grown i (by first|(simp;done)|(simp;omega)) (fun k e=>by cases e;omega);exact aO (bH (p:=2) (q:=3) (ty:=162) rfl _ _ (w.heap.size+1) _ _ _ _ _ rfl rfl n underlying162 rfl (by kernel_rfl)) rfl (dU (by rfl) l)
theorem FD(c:Cd)(a:c.Ok)(w:Ub):Calls prog 141 #[T1 c.vals.toArray] w (fJ (gq c) w):=by
 obtain⟨e,d,b,f⟩:=c;exact II e d b f a.mask a.val w
end
end Go.Proofs.YtfammloeljmplaaGreatDoor
