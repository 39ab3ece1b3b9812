/- Contracts of abi and of the runs; conditions: each lemma's own. -/
import Derived.Laws.EntriesVeiled
import Derived.Test.YtfammloeljmplaaGreatDoorZ12
import Derived.Test.YtfammloeljmplaaGreatDoorZ24
import Derived.Test.YtfammloeljmplaaGreatDoorZ40
open Go.Value renaming int->TY,pointer->TZ,slice->T0,agg->T1,bool->T2,tuple->T4
open Go.IntKind renaming i64->T6,u32->T7,u16->T9
open Go.Obj renaming cells->Ua
open Go renaming World->Ub,Value->Uc
namespace Go.Proofs.YtfammloeljmplaaGreatDoor
open Go.Proofs.Tryz
set_option maxRecDepth 100000
set_option maxHeartbeats 8000000
set_option linter.unusedVariables false
set_option linter.unusedSimpArgs false
section
open Go.RowKit
theorem NU{w:Ub}{base:Nat}{e:TypeId}{size:Nat}{v:Uc}{n:Nat}{xs:List Uc}(h:w.ownsRow base e size v n xs)(l:0<n):∃b c,v=T0 (some ⟨b,0,none⟩) n c/\b<w.heap.size/\bh w w.heap.size size (some ⟨b,0,none⟩) n xs:=by
 obtain⟨j,g,a,f⟩:=cX h;obtain⟨k,h|⟨b,c,cs,rfl,i,d,_⟩⟩:=h
 ·exact absurd h.2 (by omega)
 cases a;exact⟨b,_,rfl,(aL.1 d).1,f⟩
theorem Lf{α:Type}(f:α->List Uc)(s:Nat)(a:∀x,(f x).length=s)(d:α)(l:List α)(k j:Nat)(b:k<l.length)(c:j<s):(l.flatMap f)[k*s+j]? =(f (l.getD k d))[j]? :=by
 induction l generalizing k with
 |nil=>simp at b
 |cons i l ih=>
  rw[cB];cases k with
  |zero=>
   rw[bU (by rw[a];omega)];simp
  |succ k=>
   rw[bY (by rw[a,gE];omega)];rw[show(k+1)*s+j - (f i).length=k*s+j by rw[a,gE];omega,ih k (by simpa using b)];simp
theorem bh.TS{w:Ub}{B n:Nat}{A:Option Addr}{l:List I}(h:bh w B 7 A n (j4 l))(q:0<n):
  ∃b a,A=some ⟨b,a,none⟩/\b<B/\∀k,k<n->(w.cell? ⟨b,a+k*7,none⟩=some (TY T9 (l.getD k default).code)/\w.cell? ⟨b,a+k*7+1,none⟩=some (TY .u8 (l.getD k default).jt)/\
   w.cell? ⟨b,a+k*7+2,none⟩=some (TY .u8 (l.getD k default).jf)/\w.cell? ⟨b,a+k*7+3,none⟩=some (TY T7 (l.getD k default).k)/\w.cell? ⟨b,a+k*7+4,none⟩=some (.func (.func (yu (kd (l.getD k default)))) #[] #[])/\
   w.cell? ⟨b,a+k*7+5,none⟩=some (TY T6 (kd (l.getD k default):Nat))/\w.cell? ⟨b,a+k*7+6,none⟩=some (T2 (kx (l.getD k default)))):=by
 obtain⟨o,rfl,m,i⟩:=h.2 (by omega);have q:n=l.length:=by have:=h.1;rw[zV]at this;omega
 have f:=fun k (g:k<n) j (e:j<7)=>Lf Rh 7 (fun _=>rfl) default l k j (by omega) e
 obtain⟨b,a,spot⟩:=o;have c:=i (0*7+0) _ ((f 0 (by omega) 0 (by omega)).trans rfl);have d:spot=none:=by simpa[Addr.add]using fL c
 subst d;refine⟨b,a,rfl,m,fun k g=>?_⟩;have key:∀j u,j<7->(Rh (l.getD k default))[j]? =some u->w.cell? ⟨b,a+k*7+j,none⟩=some u:=by
  intro j u e p;have:=i (k*7+j) u ((f k g j e).trans p);rw[<-this];unfold Addr.add;by_cases c:k*7+j=0
  ·rw[aj c,show a+k*7+j=a by omega]
  rw[af c];simp[eF]
 exact⟨key 0 _ (by omega) rfl,key 1 _ (by omega) rfl,key 2 _ (by omega) rfl,key 3 _ (by omega) rfl,key 4 _ (by omega) rfl,key 5 _ (by omega) rfl,key 6 _ (by omega) rfl⟩
theorem ES{l:List Nat}(h:∀b∈l,b<256)(k:Int):getN l k 4 false<4294967296:=by
 unfold getN;split
 ·have a:=sf (pT l k.toNat (4:Int).toNat false) (fun b c=>by
    unfold pT at c;obtain⟨j,_,rfl⟩:=bt.1 c;rw[aa];cases e:l[mc k.toNat (4:Int).toNat false j]? with
    |none=>decide
    |some v=>exact h _ (iw e))
  have d:(pT l k.toNat (4:Int).toNat false).length=4:=by unfold pT;simp
  rw[d]at a;exact a
 decide
theorem wk{P:Program}{e:Func}{p q:Tmp}{ty tz:TypeId}(h:e.results=#[.cell p ty,.cell q tz])(tmps:Array Uc)(w:Ub)(g c:Nat)(t:TypeId)(cs:Array Uc)(fr:Nat×Nat)(d:TypeDesc)
  (k:tmps.getD p undef=TZ (some ⟨g,0,none⟩))(j:tmps.getD q undef=TZ (some ⟨c,0,none⟩))(i:w.heap[g]? =some (Ua cs t fr))
  (l : P.underlying ty = some d) (f : (match d with | .struct _ | .array _ _ => true | _ => false) = true) (m : (P.info? ty).map (·.size) = some cs.size) (v : Uc) (hv : (loadVar tz ⟨c, 0, none⟩).run P w = .ok v w) :
  (results e tmps).run P w=.ok (T4 #[T1 cs,v]) w:=by
 have a:tmps[p]?.getD undef=TZ (some ⟨g,0,none⟩):=by simpa using k
 have b:tmps[q]?.getD undef=TZ (some ⟨c,0,none⟩):=by simpa using j
 simp[results,h,a,b,asAddr,kQ w g t ty cs fr d i l f m,hv]
theorem tb(w:Ub)(g:Nat)(k:Int)(h:w.cell? ⟨g,0,none⟩=some (TY T6 k)):(loadVar 40 ⟨g,0,none⟩).run prog w=.ok (TY T6 k) w:=by
 have a:(isAgg 40).run prog w=.ok false w:=by
  unfold isAgg;rw[aY,cJ underlying40 w];rfl
 simp[loadVar,aY,a,go_sem,h]
def NV(p:List I)(d:List Nat)(w:Ub)(e:Ending)(w':Ub):Prop:=
 ∃(a:Option Addr) (c b:Nat),e=.returned (T4 #[T1 #[TY T7 ((nd p (fun k=>getN d k 4 false) p.length v0).1:Nat),TY T6 ((nd p (fun k=>getN d k 4 false) p.length v0).2:Nat),T0 a c b],TY T6 0])/\Below w.heap.size w w'
theorem Pw(p:List I)(S:∀i∈p,i.Ok)(b4:∀i∈p,SimpK (kd i))(T:gQ p)(t:List Nat)(ap:∀b∈t,b<256)(gm:Nat)(A:Option Addr)(c:Nat)(B:Option Addr)(cb:Nat)(w:Ub)
  (X:w.cell? ⟨gm,0,none⟩=some (T0 A p.length c))(a4:bh w w.heap.size 7 A p.length (j4 p))(ag:bh w w.heap.size 1 B 64 (dN t)):
  Calls prog 61 #[TZ (some ⟨gm,0,none⟩),T0 B 64 cb] w (NV p t w):=by
 have ds:∀(fn:Fn) (first cap:Array Uc) (w:Ub),(Instr.makeFunc fn first cap).run prog w=.ok (.func fn first cap) w:=fun _ _ _ _=>rfl
 have a3:=yZ X;go_enter_defers func61,ntmps61;go_wp2_with fail;let Y:Ub:=(w.alloc (Ua #[TY T7 0,TY T6 0,T0 none 0 0] 88)).alloc (Ua #[TY T6 0] 40);have h4:dx Y w.heap.size 88 3 [TY T7 0,TY T6 0,T0 none 0 0]:=(dx.new w 88 #[TY T7 0,TY T6 0,T0 none 0 0] [TY T7 0,TY T6 0,T0 none 0 0] rfl).alloc _;have h5:dx Y (w.heap.size+1) 40 1 [TY T6 0]:=by
  have:=dx.new (w.alloc (Ua #[TY T7 0,TY T6 0,T0 none 0 0] 88)) 40 #[TY T6 0] [TY T6 0] rfl;simpa using this
 have L:Below w.heap.size w Y:=((aw _ w).alloc (ae _) _).alloc (by simp) _;have c1:Y.heap.size=w.heap.size+2:=by simp[Y]
 have bf:=(ag.below L).more L.size;refine(Ll t B 64 cb Y bf (by omega)).mono ?_;rintro e d ⟨v,rfl,u,D⟩;rw[show t.length=64 by have:=ag.1;rw[fP]at this;omega]at u;obtain⟨gb,cc,rfl,bA,N⟩:=NU u (by omega);have a6:=h4.below D (by omega);have aE:=h5.below D (by omega);have z:=L.trans (D.mono (by omega));have de:w.heap.size+2<=d.heap.size:=by have:=D.size;omega
 clear D u h4 h5 bf ag L;clear_value Y;go_wp2_with fail;let rc:Obj:=Ua #[T0 (some ⟨gb,0,none⟩) 64 cc,TY T6 0,TY T7 0,TY T7 0,TY T7 0,TY T7 0,TY T7 0,TY T7 0,TY T7 0,TY T7 0,TY T7 0,TY T7 0,TY T7 0,TY T7 0,TY T7 0,TY T7 0,TY T7 0,TY T7 0,TY T7 0,TY T7 0,TY T7 0,TY T6 0,T0 none 0 0] 246;let G:Ub:=(d.alloc rc).alloc (Ua #[TZ (some ⟨d.heap.size,0,none⟩)] 241);have cu:G.heap.size=d.heap.size+2:=by simp[G]
 have n:Below d.heap.size d G:=((aw _ d).alloc (ae _) _).alloc (by simp) _;have ar:dx G d.heap.size 246 23 (jB (T0 (some ⟨gb,0,none⟩) 64 cc) v0 0 (T0 none 0 0)):=(dx.new d 246 _ _ rfl).alloc _;have ab:G.cell? ⟨d.heap.size+1,0,none⟩=some (TZ (some ⟨d.heap.size,0,none⟩)):=by
  have this:=(dx.new (d.alloc rc) 241 #[TZ (some ⟨d.heap.size,0,none⟩)] [TZ (some ⟨d.heap.size,0,none⟩)] rfl).cell (k:=0) rfl;have e:(d.alloc rc).heap.size=d.heap.size+1:=by simp
  rw[e]at this;exact this
 have E:G.ownsRow (d.heap.size+2) 3 1 (T0 none 0 0) 0 []:=aX _ _ _ _;have J:=(z.trans (n.mono (by omega))).cell (p:=⟨gm,0,none⟩) a3;rw[X]at J;have V:=((a4.below z).below (n.mono (by omega))).more (B':=w.heap.size) (ae _);have br:=a6.below n (by omega);have bk:=aE.below n (by omega);have a5:=(N.below n).more n.size;have M:=z.trans (n.mono (by omega));have a7:(d.alloc rc).alloc (Ua #[TZ (some ⟨d.heap.size,0,none⟩)] 241)=G:=rfl;rw[a7];clear_value G;clear a7 a4 N X a6 aE n z;generalize hg:d.heap.size=g at*;clear rc;have dd:p.length<=4096:=T.le;have bm:=T.pos;go_loopg [7] p.length (fun k o wr=>∃(s:Vs) (st q:Nat) (ld:Uc) (xs:List Uc),s.Ok/\s.at_<p.length/\k=p.length - s.at_/\dx wr g 246 23 (jB (T0 (some ⟨gb,0,none⟩) 64 cc) s st ld)/\wr.ownsRow (g+2) 3 1 ld q xs/\q<=st/\st+k<=p.length/\
  (nd p (fun k=>getN t k 4 false) k s).1=(nd p (fun k=>getN t k 4 false) p.length v0).1/\st+(nd p (fun k=>getN t k 4 false) k s).2=(nd p (fun k=>getN t k 4 false) p.length v0).2/\nR g G wr)
 case atStart=>exact⟨v0,0,0,_,_,Ra,bm,rfl,ar,E,ae _,by omega,rfl,by omega,.refl _ _⟩
 case round=>
  obtain⟨s,st,q,ld,xs,hs,y,rfl,hr,O,hq,c0,m,r,F⟩:=hrel;have H:Below w.heap.size G wr:=F.below (by omega) (by omega);have hm:=H.cell (p:=⟨gm,0,none⟩) a3;rw[J]at hm;have hp:wr.cell? ⟨g+1,0,none⟩=some (TZ (some ⟨g,0,none⟩)):=by
   rw[<-ab];unfold World.cell?;rw[F.block (g+1) (by omega) (by omega) (by omega)]
  have ce:=hr.cell (k:=1) rfl;have f1:=hr.frozen 1;have cs:=hr.frozen 21;have ci:=hr.cell (k:=21) (yw hs.len);have d5:=hr.lt;have d1:g+2<=wr.heap.size:=by have:=F.size;omega
  have cm:g+1<wr.heap.size:=by omega
  have cr:gm<wr.heap.size:=by omega
  obtain⟨b,c6,rfl,hb,U⟩:=(V.below H).TS bm;have c3:b<wr.heap.size:=by omega
  obtain⟨o0,o1,o2,o3,o4,o5,o6⟩:=U s.at_ y;have e0:=oc S y;have e2:=T.load y;have e9:SimpK (kd (p.getD s.at_ default)):=by rw[aa,ah y];exact b4 _ (bj y)
  have e5:=xR T y (fun k=>getN t k 4 false);have e6:=fun v h=>AS (l:=p) (W:=fun k=>getN t k 4 false) (f:=p.length - s.at_) (s:=s) (v:=v) (by omega) h
  have e7:=oN T (W:=fun k=>getN t k 4 false) y;generalize hi:p.getD s.at_ default=i at*;have cx:∀args W,(callFunc (yu (kd i)) args).run prog W=.ok (.enter (yu (kd i)) args) W:=fun a W=>Rm e9 a W
  obtain⟨E0,E2,E9,E5,E6,E7,bl,be,HR⟩:=ay e0 e2 e9 e5 e6 e7 m r hr;obtain⟨bb,bv,dg,C,c9,HF,ak,b9,b3⟩:=ay O F U hs S T ap br bk;obtain⟨c2,b0,ba,c4,bR,dp⟩:=aF V a5 M H ab J;clear e0 e2 e9 e5 e6 e7 m r hr O F U S T ap br bk V a5 M H ab J ar E hs hi;go_wp2_with fail;go_region;go_wp2_with fail;have BG:gN g wr _:=((((gN.refl g wr).setCell (p:=⟨g,1,none⟩) rfl (TY T6 (s.at_+1:Nat))).setCell (p:=⟨g,21,none⟩) rfl (TY T6 (st+1:Nat))).alloc (Ua #[TY T9 i.code,TY .u8 i.jt,TY .u8 i.jf,TY T7 i.k,.func (.func (yu (kd i))) #[] #[],TY T6 (kd i:Nat),T2 (kx i)] 243)).drew;have R:=(((HR.out.set_ 1 (TY T6 (s.at_+1:Nat))).set_ 21 (TY T6 (st+1:Nat))).alloc (Ua #[TY T9 i.code,TY .u8 i.jt,TY .u8 i.jf,TY T7 i.k,.func (.func (yu (kd i))) #[] #[],TY T6 (kd i:Nat),T2 (kx i)] 243)).drew;rw[show(jB (T0 (some ⟨gb,0,none⟩) 64 cc) s st ld).set 1 (TY T6 (s.at_+1:Nat))=jB (T0 (some ⟨gb,0,none⟩) 64 cc) {s with at_:=s.at_+1} st ld from rfl,zW (s:={s with at_:=s.at_+1}) C.out.len]at R;refine(Lg i E0.out E9.out E2.out g t ak.out gb 0 cc bA {s with at_:=s.at_+1} ⟨C.out.a,C.out.x,C.out.len,C.out.cell⟩ (by show s.at_+1<=_;omega) (st+1) ld q xs (by omega) _ R (KF BG (by omega) (GU bv.out bA b0.out)) (JG bb.out BG (by omega)) (fun k=>ES ak.out k)).mono ?_;have bo:=Lib.hid ((bv.out).trans (.SF BG));clear R BG;rintro e w5 (⟨v,a0,q',a9,j,rfl,Z,cd,x,ad⟩|⟨a0,q',a9,j,rfl,Z,cd,x,ad⟩)
  ·unfold JH;go_wp2_with fail;have HT:=(bo.out).trans ad;obtain⟨lA,lC,rfl,_⟩:=cX x;have b8:w5.cell? ⟨g+1,0,none⟩=some (TZ (some ⟨g,0,none⟩)):=by
    rw[<-bR.out];unfold World.cell?;rw[HT.block (g+1) (by omega) (by omega) (by omega)]
   have b5:=(b9.out).of_heap (HT.block w.heap.size (by omega) (by omega) (by omega));have bS:=(b3.out).of_heap (HT.block (w.heap.size+1) (by omega) (by omega) (by omega));have bi:=E6.out v j;refine leaves_cons (f:=118) (args:=#[TZ (some ⟨g+1,0,none⟩),TZ (some ⟨w.heap.size,0,none⟩),TZ (some ⟨w.heap.size+1,0,none⟩)]) (by simp) (by simp[go_sem]) ?_;refine(Lh v g w.heap.size (w.heap.size+1) _ {s with at_:=s.at_+1} ⟨C.out.a,C.out.x,C.out.len,C.out.cell⟩ (st+1) lA q' lC w5 Z b8 b5 bS (by omega) (by omega) (by omega)).mono ?_;rintro e u' w6 ⟨rfl,rfl,r4,r5,rb⟩;have c5:=r5.cell (k:=0) rfl;obtain⟨bO,bq,bN,b7⟩:=r4;have bp:bO=#[TY T7 v,TY T6 (st+1:Nat),T0 lA q' lC]:=by
    apply vF.1
    rw[<-b7,bI (by simp[bN])]
   subst bp;have m:=bl.out;have r:=be.out;rw[bi]at m r;refine⟨_,wk (p:=4) (q:=5) (ty:=88) (tz:=40) rfl _ _ w.heap.size (w.heap.size+1) _ _ _ _ rfl rfl bq underlying88 rfl (by kernel_rfl) _ (tb _ _ _ c5),lA,q',lC,?_,(ba.out).trans ((HT.below (by omega) (by omega)).trans (rb w.heap.size (ae _) (by omega)))⟩;rw[<-m,<-r]
  go_wp2_with fail;have HT:=(bo.out).trans ad
  have bx:=E5.out j;have ca:=E7.out j;have m:=bl.out;have r:=be.out;rw[ca]at m r;have av:=MR (W:=fun k=>getN t k 4 false) (i:=i) (s:={s with at_:=s.at_+1}) ⟨C.out.a,C.out.x,C.out.len,C.out.cell⟩ E0.out (fun k=>ES ak.out k);go_roundg (p.length - (iC (fun k=>getN t k 4 false) i {s with at_:=s.at_+1}).at_);case measure=>omega
  case rel=>exact⟨_,st+1,q',a0,a9,av,bx.2,rfl,Z,x,by omega,by omega,m,by rw[<-r];show _=st+(_+1);omega,HT⟩
end
section
open Go.RowKit Go.Shelf
attribute [local go_sem] Oper.semAt_some
def fW:Nat->Array Uc
 |0=>#[.string ⟨#[120,56,54,95,54,52]⟩,TY T7 3221225534,T2 false,TY T6 64]
 |1=>#[.string ⟨#[120,51,50]⟩,TY T7 3221225534,T2 true,TY T6 64]
 |2=>#[.string ⟨#[105,51,56,54]⟩,TY T7 1073741827,T2 false,TY T6 32]
 |3=>#[.string ⟨#[97,114,109,54,52]⟩,TY T7 3221225655,T2 false,TY T6 64]
 | _ => #[.string ⟨#[114, 105, 115, 99, 118, 54, 52]⟩, TY T7 3221225715, T2 false, TY T6 64]
def RN:Array Uc:=fW 0++fW 1++fW 2++fW 3++fW 4
theorem NR:∃Z:Array Uc,prog.built 284 [(0,T1 (fW 0)),(1,T1 (fW 1)),(2,T1 (fW 2)),(3,T1 (fW 3)),(4,T1 (fW 4))]=some Z/\
  (prog.info? 284).map (·.size)=some Z.size/\Z.all (·.oneCell')=true/\Z.size=20/\
  ∀k,k<5->∀w,(Instr.index 284 (T1 Z) (TY T6 (k:Nat))).run prog w=.ok (T1 (fW k)) w:=by
 refine⟨RN,by kernel_rfl,by kernel_rfl,by kernel_rfl,by kernel_rfl,?_⟩;intro k f w;obtain rfl|rfl|rfl|rfl|rfl:k=0\/k=1\/k=2\/k=3\/k=4:=by omega
 all_goals
  have e:prog.underlying 284=some (.array 5 132):=underlying284;have hv:=underlying132;obtain⟨i,d,c⟩:∃i,prog.info? 132=some i/\i.size=4:=by
   have b:(prog.info? 132).map (·.size)=some 4:=by kernel_rfl
   cases h:prog.info? 132 with
   |none=>rw[h]at b;cases b
   |some i=>rw[h]at b;exact⟨i,rfl,by injection b⟩
  have a:(isAgg 132).run prog w=.ok true w:=by
   unfold isAgg;rw[aY,cJ hv w];rfl
  simp[Instr.index,cJ e,asIntOf,part,a,sizeOf,typeInfo,d,c,aY];rfl
theorem pq(k:Nat):∃s t b m,fW k=#[.string s,TY T7 t,T2 b,TY T6 m]:=by
 unfold fW;split<;>exact⟨_,_,_,_,rfl⟩
theorem pr(k:Nat):(fW k).size=4:=by obtain⟨s,t,b,m,h⟩:=pq k;rw[h];rfl
theorem Ld(k:Nat):(fW k).all (·.oneCell')=true:=by obtain⟨s,t,b,m,h⟩:=pq k;rw[h];simp[Value.oneCell']
theorem NS:∃(i:TypeInfo) (z:Uc),prog.info? 284=some i/\i.zero=some z/\z.cells.size=20:=by
 have a:(prog.info? 284).bind (fun i=>i.zero.map (·.cells.size))=some 20:=by kernel_rfl
 cases h:prog.info? 284 with
 |none=>rw[h]at a;cases a
 |some i=>
  rw[h]at a;cases b:i.zero with
  |none=>simp[b]at a
  |some z=>exact⟨i,z,rfl,b,by simpa[b]using a⟩
theorem NT(F:Fence)(n:Nat)(N:F.fn 161)(L:F.round=none)(hn:1<=n)(l lo G:Nat)(J X:List Nat->Ub->Prop)(W:Ub)
  (y:∀s r V,J s r->r.grownBy V none->J s V)
  (T:∀a x r,J a r->a.length<5->YieldAt F (n - 1) prog l #[TY T6 (x:Nat),T1 (fW x)] r fun e t=>
    (e=.returned (T2 true)/\J (a++[x]) t/\dC lo G r t)\/(e=.returned (T2 false)/\X (a++[x]) t))
  (h0:J [] W):
  CallsIn F n prog 161 #[.func (.yield l) #[] #[]] W fun e t=>(∃v,e=.returned v)/\
   ((∃s,s=lG id 5/\J s t)\/(∃a,(∃k,k<5/\a=lG id (k+1))/\X a t)):=by
 obtain⟨Z,m,d,g,o,q⟩:=NR;obtain⟨i0,p,O,H,R⟩:=NS;refine callsIn_of_wp func161 rfl N ?_ L;simp only[ntmps161,dr,aM,bD,Nat.reduceAdd,Nat.reduceSub,dG,dH,dJ,dV,dc,dA];iterate 3 gi_step
 iterate 5
  gi_step
  gi_step
  gi_step
 refine yY rfl 284 _ rfl (hv:=by simp only[aQ,aJ,a8];rfl) (vals:=[(0,T1 (fW 0)),(1,T1 (fW 1)),(2,T1 (fW 2)),(3,T1 (fW 3)),(4,T1 (fW 4))]) Z m ?_;refine rX rfl 284 rfl i0 O p H ?_;refine nE rfl 284 (.tmp 2) (.tmp 10) rfl W.heap.size Z rfl rfl 284 p.cells (cq W _) d (R.trans o.symm) g ?_;simp only[Act.put,aq,aI,aH];have D:((W.alloc (Ua p.cells 284)).setRow W.heap.size Z).heap[W.heap.size]? =some (Ua Z 284 (0,0)):=P9 _ _ p.cells Z 284 (0,0) (cq W _);have z:J [] ((W.alloc (Ua p.cells 284)).setRow W.heap.size Z):=y _ _ _ h0 ⟨rfl,rfl,rfl,by rw[setRow_size];simp,fun i G _=>by rw[zN _ _ _ _ (Ru G)];exact(iR W _ none).block i G (by simp)⟩;have C:W.heap.size+1=((W.alloc (Ua p.cells 284)).setRow W.heap.size Z).heap.size:=by rw[setRow_size];simp
 generalize (W.alloc (Ua p.cells 284)).setRow W.heap.size Z=V at*;have HS:=Lib.hid C;clear C;gi_wp2_with (refine oq rfl 284 (.tmp 2) rfl W.heap.size rfl 284 Z (0,0) _ D underlying284 rfl d ?_);gi_loopw [12] (fun i wr=>∃k:Nat,k<=5/\i=TY T6 k/\J (lG id k) wr) (fun i _=>5 - (intOf i).toNat);case atStart=>exact⟨0,iS _,rfl,z⟩
 case round=>
  obtain⟨k,hk,rfl,A⟩:=hrel;clear z D HS;by_cases f:k<5
  ·have u:=q k f;have b:=uY id k;obtain⟨s0,t0,Y,m0,hf⟩:=pq k;have j:=T (lG id k) k;rw[hf]at u j;simp only[id]at b;have M:(lG id k).length<5:=by rw[og];exact f
   generalize lG id k=s at*;obtain⟨fn,tmps,assign,body,hy,hR⟩:=j (wr.alloc (Ua #[.string s0,TY T7 t0,T2 Y,TY T6 m0] 132)) (y _ _ _ A (iR _ _ _)) M;have E:=Lib.hid b;clear b T j q hf m d g o;gi_wp2_with (refine mJ rfl (by intro c S;cases S) (by intro c S;cases S) (T1 #[.string s0,TY T7 t0,T2 Y,TY T6 m0]) (u _) ?_);refine hR.mono ?_;rintro e W3 (⟨rfl,U,-⟩|⟨rfl,B⟩)
   ·gi_wp2
    go_roundw;case rel=>exact⟨k+1,by omega,by go_num,by rw[E.out];exact U⟩
    case measure=>simp[intOf]<;>omega
   gi_wp2
   refine aO (l5 rfl _ _ _) rfl ?_;exact⟨⟨_,rfl⟩,.inr ⟨_,⟨k,f,E.out.symm⟩,B⟩⟩
  obtain rfl:k=5:=by omega
  clear T q m d g o;gi_wp2;go_end0;exact⟨⟨_,rfl⟩,.inl ⟨_,rfl,A⟩⟩
theorem Hu(F:Fence)(n:Nat)(b:F.fn 161)(a:F.round=none)(q:1<=n)(f:Nat)(w:Ub):
  SeqStopsK F n prog 161 #[] (fun x:Nat=>#[Value.int T6 (x:Nat),T1 (fW x)]) (dC f w.heap.size) (fun d=>d=lG id 5)
   (fun c=>∃k,k<5/\c=lG id (k+1)) 5 w:=fun l J j W t p _ o g=>
 NT F n b a q l f w.heap.size J j W (fun d m s h i=>p d m s none h i (fun r e=>by cases e)) o g
theorem Pv(F:Fence)(n:Nat)(a:F.fn 96)(b:F.round=none)(w:Ub):
  CallsIn F n prog 96 #[] w fun e w'=>e=.returned (.func (.func 161) #[] #[])/\w'=w:=by
 refine callsIn_of_wp func96 rfl a ?_ b;simp only[ntmps96,dr,aM,bD,Nat.reduceAdd,Nat.reduceSub,dG,dH,dJ,dV,dc,dA];gi_wp2;go_ret;exact⟨rfl,rfl⟩
theorem sq{B g:Nat}(W:Ub)(cs:Array Uc)(h:g<B):KeepsFrom B W (W.setRow g cs):=
 ⟨by simp,fun k o b a _=>(zN _ _ _ _ (by omega)).trans a⟩
theorem wj(W:Ub)(g:Nat)(cs:Array Uc):W.grownBy (W.setRow g cs) (some g):=
 ⟨rfl,rfl,rfl,by simp,fun k _ a=>zN _ _ _ _ (fun e=>a (by rw[e]))⟩
theorem k9{X Y:Ub}{row:Option Nat}{g:Nat}{o:Obj}(h:X.heap[g]? =some o)(f:o.isCells=true)(d:X.grownBy Y row)(c:∀r,row=some r->∃o:Obj,X.heap[r]? =some o/\o.isCells=false):Y.heap[g]? =some o:=
 (d.block g (aL.1 h).1 (fun e=>by
   obtain⟨i,b,a⟩:=c g e.symm;rw[h]at b;cases b;rw[f]at a;cases a)).trans h
theorem QF(w:Ub)(A B C:Obj):(((w.alloc A).alloc B).alloc C).heap[w.heap.size]? =some A/\(((w.alloc A).alloc B).alloc C).heap[w.heap.size+1]? =some B/\(((w.alloc A).alloc B).alloc C).heap[w.heap.size+1+1]? =some C:=by
 refine⟨?_,?_,?_⟩
 ·exact((heap_alloc_old _ C (by simp;omega)).trans (heap_alloc_old _ B (by simp))).trans (cq w A)
 ·refine(heap_alloc_old _ C (by simp)).trans ?_;have:=cq (w.alloc A) B;rwa [cE]at this
 have:=cq ((w.alloc A).alloc B) C;rwa [cE,cE]at this
theorem Le(a:Nat)(ha:a<5)(w:Ub):
  TV 43 #[TY T6 (a:Nat)] w (T4 #[T1 (fW a),TY T6 0]):=by
 refine(callsIn_wide (n:=5)).1 ?_;refine callsIn_of_wp_marks func43 rfl trivial ?_ rfl;simp only[ntmps43,dr,aM,bD,Nat.reduceAdd,Nat.reduceSub,dG,dH,dJ,dV,dc,dA];gi_wp2_with fail;refine⟨trivial,?_⟩;refine(Pv Fence.wide _ trivial rfl _).mono ?_;rintro e w2 ⟨rfl,rfl⟩;gi_wp2_with fail;obtain⟨A,z,C⟩:=QF w (Ua #[TY T6 a] 3) (Ua #[.string ⟨#[]⟩,TY T7 0,T2 false,TY T6 0] 132) (Ua #[TY T6 0] 40);have u:Below w.heap.size w (((w.alloc (Ua #[TY T6 a] 3)).alloc (Ua #[.string ⟨#[]⟩,TY T7 0,T2 false,TY T6 0] 132)).alloc (Ua #[TY T6 0] 40)):=
  (((aw _ w).alloc (ae _) _).alloc (by simp) _).alloc (by simp;omega) _
 have N:(((w.alloc (Ua #[TY T6 a] 3)).alloc (Ua #[.string ⟨#[]⟩,TY T7 0,T2 false,TY T6 0] 132)).alloc (Ua #[TY T6 0] 40)).heap.size=w.heap.size+3:=by simp
 generalize (((w.alloc (Ua _ 3)).alloc (Ua _ 132)).alloc (Ua _ 40))=T at*;have g:∃s,s=w.heap.size:=⟨_,rfl⟩;obtain⟨s,d⟩:=g;have g:s<=w.heap.size:=Rt d;rw[<-d]at A z C u N⊢;have HS:=Lib.hid d;clear d;have R:∀x:Nat,(#[Value.int T6 (x:Nat),T1 (fW x)]:Array Uc).size=2:=fun _=>rfl
 refine wpIn_rangeFunc_ownH rfl (by omega) (gf:=161) (lb:=#[]) rfl trivial (enters_of func161 (by kernel_rfl) rfl)
  (Hu Fence.wide _ trivial rfl (by omega) s T)
  (fun h k=>dC.trans h k) (fun W l o o' g _ _ _=>dC.putObj W l o' g) (aw _ _) (fun x=>R x)
  (fun f W=>(W.heap[s]? =some (Ua #[TY T6 a] 3 (0,0))/\W.heap[s+1]? =some (Ua #[.string ⟨#[]⟩,TY T7 0,T2 false,TY T6 0] 132 (0,0))/\W.heap[s+1+1]? =some (Ua #[TY T6 0] 40 (0,0))/\∀x∈f,x≠a)/\Below s w W)
  (fun c f W=>(c=.ret/\W.heap[s+1]? =some (Ua (fW a) 132 (0,0))/\W.heap[s+1+1]? =some (Ua #[TY T6 0] 40 (0,0)))/\Below s w W)
  (OwnFrom.and (Own.from (fun s X Y row d i j=>⟨k9 d.1 rfl i j,k9 d.2.1 rfl i j,k9 d.2.2.1 rfl i j,d.2.2.2⟩) _) (ownFrom_below (by omega) (by omega)))
  (fun c=>OwnFrom.and (Own.from (fun s X Y row d i j=>⟨d.1,k9 d.2.1 rfl i j,k9 d.2.2 rfl i j⟩) _) (ownFrom_below (by omega) (by omega)))
  ⟨⟨A,z,C,by simp⟩,u⟩
  (fun x L W=>∃p,s+3<=p/\W.heap[p]? =some (Ua (fW x) 132 (0,0))/\
    L={tmps:=#[TY T6 a,TZ (some ⟨s,0,none⟩),TZ (some ⟨s+1,0,none⟩),TZ (some ⟨s+1+1,0,none⟩),TY T6 (x:Nat),TZ (some ⟨p,0,none⟩),.func (.func 161) #[] #[],TY T6 (x:Nat),T1 (fW x),undef,undef,undef,undef,undef],defers:=[]})
  (fun x L=>Own.from (fun s X Y row d i j=>by obtain⟨p,E,q,m⟩:=d;exact⟨p,E,k9 q rfl i j,m⟩) _) ?assign ?body ?done ?stop
 case assign=>
  intro l f x W K t r;obtain⟨q0,q1,q2,q3,hf⟩:=pq x;rw[hf]at r⊢;gi_wp2;have G:s+1+1<W.heap.size:=(aL.1 t.1.2.2.1).1;refine r _ _ ⟨by simp,fun k o _ V _=>(iR W _ none).block k (aL.1 V).1 (by simp) |>.trans V⟩ ⟨by simp,fun b _ hb=>(iR W _ none).block b (by omega) (by simp)⟩ ?_ ⟨W.heap.size,by omega,cq _ _,rfl⟩;exact⟨⟨k9 t.1.1 rfl (iR W _ none) (by simp),k9 t.1.2.1 rfl (iR W _ none) (by simp),k9 t.1.2.2.1 rfl (iR W _ none) (by simp),t.1.2.2.2⟩,t.2.alloc (by omega) _⟩
 case body=>
  rintro l' f x L W - - ⟨⟨E,q,m,M⟩,B⟩ ⟨p,hp,H,rfl⟩ U;have S:=Dt W s 0 #[TY T6 a] 3 (0,0) E;by_cases v:x=a
  ·subst v;have F:(W.setRow (s+1) (fW x)).heap[s+1+1]? =some (Ua #[TY T6 0] 40 (0,0)):=(zN _ _ _ _ (by omega)).trans m;have c3:=Dt (W.setRow (s+1) (fW x)) (s+1+1) 0 #[TY T6 0] 40 (0,0) F;have f3:(W.setRow (s+1) (fW x)).frozen? ⟨s+1+1,0,none⟩=false:=by simp[World.frozen?,F]
   simp only[ao,QY]at c3 S;gi_wp2_with (first
    |refine oq rfl 132 (.tmp 5) rfl p rfl 132 (fW x) (0,0) _ H underlying132 rfl (by rw[pr];kernel_rfl) ?_
    |refine nE rfl 132 (.tmp 2) (.tmp 12) rfl (s+1) (fW x) rfl rfl 132 _ q (by rw[pr];kernel_rfl) (by rw[pr];rfl) (Ld x) ?_)
   have e0:=setCell_eq_setRow (W.setRow (s+1) (fW x)) (s+1+1) 0 #[TY T6 0] 40 (0,0) (TY T6 0) F;rw[show#[Value.int T6 0].setIfInBounds 0 (TY T6 0)=#[TY T6 0] from rfl]at e0;have g4:=P9 (W.setRow (s+1) (fW x)) (s+1+1) _ #[TY T6 0] 40 (0,0) F;have g2:=(zN (W.setRow (s+1) (fW x)) (s+1+1) (s+1) #[TY T6 0] (by omega)).trans (P9 W (s+1) _ (fW x) 132 (0,0) q);have G:s+1+1<W.heap.size:=(aL.1 m).1;have O:Below s w ((W.setRow (s+1) (fW x)).setRow (s+1+1) #[TY T6 0]):=
    (B.grown (wj W (s+1) _) (by omega) (fun k e=>by cases e;omega)).grown (wj _ (s+1+1) _) (by simp;omega) (fun k e=>by cases e;omega)
   first
    |(rw[e0];exact⟨(sq _ _ (by omega)).trans (sq _ _ (by omega)),⟨rfl,g2,g4⟩,O⟩)
    |skip
  have Z:((x:Nat):Int)≠(a:Nat):=by omega
  have J:∀y∈f++[x],y≠a:=by
   intro y hy;rcases bT.1 hy with hy|hy
   ·exact M y hy
   simp at hy;subst hy;exact v
  gi_wp2
  first
   |exact⟨KeepsFrom.refl _ _,dC.refl _ _ _,⟨E,q,m,J⟩,B⟩
   |skip
 case done=>
  rintro D ys W hD rfl ⟨⟨_,_,_,M⟩,B⟩ r;exact absurd rfl (M a (bt.2 ⟨a,bE.2 ha,rfl⟩))
 case stop=>
  rintro D c f W hD _ ⟨⟨rfl,q,m⟩,B⟩ r;have hv:=tb W (s+1+1) 0 (Dt W (s+1+1) 0 #[TY T6 0] 40 (0,0) m);gi_wp2;refine⟨by simp,.inl ⟨_,_,rfl,run_takeDeferred r,?_⟩⟩;have k2:=(World.putObj_heap_other (o:=.deferred none) (show s+1≠D by omega)).trans q;have k3:=(World.putObj_heap_other (o:=.deferred none) (show s+1+1≠D by omega)).trans m;refine⟨_,wk rfl _ _ (s+1) (s+1+1) 132 (fW a) (0,0) _ rfl rfl k2 underlying132 rfl (by rw[pr];kernel_rfl) _ (tb _ (s+1+1) 0 (Dt _ (s+1+1) 0 #[TY T6 0] 40 (0,0) k3)),rfl,?_⟩;rw[<-HS.out];exact B.trans (belowK_b (w:=T) (by omega) W D _ _ (by omega) r rfl rfl)
end
section
open Go.RowKit
def QR(p:List I)(a:List Nat):Nat×Nat:=if(fK p).2=0 then nd p (fun k=>getN a k 4 false) p.length v0 else(0,0)
def FX(p:List I)(d:List Nat)(w:Ub)(e:Ending)(w':Ub):Prop:=
 ∃(v st:Nat) (a:Option Addr) (c b:Nat),(v,st)=QR p d/\
  e=.returned (T4 #[T1 #[TY T7 v,TY T6 st,T0 a c b],TY T6 ((fK p).2:Nat)])/\Below w.heap.size w w'
theorem zF{P:Program}{c:Func}{p q:Tmp}{ty:TypeId}(h:c.results=#[.cell p ty,.tmp q])(tmps:Array Uc)(w:Ub)(g:Nat)(t:TypeId)(cs:Array Uc)(fr:Nat×Nat)(d:TypeDesc)(v:Uc)
  (j:tmps.getD p undef=TZ (some ⟨g,0,none⟩))(i:tmps.getD q undef=v)(f:w.heap[g]? =some (Ua cs t fr))
  (k : P.underlying ty = some d) (e : (match d with | .struct _ | .array _ _ => true | _ => false) = true) (l : (P.info? ty).map (·.size) = some cs.size) :
  (results c tmps).run P w=.ok (T4 #[T1 cs,v]) w:=by
 have a:tmps[p]?.getD undef=TZ (some ⟨g,0,none⟩):=by simpa using j
 have b:tmps[q]?.getD undef=v:=by simpa using i
 simp[results,h,a,b,asAddr,kQ w g t ty cs fr d f k e l]
theorem wY{p:List I}(h:(fK p).2=0):gQ p:=mO (by
 unfold fK at h;by_cases a:(eA p).2=0
 ·exact a
 rw[aj a]at h;exact h)
theorem Mh(p:List I)(G:∀i∈p,i.Ok)(Z:∀i∈p,SimpK (kd i))(A:Option Addr)(n c:Nat)(y:List Nat)(J:∀b∈y,b<256)(B:Option Addr)(cb:Nat)(w:Ub)(X:bh w w.heap.size 4 A n (gx p))(hn:n<=100000)(r:bh w w.heap.size 1 B 64 (dN y)):
  Calls prog 23 #[T0 A n c,T0 B 64 cb] w (FX p y w):=by
 let o:Ub:=w.alloc (Ua #[TY T7 0,TY T6 0,T0 none 0 0] 88);have H:dx o w.heap.size 88 3 [TY T7 0,TY T6 0,T0 none 0 0]:=dx.new w 88 #[TY T7 0,TY T6 0,T0 none 0 0] [TY T7 0,TY T6 0,T0 none 0 0] rfl;have j:Below w.heap.size w o:=(aw _ w).alloc (ae _) _;have ap:o.heap.size=w.heap.size+1:=by simp[o]
 have s:=(X.below j).more j.size;have m:=(r.below j).more j.size;have hW:w.alloc (Ua #[TY T7 0,TY T6 0,T0 none 0 0] 88)=o:=rfl;have ends:∀(N:Ub) (v st:Nat) (g:Option Addr) (l f:Nat),dx N w.heap.size 88 3 [TY T7 v,TY T6 st,T0 g l f]->N.heap[w.heap.size]? =some (Ua #[TY T7 v,TY T6 st,T0 g l f] 88 (0,0)):=by
  rintro N v st g l f ⟨S,D,R,M⟩;have z:S=#[TY T7 v,TY T6 st,T0 g l f]:=by
   apply vF.1
   rw[<-M,bI (by simp[R])]
  rw[<-z];exact D
 go_enter func23,ntmps23;go_wp2_with fail;clear hW;clear_value o;refine(Pe p G A n c o s hn).mono ?_;rintro e w1 (⟨gm,A1,c1,C,rfl,aE,a3,ag,T,d⟩|⟨C,rfl,d⟩)
 ·have F:=H.below d (by omega);have al:=d.size;have ad:=(m.below d).more d.size;obtain⟨HZ,U⟩:=aA C F;have Y:=Lib.hid (j.trans (d.mono (by omega)));clear C F H X r s m d j;go_wp2_with fail;refine(Pw p G Z (wY HZ.out) y J gm A1 c1 B cb w1 ag T ad).mono ?_;rintro e w2 ⟨g,l,f,rfl,t⟩;have a:=(U.out).below t (by omega);have a0:=a.cell (k:=0) rfl;have a1:=a.cell (k:=1) rfl;have a2:=a.cell (k:=2) rfl;have e0:=a.frozen 0;have e1:=a.frozen 1;have e2:=a.frozen 2;have W:=a.lt;have u:=Lib.hid a;have x:=Lib.hid ((Y.out).trans (t.mono (by omega)));clear a t;generalize hV:nd p (fun k=>getN y k 4 false) p.length v0=V at*;obtain⟨v,st⟩:=V;simp only;go_wp2_with fail;have O:=ends _ _ _ _ _ _ ((((u.out).set_ 0 (TY T7 v)).set_ 1 (TY T6 st)).set_ 2 (T0 g l f));have L:=(((x.out).setCell (p:=⟨w.heap.size,0,none⟩) (ae _) (TY T7 v)).setCell (p:=⟨w.heap.size,1,none⟩) (ae _) (TY T6 st)).setCell (p:=⟨w.heap.size,2,none⟩) (ae _) (T0 g l f);refine aO (zF (p:=4) (q:=5) (ty:=88) rfl _ _ w.heap.size _ _ _ _ _ rfl rfl O underlying88 rfl (by kernel_rfl)) rfl ⟨v,st,g,l,f,by unfold QR;rw[aj HZ.out];exact hV.symm,?_,L⟩;rw[HZ.out];rfl
 have a:=H.below d (by omega);have x:=Lib.hid (j.trans (d.mono (by omega)));have a0:=a.cell (k:=0) rfl;have a1:=a.cell (k:=1) rfl;have a2:=a.cell (k:=2) rfl;have e0:=a.frozen 0;have e1:=a.frozen 1;have e2:=a.frozen 2;have W:=a.lt;have u:=Lib.hid a;have ez:¬(((fK p).2:Nat):Int)=0:=by omega
 have EZ:=Lib.hid C;clear a d j C X r s m H;generalize hE:(fK p).2=E at*;have HE:=Lib.hid hE;clear hE;go_wp2_with fail;try go_region
 all_goals
  have O:=ends _ _ _ _ _ _ ((((u.out).set_ 0 (TY T7 0)).set_ 1 (TY T6 0)).set_ 2 (T0 none 0 0));have L:=(((x.out).setCell (p:=⟨w.heap.size,0,none⟩) (ae _) (TY T7 0)).setCell (p:=⟨w.heap.size,1,none⟩) (ae _) (TY T6 0)).setCell (p:=⟨w.heap.size,2,none⟩) (ae _) (T0 none 0 0);refine aO (zF (p:=4) (q:=5) (ty:=88) rfl _ _ w.heap.size _ _ _ _ _ rfl rfl O underlying88 rfl (by kernel_rfl)) rfl ⟨0,0,none,0,0,by unfold QR;rw[af (fun h=>absurd (HE.out.symm.trans h) EZ.out)],?_,L⟩;rw[HE.out];rfl
theorem I4{l:List I}(a:∀i∈l,i.Ok):∀x∈dF l,x<256:=fun x c=>by
 obtain⟨i,b,h⟩:=db.1 c;obtain⟨f,d,g,e⟩:=a i b;simp only[l9,aP,bQ,eW]at h;rcases h with rfl|rfl|rfl|rfl|rfl|rfl|rfl|rfl<;>omega
def vD(prog:List I)(a:List Nat)(w:Ub)(e:Ending)(w':Ub):Prop:=Below w.heap.size w w'/\e=.returned (T4 #[TY T7 ((QR prog a).1:Nat),TY T6 ((fK prog).2:Nat)])
theorem OJ(prog:List I)(a:∀i∈prog,i.Ok)(H:∀i∈prog,SimpK (kd i))(r:prog.length<=4096)(m:List Nat)(k:∀b∈m,b<256)(A:Option Addr)(n c:Nat)(hn:n=(dF prog).length)(t:n<=c)(N:c<=maxLen)(B:Option Addr)(O:Nat)(w:Ub)(S:bh w w.heap.size 1 A n (dN (dF prog)))(q:bh w w.heap.size 1 B 64 (dN m)):
  Calls Tryz.prog 10 #[T0 A n c,T0 B 64 O] w (vD prog m w):=by
 have h8:(dF prog).length=8*prog.length:=oz prog;have j:oh (dF prog).length=0:=by
  unfold oh;rw[af (by omega),af (by omega)]
 have u:wi (dF prog)=prog:=by unfold wi;rw[aj j,EB a]
 have d:=Lc (dF prog) (I4 a) A n c w S (by omega) t N;unfold rK at d;rw[j,u]at d;have f:=fun W (M:Below w.heap.size w W) A' T X Z V=>Mh prog a H A' T X m k B O W Z V ((q.below M).more M.size)
 unfold FX at f;unfold vD;generalize (QR prog m)=vm at*;generalize (fK prog).2=ck at*;have l:prog.length<=100000:=by omega
 clear S q t N j u h8 hn r a k;obtain⟨p,x⟩:=aA d f;clear d f;go_enter func10,ntmps10;go_wp2_with fail;refine p.out.mono ?_;rintro e U ⟨v,rfl,R,J⟩;obtain⟨Y,c1,rfl,y⟩:=cX R;have hv:=x.out U J Y prog.length c1 y l;clear y R p x l;obtain⟨HV,C⟩:=aA hv J;clear hv J;go_wp2_with fail;refine HV.out.mono ?_;rintro e w2 ⟨v2,st,G,L,F,o,rfl,g⟩;have z:Below w.heap.size w (w2.alloc (Ua #[TY T7 v2,TY T6 st,T0 G L F] 88)):=(C.out.trans (g.mono C.out.size)).alloc ((C.out.trans (g.mono C.out.size)).size) _;clear g;have s:v2=vm.1:=by rw[<-o]
 clear o;obtain⟨E,D⟩:=aA z s;clear z s;go_wp2_with fail;go_ret2;refine⟨E.out,?_⟩;rw[D.out];rfl
end
end Go.Proofs.YtfammloeljmplaaGreatDoor
