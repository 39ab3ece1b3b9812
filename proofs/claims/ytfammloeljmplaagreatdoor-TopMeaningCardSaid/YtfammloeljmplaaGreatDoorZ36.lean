/- Contracts of rows, compaction and records; conditions: each lemma's own. -/
import Derived.Laws.IdiomCopy
import Derived.Test.YtfammloeljmplaaGreatDoorZ31
import Derived.Test.YtfammloeljmplaaGreatDoorZ33
open Go.Value renaming int->TY,pointer->TZ,slice->T0,agg->T1,bool->T2,tuple->T4
open Go.IntKind renaming i64->T6,u32->T7,u64->T8
open Go.Obj renaming cells->Ua
open Go renaming World->Ub,Value->Uc
namespace Go.Proofs.YtfammloeljmplaaGreatDoor
open Go.Proofs.Tryz
set_option maxRecDepth 100000
set_option maxHeartbeats 8000000
set_option linter.unusedVariables false
set_option linter.unusedSimpArgs false
section
open Go.RowKit
theorem wU(W:Ub)(ty:TypeId)(b o n c:Nat)(s:0<n)(g:W.there b o (n*4)):
  ∃vs:List Uc,vs.length=n*4/\(∀v∈vs,v.oneCell'=true)/\(Builtin.clear_ #[78] ty #[T0 (some ⟨b,o,none⟩) n c]).run prog W=.ok (T4 #[]) (W.setCells b o vs):=by
 have p:∀w,(zeroValue 162).run prog w=.ok (T1 #[TY T6 0,TY T6 0,TY T8 0,TY T8 0]) w:=fun w=>by kernel_rfl
 have e:(Builtin.zeroCells (Value.agg #[TY T6 0,TY T6 0,TY T8 0,TY T8 0]).cells n).toList.length=n*4:=by simp[Builtin.zeroCells,Value.cells]
 have a:∀v∈(Builtin.zeroCells (Value.agg #[TY T6 0,TY T6 0,TY T8 0,TY T8 0]).cells n).toList,v.oneCell'=true:=by
  intro v hv;simp only[Builtin.zeroCells,Value.cells,Array.toList_map,bt]at hv;obtain⟨i,_,rfl⟩:=hv;have r:i % 4<4:=ly _ (by omega);have l:i % 4=0\/i % 4=1\/i % 4=2\/i % 4=3:=by omega
  show(#[Value.int T6 0,TY T6 0,TY T8 0,TY T8 0][i % 4]!).oneCell'=true
  rcases l with h|h|h|h<;>rw[h]<;>rfl
 generalize f:(Builtin.zeroCells (Value.agg #[TY T6 0,TY T6 0,TY T8 0,TY T8 0]).cells n).toList=k at*;refine⟨k,e,a,?_⟩;have d:=run_storeCells_cells (P:=prog) b o k 0 W (fun j q=>by simpa using(g j (by omega)).1) (fun j q=>by simpa using(g j (by omega)).2) a;simp only[cP]at d;obtain⟨m,rfl⟩:∃m,n=m+1:=⟨n - 1,by omega⟩;simp[Builtin.clear_,cJ underlying78,p,f,d]
structure tg(W:Ub)(g:Nat)(d:Array Cd):Prop where
 at_:∀j,j<d.size->W.rangeAt g (j*4) (d[j]!).vals
 there:W.there g 0 (d.size*4)
theorem tg.drew{W:Ub}{g:Nat}{d:Array Cd}(h:tg W g d):tg W.drew g d:=⟨h.at_,h.there⟩
theorem tg.set_{W:Ub}{g:Nat}{d:Array Cd}(h:tg W g d){k:Nat}(l:k<d.size)(x:Cd):tg (W.setCells g (k*4) x.vals) g (d.setIfInBounds k x):=by
 refine⟨fun j a=>?_,?_⟩
 ·rw[QU]at a;by_cases e:j=k
  ·subst e;have c:(d.setIfInBounds j x)[j]! =x:=by simp[a]
   rw[c];exact World.rangeAt_setCells_same W g (j*4) x.vals (fun i f=>by
    have:=h.there (j*4+i) (by rw[Cd.Sn]at f;omega);rwa [cV]at this)
  have c:(d.setIfInBounds k x)[j]! =d[j]! :=by
   have b:k≠j:=fun h=>e h.symm
   simp[Array.getElem!_eq_getD,OP,b]
  rw[c];exact World.rangeAt_setCells_apart (h.at_ j a) g (k*4) x.vals (by rw[Cd.Sn,Cd.Sn];omega)
 rw[QU];exact World.there_setCells h.there g (k*4) x.vals
theorem tg.below{W f:Ub}{B g:Nat}{d:Array Cd}(h:tg W g d)(b:Below B W f)(c:g<B):tg f g d:=
 ⟨fun j a=>od (h.at_ j a) b c,fun j a=>by
   have:=h.there j a;rw[b.cell (p:=⟨g,0+j,none⟩) c];refine⟨this.1,?_⟩;have e:=this.2;simp only[World.frozen?]at e⊢;rw[b.block g c];exact e⟩
theorem l0{a b c:Ub}{row:Option Nat}(h:a.grownBy b row)(k:b.grownBy c row):a.grownBy c row:=
 ⟨k.os.trans h.os,k.tape.trans h.tape,k.output.trans h.output,ax h.size k.size,fun i e d=>(k.block i (bn e h.size) d).trans (h.block i e d)⟩
theorem zp{a b:Ub}(h:aS a b)(row:Option Nat):a.grownBy b row:=⟨h.os,h.tape,h.output,h.size,fun i c _=>h.block i c⟩
theorem Iv(a:Ub)(row:Option Nat):a.grownBy a.drew row:=⟨rfl,rfl,rfl,ae _,fun _ _ _=>rfl⟩
theorem nM(g:Nat):∀(vs:List Uc) (o:Nat) (W:Ub),W.grownBy (W.setCells g o vs) (some g)
 |[],_,W=>cj W _
 |v::r,o,W=>l0 (b:=W.setCell ⟨g,o,none⟩ v) ⟨rfl,rfl,rfl,by simp[World.setCell],fun k c a=>cK W ⟨g,o,none⟩ v k (fun e=>a (by rw[e]))⟩ (nM g r (o+1) _)
def gB(w w':Ub)(g:Nat):Prop:=∀t cs,bK w g t cs->∃a,bK w' g t a
theorem gB.refl(w:Ub)(g:Nat):gB w w g:=fun _ cs h=>⟨cs,h⟩
theorem gB.trans{a b c:Ub}{g:Nat}(h:gB a b g)(k:gB b c g):gB a c g:=fun t cs f=>by
 obtain⟨d,e⟩:=h t cs f;exact k t d e
theorem gB.grows{a b:Ub}{g:Nat}(h:aS a b):gB a b g:=fun t cs c=>⟨cs,c.below h c.lt⟩
theorem gB.drew(a:Ub)(g:Nat):gB a a.drew g:=fun t cs b=>⟨cs,b⟩
theorem gB.setCells(g:Nat):∀(vs:List Uc) (o:Nat) (W:Ub),gB W (W.setCells g o vs) g
 |[],_,W=>gB.refl W g
 |v::r,o,W=>gB.trans (b:=W.setCell ⟨g,o,none⟩ v) (fun t cs a=>⟨_,a.set_ o v⟩) (gB.setCells g r (o+1) _)
def BZ(d:Array Cd)(g cap:Nat)(w:Ub)(e:Ending)(w':Ub):Prop:=
 e=.returned (T0 (some ⟨g,0,none⟩) (Lib.compactUpTo d d.size).length cap)/\(∀j,j<(Lib.compactUpTo d d.size).length->w'.rangeAt g (j*4) ((Lib.compactUpTo d d.size).getD j default).vals)/\w.grownBy w' (some g)/\gB w w' g
theorem Fs(u v:Array Uc)(W:Ub):(eqGuard .eql 162 (.tmp 19) (.tmp 24) (T1 u) (T1 v)).run prog W=.ok () W:=by kernel_rfl
theorem Fu(u v:Array Uc)(W:Ub):(eqGuard .neq 162 (.tmp 38) (.tmp 43) (T1 u) (T1 v)).run prog W=.ok () W:=by kernel_rfl
theorem LU(x y:Cd)(w:Ub):(binOp .eql 162 (T1 #[TY T6 x.arg,TY T6 x.op,TY T8 x.mask,TY T8 x.val]) (T1 #[TY T6 y.arg,TY T6 y.op,TY T8 y.mask,TY T8 y.val])).run prog w=.ok (T2 (decide (x=y))) w:=Fv x y w
theorem LV(x y:Cd)(w:Ub):(binOp .neq 162 (T1 #[TY T6 x.arg,TY T6 x.op,TY T8 x.mask,TY T8 x.val]) (T1 #[TY T6 y.arg,TY T6 y.op,TY T8 y.mask,TY T8 y.val])).run prog w=.ok (T2 (!decide (x=y))) w:=Fw x y w
theorem Oc{d:Array Cd}(h:∀j,j<d.size->Lib.keeps d j=true):(Lib.compactUpTo d d.size).length=d.size/\∀j,j<d.size->(Lib.compactUpTo d d.size).getD j default=d[j]! :=by
 rw[Lib.compactUpTo_all d _ h];refine⟨by simp,fun j a=>?_⟩;rw[aa,cO,List.getElem?_range a];rfl
theorem Iw{d:Array Cd}{g cap:Nat}{w w':Ub}(f:tg w g d)(i:g<w.heap.size)(h:∀j,j<d.size->Lib.keeps d j=true)(b:Below w.heap.size w w'):BZ d g cap w (.returned (T0 (some ⟨g,0,none⟩) d.size cap)) w':=by
 obtain⟨c,e⟩:=Oc h;refine⟨by rw[c],fun j a=>?_,zp b _,gB.grows b⟩;rw[c]at a;rw[e j a];exact(f.below b i).at_ j a
theorem C5(d:Array Cd)(hd:d.size<=100000)(g cap:Nat)(ej:d.size<=cap)(e9:cap<=9223372036854775807)(w:Ub)(hg:g<w.heap.size)(hH:tg w g d):
  Calls prog 135 #[T0 (some ⟨g,0,none⟩) d.size cap] w (BZ d g cap w):=by
 have p:=fun(w':Ub) h hB=>Iw (cap:=cap) (w':=w') hH hg h hB
 generalize hn:d.size=n at*;by_cases R:n<2
 ·have U:=p w (fun j hj=>Lib.keeps_lt_one d j (by omega)) (aw _ _);have ec:(n:Int)<2:=by omega
  obtain⟨a4,HN⟩:=aA U hn;clear U hn;clear hH p;go_enter func135,ntmps135;go_wp2_with fail;go_ret;exact a4.out
 have ec:¬(n:Int)<2:=by omega
 obtain⟨al,HN,HH⟩:=aC p hn hH;clear p hn hH;go_enter func135,ntmps135;go_wp2_with fail;go_loopw [3] (fun s3 wr=>∃k:Nat,1<=k/\k<=n/\s3=TY T6 k/\(∀j,j<k->Lib.keeps d j=true)/\Below w.heap.size w wr) (fun s3 _=>n - (intOf s3).toNat)
 case atStart=>exact⟨1,by omega,by omega,rfl,Lib.keeps_lt_one d,aw _ _⟩
 case round=>
  obtain⟨k,e6,hk,rfl,F,hB⟩:=hrel;by_cases ai:k<n
  ·have c9:(k:Int)<(n:Int):=by omega
   obtain⟨D,dg⟩:∃D:Nat,(k:Int) - 1=(D:Int):=⟨k - 1,by omega⟩;have b7:D<n:=by omega
   have bO:(D:Int)<(n:Int):=by omega
   have c8:IntKind.i64.wrap (D:Int)=(D:Int):=IntWalk.i64_in _ (by omega);have hz:=hB.size;have aE:g<wr.heap.size:=by omega
   have hR:=HH.out.below hB hg;have v:wr.drew.rangeAt g (k*4) (d[k]!).vals:=hR.at_ k (by rw[HN.out];exact ai);have C:wr.drew.rangeAt g (D*4) (d[D]!).vals:=hR.at_ D (by rw[HN.out];exact b7);have t:k - 1=D:=by omega
   have s:¬d[k]! =d[D]! ->Lib.keeps d k=true:=fun h=>Lib.keeps_pos (by rw[t];exact h)
   have u:d[k]! =d[D]! ->Lib.keeps d k=false:=fun h=>Lib.keeps_neg (by omega) (by rw[t];exact h)
   have S:Lib.keeps d k=true->∀j,j<k+1->Lib.keeps d j=true:=fun h j hj=>by
    rcases dB j k with e|e
    ·exact F j e
    obtain rfl:j=k:=by omega
    exact h
   generalize hx:d[k]! =x at*;generalize hy:d[D]! =y at*;have v:wr.drew.rangeAt g (k*4) [TY T6 x.arg,TY T6 x.op,TY T8 x.mask,TY T8 x.val]:=v;have C:wr.drew.rangeAt g (D*4) [TY T6 y.arg,TY T6 y.op,TY T8 y.mask,TY T8 y.val]:=C;have b1:=fun W=>LU x y W
   have c:decide (x=y)=false->Lib.keeps d k=true:=fun h=>s (cA h)
   have l:decide (x=y)=true->Lib.keeps d k=false:=fun h=>u (aN h)
   generalize decide (x=y)=q at*;clear s u t;obtain⟨HX,HY,B,A,b4,a0,HB,d2,HR⟩:=ay hx hy c l F S hB b1 hR;clear hx hy c l F S hB b1 hR;go_wp2_with fail;refine Any.wp_region_kinds eL (nQ [(16,.eq (T0 (some ⟨g,0,none⟩) n cap)),(17,.eq (TY T6 k)),(18,.eq (TZ (some ⟨g,k*4,none⟩))),(19,.eq (T1 #[TY T6 x.arg,TY T6 x.op,TY T8 x.mask,TY T8 x.val])),(20,.eq (T0 (some ⟨g,0,none⟩) n cap)),(21,.eq (TY T6 k)),(22,.eq (TY T6 D)),(23,.eq (TZ (some ⟨g,D*4,none⟩))),(24,.eq (T1 #[TY T6 y.arg,TY T6 y.op,TY T8 y.mask,TY T8 y.val])),(25,.eq (T2 q))]) [16,17,18,19,20,21,22,23,24,25] (by kernel_rfl) (by kernel_rfl) (by kernel_rfl) ⟨?_,?_,?_,?_,?_,?_,?_,?_,?_,?_,trivial⟩ ?_
   ·exact Any.st_was 16 0 (.plain rfl) (by first|exact .inl rfl|exact .inr rfl) rfl (by decide) (rfl)
   ·exact Any.st_was 17 3 (.plain rfl) (by first|exact .inl rfl|exact .inr rfl) rfl (by decide) (rfl)
   ·exact Any.sx_two 18 16 17 _ _ _ (.plain rfl) rfl (by decide) (by decide) rfl rfl (fun a w V R=>by unfold execOp;simp only[V,R];first|(simp[go_sem];done)|(simp[go_sem];omega)|(simp[go_sem, *];done)) rfl
   ·exact Any.sx_load_mid 19 18 _ _ _ _ _ (.plain rfl) rfl rfl (by decide) rfl (by first|assumption|(simp;omega)|omega) (v) underlying162 rfl (by kernel_rfl) rfl
   ·exact Any.st_was 20 0 (.plain rfl) (by first|exact .inl rfl|exact .inr rfl) rfl (by decide) (rfl)
   ·exact Any.st_was 21 3 (.plain rfl) (by first|exact .inl rfl|exact .inr rfl) rfl (by decide) (rfl)
   ·exact Any.sx_one 22 21 _ _ (.plain rfl) rfl (by decide) rfl (fun a w h=>by unfold execOp;simp only[h];first|(simp[go_sem];done)|(simp[go_sem];omega)|(simp[go_sem, *];done)) rfl
   ·exact Any.sx_two 23 20 22 _ _ _ (.plain rfl) rfl (by decide) (by decide) rfl rfl (fun a w V R=>by unfold execOp;simp only[V,R];first|(simp[go_sem];done)|(simp[go_sem];omega)|(simp[go_sem, *];done)) rfl
   ·exact Any.sx_load_mid 24 23 _ _ _ _ _ (.plain rfl) rfl rfl (by decide) rfl (by first|assumption|(simp;omega)|omega) (C) underlying162 rfl (by kernel_rfl) rfl
   ·exact Any.sx_two 25 19 24 _ _ _ (.plain rfl) rfl (by decide) (by decide) rfl rfl (fun a w V R=>by unfold execOp;simp only[V,R,aY,Fs,d2.out,bd];rfl) rfl
   intro f w6 ca r;have be:f 16=T0 (some ⟨g,0,none⟩) n cap:=r 16 rfl;have b2:f 17=TY T6 k:=r 17 rfl;have cf:f 18=TZ (some ⟨g,k*4,none⟩):=r 18 rfl;have bS:f 19=T1 #[TY T6 x.arg,TY T6 x.op,TY T8 x.mask,TY T8 x.val]:=r 19 rfl;have br:f 20=T0 (some ⟨g,0,none⟩) n cap:=r 20 rfl;have b8:f 21=TY T6 k:=r 21 rfl;have ch:f 22=TY T6 D:=r 22 rfl;have cg:f 23=TZ (some ⟨g,D*4,none⟩):=r 23 rfl;have bv:f 24=T1 #[TY T6 y.arg,TY T6 y.op,TY T8 y.mask,TY T8 y.val]:=r 24 rfl;have cl:f 25=T2 q:=r 25 rfl;simp only[Any.fill,bC,bL,aq,aI,aH,bg,bZ,be,b2,cf,bS,br,b8,ch,cg,bv,cl];have J:Below w.heap.size w w6:=HB.out.drew.trans (ca.mono (show w.heap.size<=wr.heap.size by omega));clear r be b2 cf bS br b8 ch cg bv cl ca v C dg c8 bO;cases q with
   |false=>
    have bo:=Lib.hid J;clear J;go_wp2_with fail;go_roundw;case rel=>exact⟨k+1,by omega,by omega,by go_num,a0.out (B.out (by first|rfl|trivial)),bo.out⟩
    case measure=>simp[intOf];omega
   |true=>
    have b6:=HH.out.below J hg;have cs:Lib.CompInv d (k+1) k d:=Lib.CompInv.start b4.out (A.out rfl);have cv:w.grownBy w6 (some g):=zp J _;have cr:gB w w6 g:=gB.grows J;have es:(k:Int)<=(n:Int):=by omega
    have ex:(k:Int)<=(cap:Int):=by omega
    have e3:(n:Int)<=(cap:Int):=by omega
    obtain⟨bo,c7,d4,c3,d5⟩:=aG J b6 cs cv cr;clear J b6 cs cv cr;go_wp2_with fail;clear c9;obtain⟨m,hm⟩:∃m:Nat,n - k=m:=⟨n - k,rfl⟩;obtain⟨cm,a3⟩:∃cm:Nat,cap - k=cm:=⟨cap - k,rfl⟩;rw[hm,a3];have M:k+m=n/\1<=m:=by omega
    have e0:m<=1000000:=by omega
    have e1:n<=1000000:=by omega
    obtain⟨W6,c4⟩:∃W6,W6=wr:=⟨_,rfl⟩;subst c4;clear ai;obtain⟨HM,e8,ba⟩:=aC hm a3 M;clear hm a3 M;go_loopw [3,5] (fun s3 s5 wr=>∃(b i:Nat) (L:Array Cd),s3=TY T6 b/\s5=TY T6 i/\1<=i/\i<=m/\Lib.CompInv d (k+i) b L/\tg wr g L/\w.grownBy wr (some g)/\gB w wr g) (fun _ s5 _=>m - (intOf s5).toNat)
    case atStart=>exact⟨k,1,d,rfl,rfl,by omega,by have:=ba.out;omega,d4.out,c7.out,c3.out,d5.out⟩
    case round=>
     obtain⟨b,i,L,rfl,rfl,eu,et,hI,H,hG,hS⟩:=hrel;have M:=ba.out.1;have bW:L.size=n:=by rw[hI.size,HN.out]
     have bb:=hI.lt;have aE:g<wr.heap.size:=by have:=hG.size;omega
     by_cases ai:i<m
     ·have e4:(i:Int)<(m:Int):=by omega
      obtain⟨z,c6⟩:∃z:Nat,(i:Int) - 1=(z:Int):=⟨i - 1,by omega⟩;have eq:z<m:=by omega
      have bR:(z:Int)<(m:Int):=by omega
      have d9:IntKind.i64.wrap (z:Int)=(z:Int):=IntWalk.i64_in _ (by omega);have cp:L[k+i]! =d[k+i]! :=hI.high _ (by omega);have a9:L[k+z]! =d[k+z]! :=hI.high _ (by omega);have t:k+i - 1=k+z:=by omega
      have v:wr.drew.rangeAt g (k*4+i*4) (d[k+i]!).vals:=by
       have:=H.at_ (k+i) (by omega);rw[cp,Nat.add_mul]at this;exact this
      have C:wr.drew.rangeAt g (k*4+z*4) (d[k+z]!).vals:=by
       have:=H.at_ (k+z) (by omega);rw[a9,Nat.add_mul]at this;exact this
      have s:¬d[k+i]! =d[k+z]! ->Lib.keeps d (k+i)=true:=fun h=>Lib.keeps_pos (by rw[t];exact h)
      have u:d[k+i]! =d[k+z]! ->Lib.keeps d (k+i)=false:=fun h=>Lib.keeps_neg (by omega) (by rw[t];exact h)
      have b3:Lib.keeps d (k+i)=true->Lib.CompInv d (k+(i+1)) (b+1) (L.setIfInBounds b d[k+i]!):=fun h=>hI.keep (by rw[HN.out];omega) h
      have cb:Lib.keeps d (k+i)=false->Lib.CompInv d (k+(i+1)) b L:=fun h=>hI.skip h
      have cn:b<n:=by omega
      have em:(b:Int)<(n:Int):=by omega
      have bp:=fun(W:Ub) (h:tg W g L)=>h.set_ (k:=b) (by omega) d[k+i]!
      generalize hx:d[k+i]! =o at*;generalize hy:d[k+z]! =y1 at*;have v:wr.drew.rangeAt g (k*4+i*4) [TY T6 o.arg,TY T6 o.op,TY T8 o.mask,TY T8 o.val]:=v;have C:wr.drew.rangeAt g (k*4+z*4) [TY T6 y1.arg,TY T6 y1.op,TY T8 y1.mask,TY T8 y1.val]:=C;have ap:=fun W=>LV o y1 W
      have c:decide (o=y1)=false->Lib.keeps d (k+i)=true:=fun h=>s (cA h)
      have l:decide (o=y1)=true->Lib.keeps d (k+i)=false:=fun h=>u (aN h)
      generalize decide (o=y1)=q at*;clear s u t cp a9 M bW bb;obtain⟨HX,HY,B,A,b0,a5,HI,HG,HS⟩:=ay hx hy c l ap H hI hG hS;obtain⟨d7,dd,eh⟩:=aC b3 cb bp;clear hx hy c l ap H hI hG hS b3 cb bp;go_wp2_with fail;refine Any.wp_region_kinds eL (nQ [(35,.eq (T0 (some ⟨g,k*4,none⟩) m cm)),(36,.eq (TY T6 i)),(37,.eq (TZ (some ⟨g,k*4+i*4,none⟩))),(38,.eq (T1 #[TY T6 o.arg,TY T6 o.op,TY T8 o.mask,TY T8 o.val])),(39,.eq (T0 (some ⟨g,k*4,none⟩) m cm)),(40,.eq (TY T6 i)),(41,.eq (TY T6 z)),(42,.eq (TZ (some ⟨g,k*4+z*4,none⟩))),(43,.eq (T1 #[TY T6 y1.arg,TY T6 y1.op,TY T8 y1.mask,TY T8 y1.val])),(44,.eq (T2 (!q)))]) [35,36,37,38,39,40,41,42,43,44] (by kernel_rfl) (by kernel_rfl) (by kernel_rfl) ⟨?_,?_,?_,?_,?_,?_,?_,?_,?_,?_,trivial⟩ ?_
      ·exact Any.st_was 35 4 (.plain rfl) (by first|exact .inl rfl|exact .inr rfl) rfl (by decide) (rfl)
      ·exact Any.st_was 36 5 (.plain rfl) (by first|exact .inl rfl|exact .inr rfl) rfl (by decide) (rfl)
      ·exact Any.sx_two 37 35 36 _ _ _ (.plain rfl) rfl (by decide) (by decide) rfl rfl (fun a w V R=>by unfold execOp;simp only[V,R];first|(simp[go_sem];done)|(simp[go_sem];omega)|(simp[go_sem, *];done)) rfl
      ·exact Any.sx_load_mid 38 37 _ _ _ _ _ (.plain rfl) rfl rfl (by decide) rfl (by first|assumption|(simp;omega)|omega) (v) underlying162 rfl (by kernel_rfl) rfl
      ·exact Any.st_was 39 4 (.plain rfl) (by first|exact .inl rfl|exact .inr rfl) rfl (by decide) (rfl)
      ·exact Any.st_was 40 5 (.plain rfl) (by first|exact .inl rfl|exact .inr rfl) rfl (by decide) (rfl)
      ·exact Any.sx_one 41 40 _ _ (.plain rfl) rfl (by decide) rfl (fun a w h=>by unfold execOp;simp only[h];first|(simp[go_sem];done)|(simp[go_sem];omega)|(simp[go_sem, *];done)) rfl
      ·exact Any.sx_two 42 39 41 _ _ _ (.plain rfl) rfl (by decide) (by decide) rfl rfl (fun a w V R=>by unfold execOp;simp only[V,R];first|(simp[go_sem];done)|(simp[go_sem];omega)|(simp[go_sem, *];done)) rfl
      ·exact Any.sx_load_mid 43 42 _ _ _ _ _ (.plain rfl) rfl rfl (by decide) rfl (by first|assumption|(simp;omega)|omega) (C) underlying162 rfl (by kernel_rfl) rfl
      ·exact Any.sx_two 44 38 43 _ _ _ (.plain rfl) rfl (by decide) (by decide) rfl rfl (fun a w V R=>by unfold execOp;simp only[V,R,aY,Fu,b0.out,bd];rfl) rfl
      intro f Z Y r;have ci:f 35=T0 (some ⟨g,k*4,none⟩) m cm:=r 35 rfl;have a7:f 36=TY T6 i:=r 36 rfl;have bN:f 37=TZ (some ⟨g,k*4+i*4,none⟩):=r 37 rfl;have bm:f 38=T1 #[TY T6 o.arg,TY T6 o.op,TY T8 o.mask,TY T8 o.val]:=r 38 rfl;have bx:f 39=T0 (some ⟨g,k*4,none⟩) m cm:=r 39 rfl;have co:f 40=TY T6 i:=r 40 rfl;have bB:f 41=TY T6 z:=r 41 rfl;have ct:f 42=TZ (some ⟨g,k*4+z*4,none⟩):=r 42 rfl;have bf:f 43=T1 #[TY T6 y1.arg,TY T6 y1.op,TY T8 y1.mask,TY T8 y1.val]:=r 43 rfl;have bl:f 44=T2 (!q):=r 44 rfl;simp only[Any.fill,bC,bL,aq,aI,aH,bg,bZ,ci,a7,bN,bm,bx,co,bB,ct,bf,bl];have ad:tg Z g L:=a5.out.drew.below Y aE;have a1:w.grownBy Z (some g):=l0 (l0 HG.out (Iv _ _)) (zp Y _);have av:gB w Z g:=HS.out.trans ((gB.drew wr g).trans (gB.grows Y));have bA:Z.rangeAt g (k*4+i*4) [TY T6 o.arg,TY T6 o.op,TY T8 o.mask,TY T8 o.val]:=od v Y aE;have cc:Z.there g (b*4) 4:=fun j hj=>by
       have:=ad.there (b*4+j) (by rw[HI.out.size,HN.out];omega);rwa [cV]at this
      have T:=eh.out Z ad;have G:w.grownBy (Z.setCells g (b*4) o.vals) (some g):=l0 a1 (nM g _ _ _);have E:gB w (Z.setCells g (b*4) o.vals) g:=av.trans (gB.setCells g _ _ _);clear r ci a7 bN bm bx co bB ct bf bl Y v C c6 d9 bR;obtain⟨ei,dl,eg,ed,d3,ak,N,O⟩:=aD ad a1 av bA cc T G E;clear ad a1 av bA cc T G E;cases q with
      |true=>
       rw[show(!true)=false from rfl];go_wp2_with fail;go_roundw;case rel=>exact⟨b,i+1,L,rfl,by go_num,by omega,by omega,dd.out (A.out rfl),ei.out,dl.out,eg.out⟩
       case measure=>simp[intOf];omega
      |false=>
       rw[show(!false)=true from rfl];iterate 20 go_step
       refine wpList_load_mid rfl 162 (.tmp 49) rfl g (k*4+i*4) rfl _ _ ed.out underlying162 rfl (by kernel_rfl) ?_;simp only[Act.put,aq,aI,aH];iterate 3 go_step
       refine wpList_store_mid rfl 162 (.tmp 51) (.tmp 50) rfl g (b*4) #[TY T6 o.arg,TY T6 o.op,TY T8 o.mask,TY T8 o.val] rfl rfl d3.out (by kernel_rfl) (by kernel_rfl) ?_;change wpList _ _ _ _ _ (Z.setCells g (b*4) o.vals);have T:=ak.out;have G:=N.out;have E:=O.out;clear ak N O;generalize Z.setCells g (b*4) o.vals=w9 at*;obtain⟨ak,N,O⟩:=aC T G E;clear T G E;go_wp2_with fail;go_roundw;case rel=>exact⟨b+1,i+1,_,by go_num,by go_num,by omega,by omega,d7.out (B.out rfl),ak.out,N.out,O.out⟩
       case measure=>simp[intOf];omega
     obtain rfl:m=i:=by omega
     have b5:Lib.CompInv d n b L:=by rw[<-M];exact hI
     have cn:b<n:=by omega
     have en:(b:Int)<=(n:Int):=by omega
     have ek:(b:Int)<=(cap:Int):=by omega
     have ev:n<=1000000:=by omega
     obtain⟨nk,cd⟩:∃nk:Nat,n - b=nk:=⟨_,rfl⟩;obtain⟨ck,de⟩:∃ck:Nat,cap - b=ck:=⟨_,rfl⟩;have X:0<nk:=by omega
     have ht:wr.there g (b*4) (nk*4):=fun j hj=>by
      have:=H.there (b*4+j) (by omega);rwa [cV]at this
     rw[<-cd]at ht X;clear hI M bW bb ai cd de;obtain⟨a2,a5,HG,HS,HT,cu⟩:=aF b5 H hG hS ht X;clear b5 H hG hS ht X;go_wp2_with fail;obtain⟨vs,dp,_,b9⟩:=wU wr 0 g (b*4) (n - b) (cap - b) cu.out HT.out;have G:=l0 HG.out (nM g vs (b*4) wr);have E:=HS.out.trans (gB.setCells g vs (b*4) wr);have bq:∀j,j<b->(wr.setCells g (b*4) vs).rangeAt g (j*4) (L[j]!).vals:=fun j hj=>World.rangeAt_setCells_apart (a5.out.at_ j (by rw[a2.out.size,HN.out];omega)) g (b*4) vs (by rw[Cd.Sn];omega)
     simp only[b9,bd,Oper.upon];generalize wr.setCells g (b*4) vs=w9 at*;clear dp b9;obtain⟨N,O,d1⟩:=aC G E bq;clear G E bq;go_wp2_with fail;go_ret;have an:=a2.out.len;refine⟨?_,fun j hj=>?_,N.out,O.out⟩
     ·rw[HN.out,an];rfl
     rw[HN.out]at hj⊢;rw[an]at hj;have:=a2.out.low j hj;rw[aa,this];exact d1.out j hj
  obtain rfl:n=k:=by omega
  have U:=al.out _ F hB;have a4:=Lib.hid U;clear U;clear F hB;go_wp2_with fail;go_ret;exact a4.out
theorem zn(w:Ub):TX 135 #[T0 none 0 0] w (T0 none 0 0):=by
 go_enter func135,ntmps135;go_wp2_with fail;go_ret;exact⟨rfl,rfl⟩
theorem zo{w:Ub}{g:Nat}{t:TypeId}{cs:Array Uc}(h:bK w g t cs)(i:Nat):w.cell? ⟨g,i,none⟩=cs[i]? :=h.cell i
theorem Fp{w:Ub}{g:Nat}{cs:Array Uc}{l:List Cd}(c:bK w g 162 cs)(h:∀j,j<l.length->w.rangeAt g (j*4) (l.getD j default).vals):fB w 162 4 (some ⟨g,0,none⟩) l.length (cR l):=by
 refine⟨ju l,fun f=>⟨g,0,cs,(0,0),rfl,c,fun j v hv=>?_⟩⟩;have e:j<l.length*4:=by rw[<-ju];exact(cF.1 hv).1
 have a:j / 4<l.length:=by omega
 have d:=jL Cd.vals 4 Cd.Sn default l (j / 4) (j % 4) a (by omega);rw[show j / 4*4+j % 4=j by omega]at d;have b:(l.getD (j / 4) default).vals[j % 4]? =some v:=by rw[<-d];exact hv
 have:=nt (h (j / 4) a) b;rw[show j / 4*4+j % 4=j by omega,zo c]at this;rw[cV];exact this
theorem Ob{w:Ub}{g n cap:Nat}{l:List Cd}(m:l.length=n){a:Array Uc}(f:w.heap[g]? =some (Ua a 162 (0,0)))(q:n<=cap)(p:a.size=cap*4)(e:a.toList.take (n*4)=cR l):tg w g l.toArray:=by
 have d:bK w g 162 a:=f;refine⟨fun j b=>fun i v hv=>?_,fun j b=>?_⟩
 ·have b:j<l.length:=by simpa using b
  have o:i<4:=by have:=(cF.1 hv).1;rw[Cd.Sn]at this;exact this
  have e1:l.toArray[j]! =l.getD j default:=by
   rw[gF l.toArray j (by simpa using b),aa,ah b];simp
  rw[e1]at hv;have k:=jL Cd.vals 4 Cd.Sn default l j i b o;rw[zo d];have c:j*4+i<n*4:=by omega
  have:(a.toList.take (n*4))[j*4+i]? =some v:=by rw[e];exact k.trans hv
  rw[jC c,gU]at this;exact this
 have b:j<n*4:=by simpa[m]using b
 have c:0+j<a.size:=by omega
 rw[zo d];refine⟨by rw[bF c];rfl,d.frozen _⟩
theorem Fq{B n:Nat}{l:List Cd}(f:l.length=n)(z:n<=100000){v:Uc}(w:Ub)(s:w.ownsRow B 162 4 v n (cR l)):
  Calls prog 135 #[v] w fun e w'=>∃A c,e=.returned (T0 A (dE l).length c)/\fB w' 162 4 A (dE l).length (cR (dE l))/\w.grownBy w' v.ownBlock:=by
 rcases s.2 with⟨rfl,y⟩|⟨g,cap,r,rfl,d,b,k,x,o,q⟩
 ·have:l=[]:=cI (by omega);subst this;refine(zn w).mono ?_;rintro e w' ⟨rfl,rfl⟩;exact⟨none,0,rfl,fB.none_,cj _ _⟩
 have m:=Ob f b k o q;have a:l.toArray.size=n:=by simpa using f
 have:=C5 l.toArray (by omega) g cap (by omega) (by simpa[maxLen]using x) w (dw b) m;rw[a]at this;refine this.mono ?_;rintro e w' ⟨rfl,j,p,t⟩;obtain⟨u,i⟩:=t _ _ b;have e:Lib.compactUpTo l.toArray l.toArray.size=dE l:=by rw[CZ];unfold Lib.compact;rw[a,f]
 rw[e]at j⊢;exact⟨_,cap,rfl,Fp i j,p⟩
def oX(n width:Nat):List Nat:=(List.range width).map fun k=>n / 256 ^ k % 256
theorem Me(n k:Nat):oX n (k+1)=oX n k++[n / 256 ^ k % 256]:=by simp[oX,fI]
theorem gX(n k:Nat):(oX n k).length=k:=by simp[oX]
theorem xr(n k:Nat):∀b∈oX n k,b<256:=fun b a=>by
 obtain⟨j,_,rfl⟩:=bt.1 a;exact ly _ (by omega)
def pM(x:Rc)(i:Nat):List Nat:=oX x.number 4++(oX x.arch 4++(oX x.ptr 8++(x.args.take i).flatMap fun n=>oX n 8))
def pN(x:Rc):List Nat:=pM x 6
theorem Dj(l:List Nat):(l.flatMap fun n=>oX n 8).length=8*l.length:=by
 induction l with
 |nil=>rfl
 |cons n l ih=>rw[cB,bw,ih,gX,aM];omega
theorem qX(x:Rc)(a:x.args.length=6):(pN x).length=64:=by
 unfold pN pM;rw[bw,bw,bw,gX,gX,gX,Dj,bJ,a];omega
theorem FW(x:Rc)(b:x.args.length=6)(i:Nat)(a:i<6):pM x (i+1)=pM x i++oX (x.args.getD i 0) 8:=by
 have e:x.args.take (i+1)=x.args.take i++[x.args.getD i 0]:=by
  rw[dy (by omega)];simp[show i<x.args.length by omega]
 unfold pM;rw[e,bX];simp only[cB,List.flatMap_nil,dL,dz]
theorem PY(x:Rc):∀b∈pN x,b<256:=fun b a=>by
 unfold pN pM at a;simp only[bT,db]at a;rcases a with h|h|h|⟨n,_,h⟩
 ·exact xr _ _ b h
 ·exact xr _ _ b h
 ·exact xr _ _ b h
 exact xr _ _ b h
theorem zD(l:List Nat)(h:l.length=6):∃a0 a1 a2 a3 a b,l=[a0,a1,a2,a3,a,b]:=by
 match l,h with
 |[a0,a1,a2,a3,a,b],_=>exact⟨a0,a1,a2,a3,a,b,rfl⟩
theorem Mf(l:List Nat)(k:Nat)(h:k+4<=l.length):getN l (k:Nat) 4 false=l.getD k 0+256*(l.getD (k+1) 0+256*(l.getD (k+2) 0+256*l.getD (k+3) 0)):=by
 have a:wrongN l.length (k:Nat) 4=0:=by
  unfold wrongN;rw[af (by omega),af (by omega)]
 unfold getN;rw[aj a];show lW (pT l k 4 false)=_
 simp[pT,lW,mc,List.range,List.range.loop];omega
theorem PZ(r:Rc)(h:r.Ok):QX (fun k=>getN (pN r) (k:Nat) 4 false) r:=by
 have C:=qX r h.len;obtain⟨n,a,p,l⟩:=r;obtain⟨a0,a1,a2,a3,e,d,rfl⟩:=zD l h.len;have y:n<4294967296:=h.number;have A:a<4294967296:=h.arch;have hv:=h.args;simp only[aP,bQ,eW,forall_eq_or_imp,forall_eq,eC]at hv;obtain⟨q,t,o,v,s,u⟩:=hv;have word:∀k g b1 j f,k+4<=64->(pN ⟨n,a,p,[a0,a1,a2,a3,e,d]⟩).getD k 0=g->(pN ⟨n,a,p,[a0,a1,a2,a3,e,d]⟩).getD (k+1) 0=b1->(pN ⟨n,a,p,[a0,a1,a2,a3,e,d]⟩).getD (k+2) 0=j->(pN ⟨n,a,p,[a0,a1,a2,a3,e,d]⟩).getD (k+3) 0=f->
   getN (pN ⟨n,a,p,[a0,a1,a2,a3,e,d]⟩) (k:Nat) 4 false=g+256*(b1+256*(j+256*f)):=fun k g b1 j f B e0 e1 e2 z=>by
  rw[Mf _ k (by omega),e0,e1,e2,z]
 have c:∀x:Nat,x / 256 ^ 0 % 256+256*(x / 256 ^ 1 % 256+256*(x / 256 ^ 2 % 256+256*(x / 256 ^ 3 % 256)))=x % 4294967296:=fun x=>by omega
 have b:∀x:Nat,x<=18446744073709551615->x / 256 ^ 4 % 256+256*(x / 256 ^ 5 % 256+256*(x / 256 ^ 6 % 256+256*(x / 256 ^ 7 % 256)))=x / 4294967296:=fun x D=>by omega
 refine⟨?_,?_,fun i m=>?_,fun i m=>?_⟩
 ·show getN _ ((0:Nat):Int) 4 false=n
  exact((word 0 _ _ _ _ (by omega) rfl rfl rfl rfl).trans (c n)).trans (Mm y)
 ·show getN _ ((4:Nat):Int) 4 false=a
  exact((word 4 _ _ _ _ (by omega) rfl rfl rfl rfl).trans (c a)).trans (Mm A)
 ·unfold nV;match i,m with
  |0,_=>exact(word 16 _ _ _ _ (by omega) rfl rfl rfl rfl).trans (c a0)
  |1,_=>exact(word 24 _ _ _ _ (by omega) rfl rfl rfl rfl).trans (c a1)
  |2,_=>exact(word 32 _ _ _ _ (by omega) rfl rfl rfl rfl).trans (c a2)
  |3,_=>exact(word 40 _ _ _ _ (by omega) rfl rfl rfl rfl).trans (c a3)
  |4,_=>exact(word 48 _ _ _ _ (by omega) rfl rfl rfl rfl).trans (c e)
  |5,_=>exact(word 56 _ _ _ _ (by omega) rfl rfl rfl rfl).trans (c d)
 unfold q9;match i,m with
 |0,_=>exact(word 20 _ _ _ _ (by omega) rfl rfl rfl rfl).trans (b a0 q)
 |1,_=>exact(word 28 _ _ _ _ (by omega) rfl rfl rfl rfl).trans (b a1 t)
 |2,_=>exact(word 36 _ _ _ _ (by omega) rfl rfl rfl rfl).trans (b a2 o)
 |3,_=>exact(word 44 _ _ _ _ (by omega) rfl rfl rfl rfl).trans (b a3 v)
 |4,_=>exact(word 52 _ _ _ _ (by omega) rfl rfl rfl rfl).trans (b e s)
 |5,_=>exact(word 60 _ _ _ _ (by omega) rfl rfl rfl rfl).trans (b d u)
theorem OI{w:Ub}{B B':Nat}{e:TypeId}{size n:Nat}{v:Uc}{xs:List Uc}(h:w.ownsRow B e size v n xs)(d:B'<=B):w.ownsRow B' e size v n xs:=
 ⟨h.1,h.2.imp id fun⟨g,cap,c,a,b,r⟩=>⟨g,cap,c,a,ax d b,r⟩⟩
theorem Dl{B:Nat}{w a:Ub}(h:Below B w.drew a):Below B w a:=⟨h.os,h.tape,h.output,h.size,h.block⟩
theorem Mg(N:Nat)(n:N<18446744073709551616)(width:Nat)(y:width<=8)(w:Ub):
  Calls prog 62 #[TY T8 N,TY T6 width] w (kz (oX N width) w):=by
 obtain⟨i0,g,f,j,l⟩:=cZ xp;go_enter func62,ntmps62;go_wp2_with fail;go_loopw [0,5,6] (fun nv v i wr=>∃k:Nat,k<=width/\i=TY T6 k/\nv=TY T8 ((N / 256 ^ k:Nat):Int)/\wr.ownsRow w.heap.size 5 1 v k (dN (oX N k))/\Below w.heap.size w wr) (fun _ _ i _=>width - (intOf i).toNat)
 case atStart=>exact⟨0,by omega,rfl,by simp,aX _ _ _ _,aw _ _⟩
 case round=>
  obtain⟨k,u,rfl,rfl,b,m⟩:=hrel;by_cases o:k<width
  ·have a:=Me N k;have c:N / 256 ^ (k+1)=N / 256 ^ k / 256:=by rw[Nat.pow_succ,Nat.div_div_eq_div_mul]
   have t:N / 256 ^ k<18446744073709551616:=fF (xw _ _) n;generalize N / 256 ^ k=x at*;obtain⟨q,r⟩:=aA a c;clear a c n;go_wp2_with (at_builtin;refine fo rfl (.tmp 12) (.tmp 16) 37 rfl w.heap.size 5 i0 _ 1 1 underlying37 g f j l rfl (by omega) _ _ _ _ rfl b _ 1 1 rfl _ rfl rfl (by simp[Value.oneCell']) (by simp only[maxLen];omega) (by omega) m.size ?_;intro v' s d e p);go_roundw;case rel=>
    refine⟨k+1,by omega,by go_num,by rw[r.out];simp,?_,m.trans e⟩;rw[q.out,j7];simpa[dN]using d
   case measure=>simp[intOf]<;>omega
  obtain rfl:k=width:=by omega
  clear n;go_wp2_with fail;go_ret;refine⟨_,rfl,?_,m⟩;rw[gX];exact b
theorem qY(N:Nat)(d:N<18446744073709551616)(width:Nat)(b:width<=8)(w:Ub):
  Calls prog 24 #[TY T8 N,TY T6 width,T2 false] w (kz (oX N width) w):=by
 go_enter func24,ntmps24;go_wp2_with fail;refine(Mg N d width b w).mono ?_;rintro e f ⟨v,rfl,a,c⟩;go_wp2_with fail;go_ret;exact⟨_,rfl,a,c⟩
theorem I3(x:Rc)(hx:x.Ok)(w:Ub):Calls prog 11 #[CF x,T2 false] w (kz (pN x) w):=by
 obtain⟨i0,X,S,Y,U⟩:=cZ xp;obtain⟨o1,o2,o3,o4,o5⟩:=hx;unfold eC at o3 o5;have ai:∀n,(dN (oX n 4)).length=4:=fun n=>by rw[fP,gX]
 obtain⟨a0,a1,a2,a3,a4,a5,ha⟩:=zD x.args o4;have M:CF x=T1 #[TY T7 x.number,TY T7 x.arch,TY T8 x.ptr,TY T8 a0,TY T8 a1,TY T8 a2,TY T8 a3,TY T8 a4,TY T8 a5]:=by
  unfold CF;rw[ha];rfl
 have f:∀k,k<6->(#[TY T7 x.number,TY T7 x.arch,TY T8 x.ptr,TY T8 a0,TY T8 a1,TY T8 a2,TY T8 a3,TY T8 a4,TY T8 a5]:Array Uc)[3+k]? =some (TY T8 (x.args.getD k 0:Nat)):=fun k F=>by
  rw[ha];match k,F with
  |0,_=>rfl
  |1,_=>rfl
  |2,_=>rfl
  |3,_=>rfl
  |4,_=>rfl
  |5,_=>rfl
 have l:∀k,k<6->x.args.getD k 0<18446744073709551616:=fun k F=>fF (o5 _ (by
  have:x.args.getD k 0=x.args[k]'(by omega):=by simp[show k<x.args.length by omega]
  rw[this];exact bj _)) (by omega)
 rw[M];obtain⟨HA,HC,H5,H6,HP⟩:=aG ha f l o4 ai;clear ha M o5 f l o4 ai;go_enter func11,ntmps11;go_wp2_with fail;have b0:=bK.new w 32 #[TY T7 x.number,TY T7 x.arch,TY T8 x.ptr,TY T8 a0,TY T8 a1,TY T8 a2,TY T8 a3,TY T8 a4,TY T8 a5];have V:Below w.heap.size w (w.alloc (Ua #[TY T7 x.number,TY T7 x.arch,TY T8 x.ptr,TY T8 a0,TY T8 a1,TY T8 a2,TY T8 a3,TY T8 a4,TY T8 a5] 32)):=(aw _ w).alloc (ae _) _;generalize w.alloc (Ua _ 32)=w0 at*;have c0:=b0.cell 0;have c1:=b0.cell 1;have c2:=b0.cell 2;have o:=b0.lt;have bk:IntKind.u64.wrap (x.number:Int)=(x.number:Int):=by simp[IntKind.wrap,IntKind.bits,IntKind.signed];omega
 have be:IntKind.u64.wrap (x.arch:Int)=(x.arch:Int):=by simp[IntKind.wrap,IntKind.bits,IntKind.signed];omega
 have r4:∀N:Nat,N<18446744073709551616->∀W,Calls prog 24 #[TY T8 N,TY T6 4,T2 false] W (kz (oX N 4) W):=fun N h W=>qY N h 4 (by omega) W
 have R4:=Lib.hid r4;clear r4;go_region_held3 (fun w'=>w'.cell? ⟨w.heap.size,0,none⟩=some (TY T7 x.number)/\w'.cell? ⟨w.heap.size,1,none⟩=some (TY T7 x.arch))
  (first
    |go_keep
    |(go_split_ands
      refine⟨?_,?_⟩<;>exact ke (p:=⟨w.heap.size,_,none⟩) a o (by assumption))
    |(go_split_ands
      refine⟨?_,?_⟩<;>exact ke (p:=⟨w.heap.size,_,none⟩) m (bn o a.size) (by assumption))
    |(go_split_ands
      refine⟨?_,?_⟩<;>exact(T.cell_far _ (bn o (ax a.size m.size)) (fun e=>by have:=(b.lt _ e.symm).1;have h9:w0.heap.size<=w.heap.size:=this;omega)).trans (by assumption)))
  (first
    |(have hguard:=a
      go_at_call 24
      with_reducible refine(R4.out x.arch (by omega) _).mono ?_
      rintro e w2 ⟨v2,rfl,t,m⟩;rw[gX]at t;obtain⟨A2,d2,rfl,ad⟩:=cX t;have b:=cC m A)
    |(fail_if_success (have hguard:=a)
      go_at_call 24
      with_reducible refine(R4.out x.number (by omega) _).mono ?_
      rintro e w1 ⟨v1,rfl,A,a⟩;rw[gX]at A)
    |(refine wL _ (by rfl) (.tmp 11) (.tmp 16) 37 (by rfl) w0.heap.size 5 i0 _ 1 1 underlying37 X S Y U rfl (by omega) v1 4 _ (by rfl) b _ A2 4 d2 _ (by rfl) ad (pw _) (by simp only[maxLen];omega) (by omega) (ax a.size m.size) ?_
      intro v3 w3 s T al))
 have C:Below w0.heap.size w0 w2:=(Dl a).trans (m.mono a.size);have O:Below w0.heap.size w0 w3:=C.grown T C.size (fun k F=>(b.lt k F).1);have b3:=b0.below O o;rw[<-j7]at s;have q:=V.trans (O.mono V.size);have B:=OI s V.size;have bO:w.heap.size<w3.heap.size:=b3.lt;clear T al b t ad A a hguard m C O s c0 c1 c2 b0 o bk be;have c2:=b3.cell 2;go_wp2_with fail;refine(qY x.ptr (by omega) 8 (by omega) _).mono ?_;rintro e w4 ⟨v4,rfl,u,G⟩;rw[gX]at u;obtain⟨A4,d4,rfl,av⟩:=cX u;have c:=cC G B;have b4:=b3.below G b3.lt;have j:=q.trans (G.mono q.size);clear B u G b3 q c2;go_wp2_with (at_builtin;refine cU _ rfl (.tmp 18) (.tmp 22) 37 rfl w.heap.size 5 i0 _ 1 1 underlying37 X S Y U rfl (by omega) v3 8 _ rfl c _ A4 8 d4 _ rfl av (pw _) (by simp only[maxLen];omega) (by omega) j.size ?_;intro v5 w5 g Z ar);have r:=j.grown Z j.size (fun k F=>(c.lt k F).1);have b5:=b4.grown Z (cY c b4 (by decide)).symm;have a6:oX x.number 4++oX x.arch 4++oX x.ptr 8=pM x 0:=by unfold pM;simp
 rw[<-j7,a6]at g;have bl:8+8=16:=rfl;clear Z ar c b4 j av a6 bl;generalize hR:(#[TY T7 x.number,TY T7 x.arch,TY T8 x.ptr,TY T8 a0,TY T8 a1,TY T8 a2,TY T8 a3,TY T8 a4,TY T8 a5]:Array Uc)=R at b5 HC;have HR:=Lib.hid hR;clear hR;go_loopw [5,6] (fun v i wr=>∃k:Nat,k<=6/\i=TY T6 k/\wr.ownsRow w.heap.size 5 1 v (16+8*k) (dN (pM x k))/\bK wr w.heap.size 32 R/\Below w.heap.size w wr) (fun _ i _=>6 - (intOf i).toNat)
 case atStart=>exact⟨0,by omega,rfl,g,b5,r⟩
 case round=>
  obtain⟨k,F,rfl,z,hb,hB⟩:=hrel;by_cases l:k<6
  ·have hc:wr.cell? ⟨w.heap.size,3+k,none⟩=some (TY T8 (x.args.getD k 0:Nat)):=(hb.cell (3+k)).trans (HC.out k l);have hn:=H5.out k l;have y:=FW x H6.out k l;generalize x.args.getD k 0=n at*;have HS:=Lib.hid y;have z0:(0:Int)<=(k:Int):=by omega
   have z1:(k:Int)<6:=by omega
   clear y g b5 r;go_wp2_with fail;refine(qY n hn 8 (by omega) _).mono ?_;rintro e w6 ⟨v6,rfl,E,H⟩;rw[gX]at E;obtain⟨A6,d6,rfl,bm⟩:=cX E;have d:=cC H z;have am:=hb.below H hb.lt;have D:=hB.trans (H.mono hB.size);clear z E H hb hB hc;go_wp2_with (at_builtin;refine cU _ rfl (.tmp 28) (.tmp 34) 37 rfl w.heap.size 5 i0 _ 1 1 underlying37 X S Y U rfl (by omega) _ (16+8*k) _ rfl d _ A6 8 d6 _ rfl bm (pw _) (by simp only[maxLen];omega) (by omega) D.size ?_;intro v7 w7 L ak bN);have aE:=D.grown ak D.size (fun k F=>(d.lt k F).1);have bq:=am.grown ak (cY d am (by decide)).symm;rw[<-j7,<-HS.out]at L;go_roundw;case rel=>exact⟨k+1,by omega,by go_num,by rw[show 16+8*(k+1)=16+8*k+8 by omega];exact L,bq,aE⟩
   case measure=>simp[intOf]<;>omega
  obtain rfl:k=6:=by omega
  have J:=qX x H6.out;have HL:=Lib.hid J;clear J g b5 r;go_wp2_with fail;go_ret;exact⟨_,rfl,by rw[HL.out];exact z,hB⟩
theorem OM:(prog.info? 82).map (fun i=>(i.zero,i.size,i.bytes))=some (some (T1 #[.string ⟨#[]⟩,TY T6 0,TY T6 0,TY T6 0,TY T6 0,TY T6 0,TY T6 0,TY T6 0]),8,72):=by kernel_rfl
def tw(l:List Rw):List Uc:=l.flatMap Rw.vals
theorem Rw.Sn{r:Rw}(h:r.nums.length=5):r.vals.length=8:=by simp[Rw.vals,h]
theorem AB(a b:List Rw):tw (a++b)=tw a++tw b:=by unfold tw;rw[bX]
theorem eX.of_flat{α:Type}[Inhabited α]{w:Ub}{B size n:Nat}(c:0<size){E:α->List Uc->Prop}(f:α->List Uc){A:Option Addr}{l:List α}(h:bh w B size A n (l.flatMap f))(b:∀x∈l,(f x).length=size/\E x (f x))(d:n=l.length):eX w B size E A l:=by
 refine eX.Sy c (vss:=l.map f) (by rw[<-vG];exact h) (by simp) (fun k a=>?_) d;have e:(l.map f).getD k []=f (l.getD k default):=by
  rw[aa,cO,aa,ah a];rfl
 rw[e];exact b _ (by rw[aa,ah a];exact bj a)
def ON(l:List Rw)(w:Ub)(e:Ending)(w':Ub):Prop:=∃a b,e=.returned (T0 a l.length b)/\jv w' w'.heap.size a l/\Below w.heap.size w w'
theorem OO(l:List Rw)(W:∀r∈l,r.nums.length=5)(A:Option Addr)(c:Nat)(hn:l.length<=100000)(w:Ub)(hr:jv w w.heap.size A l):
  Calls prog 8 #[T0 A l.length c] w (ON l w):=by
 obtain⟨i0,N,H,S,L⟩:=cZ OM;generalize Y:l.length=n at*;obtain⟨s,U⟩:=aA Y W;clear Y W;go_enter func8,ntmps8;go_wp2_with fail;go_loopw [3,4] (fun v i wr=>∃k:Nat,k<=n/\i=TY T6 k/\wr.ownsRow w.heap.size 82 8 v k (tw (l.take k))/\Below w.heap.size w wr) (fun _ i _=>n - (intOf i).toNat)
 case atStart=>exact⟨0,by omega,rfl,aX _ _ _ _,aw _ _⟩
 case round=>
  obtain⟨k,hk,rfl,d,D⟩:=hrel;by_cases p:k<n
  ·obtain⟨b,f,h1,hb,o⟩:=eX.at_ (hr.below D) (k:=k) (by rw[s.out];exact p);obtain⟨vs,R,z,a⟩:=o;have J:vs=(l.getD k default).vals:=z;have y:=U.out _ (gu (l:=l) (k:=k) (by rw[s.out];exact p));have B:=nA l k (by rw[s.out];exact p);generalize l.getD k default=x at*;obtain⟨E,nums,F,T⟩:=x;simp only at y;match nums,y with
   |[a0,a1,a2,a3,M],_=>
   subst J h1;have f0:=a 0 _ rfl;have f1:=a 1 _ rfl;have f2:=a 2 _ rfl;have f3:=a 3 _ rfl;have f4:=a 4 _ rfl;have f5:=a 5 _ rfl;have f6:=a 6 _ rfl;have f7:=a 7 _ rfl;rw[cP]at f0;have O:=Lib.hid B;clear B;clear a z R;go_wp2_with fail;have X:(0:Int)<=(k:Int):=F4 _;have Z:(k:Int)<(n:Int):=by omega
   have ag:u3.ownBlock≠some b:=fun e=>by have:=(d.lt b e).1;omega
   have G:=D.size;go_region_held3 (fun w'=>w'.cell? ⟨b,f+k*8,none⟩=some (.string E)/\w'.cell? ⟨b,f+k*8+1,none⟩=some (TY T6 a0)/\w'.cell? ⟨b,f+k*8+2,none⟩=some (TY T6 a1)/\w'.cell? ⟨b,f+k*8+3,none⟩=some (TY T6 a2)/\w'.cell? ⟨b,f+k*8+4,none⟩=some (TY T6 a3)/\w'.cell? ⟨b,f+k*8+5,none⟩=some (TY T6 M)/\w'.cell? ⟨b,f+k*8+6,none⟩=some (TY T6 F)/\w'.cell? ⟨b,f+k*8+7,none⟩=some (TY T6 T))
    (first
      |go_keep
      |(go_split_ands
        refine⟨?_,?_,?_,?_,?_,?_,?_,?_⟩<;>(rw[g.cell_far _ (by simp;omega) (kn ag)];assumption)))
    ((refine p6 _ (by rfl) _ _ _ (by rfl) w.heap.size 82 i0 _ 8 72 underlying48 N H S L rfl (by omega) u3 k (tw (l.take k)) (by rfl) ((d.alloc _).drew)
       ⟨wr.heap.size,0,none⟩ 1 1 [.string E,TY T6 a0,TY T6 a1,TY T6 a2,TY T6 a3,TY T6 M,TY T6 F,TY T6 T] (by rfl) (by rfl) (mz (cs:=#[.string E,TY T6 a0,TY T6 a1,TY T6 a2,TY T6 a3,TY T6 M,TY T6 F,TY T6 T]) (t:=82) (fr:=(0,0)) (cq wr _)) (by simp[Value.oneCell'])
       (by omega) (by simp only[maxLen];omega) (by omega) (by simp;omega) (wr.heap.size+1) (by simp) ?_;intro gg cap w1 q g am V))
   go_wp2_with fail;go_roundw
   case rel=>
    refine⟨k+1,by omega,by go_num,?_,Gz D G g d⟩;rw[O.out,AB];simpa[tw,Rw.vals]using q
   case measure=>simp[intOf];omega
  obtain rfl:n=k:=by omega
  have m:l.take n=l:=bI (by rw[s.out];exact ae _);rw[m]at d;obtain⟨A4,c4,rfl,C⟩:=cX d;have j:jv wr wr.heap.size A4 l:=eX.of_flat (by omega) Rw.vals C (fun x hx=>⟨Rw.Sn (U.out x hx),rfl⟩) s.out.symm;have u:=Lib.hid j;clear j;clear hr d m C;go_wp2_with fail;go_ret;exact⟨A4,c4,by rw[s.out];rfl,u.out,D⟩
def pO(p:Po):Bool:=decide (p.rules.length<=40)&&p.rules.all fun r=>decide (r.name.size<=60)&&decide (r.conds.length<=12)
def F0(l:List Rw):Bool:=decide (l.length<=40)&&l.all fun r=>decide (r.name.size<=60)
theorem zH{α:Type}[Inhabited α]{l:List α}{f:α->Bool}:∀k,k<=l.length->(∀j,j<k->f (l.getD j default)=true)->l.all f=(l.drop k).all f
 |0,_,_=>rfl
 |k+1,a,h=>by
  rw[zH k (by omega) fun j b=>h j (by omega),rJ (show k<l.length by omega),fg,h k (by omega),il]
theorem P5(l:List Rw)(D:∀r∈l,r.nums.length=5)(A:Option Addr)(c:Nat)(w:Ub)(N:jv w w.heap.size A l)(p:∀r∈l,r.name.size<=maxLen)(M:l.length<=maxLen):
  TW 5 #[T0 A l.length c] w (T2 (F0 l)):=by
 unfold maxLen at p M;have a:=zH (l:=l) (f:=fun r=>decide (r.name.size<=60));unfold F0;generalize O:l.all (fun r=>decide (r.name.size<=60))=V at*;generalize E:l.length=n at*;obtain⟨v,H,s,x⟩:=aB E D a p;clear E D a p;clear O;by_cases q:n<=40
 ·have g:decide (n<=40)=true:=bM q;rw[g,il];clear g;go_enter func5,ntmps5;go_wp2_with fail;go_loop [3] (fun i=>∃k:Nat,k<=n/\i=TY T6 k/\∀j,j<k->decide ((l.getD j default).name.size<=60)=true) (fun i=>n - (intOf i).toNat)
  case atStart=>exact⟨0,by omega,rfl,fun j G=>absurd G (by omega)⟩
  case round=>
   obtain⟨k,J,rfl,m⟩:=hrel;have a:=s.out k J m;have B:=Lib.hid m;clear m;by_cases o:k<n
   ·obtain⟨b,L,rfl,S,R,_⟩:=N.at_ H.out (k:=k) (by rw[v.out];exact o);have u:=rJ (l:=l) (k:=k) (by rw[v.out];exact o);have T:=x.out _ (gu (l:=l) (k:=k) (by rw[v.out];exact o));rw[u,fg]at a;generalize t:(l.getD k default).name=z at*;have C:=Lib.hid t;clear t;by_cases F:z.size<=60
    ·have d:decide (z.size<=60)=true:=bM F;rw[d,il]at a;obtain⟨U,s,y⟩:=aC u a d;clear u a d;go_wp2_with fail;go_round;case rel=>exact⟨k+1,by omega,by go_num,fun j G=>if e:j=k then by rw[e,C.out];exact y.out else B.out j (by omega)⟩
     case measure=>simp[intOf];omega
    have d:decide (z.size<=60)=false:=aK F;rw[d,lx]at a;subst a;clear d u;go_wp2_with fail;go_ret;exact⟨rfl,rfl⟩
   obtain rfl:n=k:=by omega
   rw[iQ (by rw[v.out];exact ae _)]at a;simp only[Ji]at a;subst a;go_wp2_with fail;go_ret;exact⟨rfl,rfl⟩
 have g:decide (n<=40)=false:=aK q;rw[g,lx];clear g;go_enter func5,ntmps5;go_wp2_with fail;go_ret;exact⟨rfl,rfl⟩
theorem Mj(p:Po)(A:Option Addr)(c:Nat)(w:Ub)(O:eI w w.heap.size A p.rules)(q:∀r∈p.rules,r.name.size<=maxLen/\r.conds.length<=maxLen)(W:p.rules.length<=maxLen):
  TV 4 #[nu p A c] w (T2 (pO p)):=by
 unfold maxLen at q W;obtain⟨pk,pn,px,l⟩:=p;unfold nu pO;simp only at O q W⊢;have a:=zH (l:=l) (f:=fun r=>decide (r.name.size<=60)&&decide (r.conds.length<=12));generalize hV:l.all (fun r=>decide (r.name.size<=60)&&decide (r.conds.length<=12))=V at*;generalize X:l.length=n at*;have S:=(aw w.heap.size w).alloc (ae _) (Ua #[TY T6 pk,TY T6 pn,T2 px,T0 A n c] 26);have v:=O.below S;obtain⟨E,C,G,D,H⟩:=aG X a q S v;clear X a q S v;clear hV O;by_cases y:n<=40
 ·have o:decide (n<=40)=true:=bM y;rw[o,il];clear o;go_enter func4,ntmps4;go_wp2_with fail;go_loop [3] (fun i=>∃k:Nat,k<=n/\i=TY T6 k/\∀j,j<k->(decide ((l.getD j default).name.size<=60)&&decide ((l.getD j default).conds.length<=12))=true) (fun i=>n - (intOf i).toNat)
  case atStart=>exact⟨0,by omega,rfl,fun j Z=>absurd Z (by omega)⟩
  case round=>
   obtain⟨k,hk,rfl,t⟩:=hrel;have a:=C.out k hk t;have J:=Lib.hid t;clear t;by_cases u:k<n
   ·obtain⟨b,an,A',c',rfl,hb,h0,_,_,h3,_⟩:=H.out.at_ (k:=k) (by rw[E.out];exact u);have F:=rJ (l:=l) (k:=k) (by rw[E.out];exact u);obtain⟨M,N⟩:=G.out _ (gu (l:=l) (k:=k) (by rw[E.out];exact u));rw[F,fg]at a;generalize z:l.getD k default=x at*;obtain⟨s,_,_,cs⟩:=x;simp only at h0 h3 M N a;generalize B:cs.length=m at*;obtain⟨HD,L,R⟩:=aC F z B;clear F z B;by_cases Y:s.size<=60
    ·have d:decide (s.size<=60)=true:=bM Y;have ad:(s.size:Int)<=60:=by omega
     by_cases T:m<=12
     ·have g:decide (m<=12)=true:=bM T;rw[d,g,il,il]at a;have U:(decide (s.size<=60)&&decide (m<=12))=true:=by rw[d,g];rfl
      obtain⟨C,H8⟩:=aA a U;clear a U;clear d g;have e1:decide (60<s.size)=false:=aK (by omega);have e2:decide (12<m)=false:=aK (by omega);go_wp2_with fail;go_round;case rel=>exact⟨k+1,by omega,by go_num,fun j Z=>if e:j=k then by rw[e,L.out];have:=H8.out;rw[<-R.out]at this;exact this else J.out j (by omega)⟩
      case measure=>simp[intOf];omega
     have g:decide (m<=12)=false:=aK T;rw[g,P7,lx]at a;subst a;clear d g;have e1:decide (60<s.size)=false:=aK (by omega);have e2:decide (12<m)=true:=bM (by omega);go_wp2_with fail;go_ret;exact⟨rfl,D.out⟩
    have d:decide (s.size<=60)=false:=aK Y;rw[d,lx,lx]at a;subst a;clear d;have e1:decide (60<s.size)=true:=bM (by omega);go_wp2_with fail;go_ret;exact⟨rfl,D.out⟩
   obtain rfl:n=k:=by omega
   rw[iQ (by rw[E.out];exact ae _)]at a;simp only[Ji]at a;subst a;go_wp2_with fail;go_ret;exact⟨rfl,D.out⟩
 have o:decide (n<=40)=false:=aK y;rw[o,lx];clear o;go_enter func4,ntmps4;go_wp2_with fail;go_ret;exact⟨rfl,D.out⟩
end
end Go.Proofs.YtfammloeljmplaaGreatDoor
