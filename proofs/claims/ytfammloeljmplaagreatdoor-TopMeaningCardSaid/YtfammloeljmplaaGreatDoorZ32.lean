/- Sorting in plain Lean; conditions: each lemma's own. -/
import Derived.Shelf.SlSortCmp.WholeK
import Derived.Test.YtfammloeljmplaaGreatDoorZ19
import Derived.Test.YtfammloeljmplaaGreatDoorZ31
import Derived.Test.YtfammloeljmplaaGreatDoorZ4
open Go.Value renaming int->TY,agg->T1,tuple->T4
open Go.IntKind renaming i64->T6
open Go.Obj renaming cells->Ua
open Go renaming World->Ub,Value->Uc
namespace Go.Proofs.YtfammloeljmplaaGreatDoor
set_option maxRecDepth 100000
set_option maxHeartbeats 8000000
set_option linter.unusedVariables false
set_option linter.unusedSimpArgs false
section
open Go.RowKit Go.Sort Go.Shelf
theorem Ny{w w':Ub}(h:Below w.heap.size w w')(g:w.drawn<=w'.drawn):∃q os,w'=Go.Sort.grow (w.drewN q) os:=by
 refine⟨w'.drawn - w.drawn,w'.heap.extract w.heap.size w'.heap.size,?_⟩;obtain⟨b,d,a,e,c⟩:=w';have e1:e=w.os:=h.os;have e2:d=w.tape:=h.tape;have n:c=w.output:=h.output;have r:w.heap.size<=b.size:=h.size;have j:∀k,k<w.heap.size->b[k]? =w.heap[k]? :=h.block;have o:w.drawn<=a:=g;subst e1 e2 n;have p:b=w.heap++b.extract w.heap.size b.size:=by
  apply F3
  intro k;by_cases f:k<w.heap.size
  ·rw[Array.getElem?_append_left f];exact j k f
  rw[Array.getElem?_append_right (by omega),Array.getElem?_extract];by_cases i:k<b.size
  ·rw[aj (by omega)];congr 1;omega
  rw[af (by omega),gD (by omega)]
 have m:w.drawn+(a - w.drawn)=a:=by omega
 have l:w.drewN (a - w.drawn)={w with drawn:=w.drawn+(a - w.drawn)}:=rfl;rw[l,m];simp only[Go.Sort.grow];congr 1
def qE{α:Type}(P:Program)(g:Nat)(a:Array Uc)(enc:α->List Uc)(b:α->α->Int):Prop:=
 ∀(x y:α) (W:Ub),Calls P g (#[T1 (enc x).toArray,T1 (enc y).toArray]++a) W fun e w'=>e=.returned (TY T6 (b x y))/\Below W.heap.size W w'/\W.drawn<=w'.drawn
section
variable {P:Program} {ρ:Ren} {α:Type} [Inhabited α]
theorem yC(enc:α->List Uc)(k:Nat)(f:∀x,(enc x).length=k)(j:0<k)(l:List α):(flatK enc k l.toArray).toList=l.flatMap enc:=by
 have c:(l.flatMap enc).length=l.length*k:=by
  induction l with
  |nil=>simp
  |cons x t ih=>rw[cB,bw,f,ih,aM,gE];omega
 apply Sl
 intro t;by_cases e:t<l.length*k
 ·have m:(flatK enc k l.toArray).toList[t]? =some ((flatK enc k l.toArray)[t]!):=by
    rw[gU];have i:t<(flatK enc k l.toArray).size:=by rw[size_flatK];simpa using e
    rw[gF (flatK enc k l.toArray) t i,bF i]
  rw[m,get_flatK enc k l.toArray t (by simpa using e)];have a:t / k<l.length:=Nat.div_lt_of_lt_mul (by rwa [Jf]at e);have b:t % k<k:=ly _ j;have g:=jL enc k f default l (t / k) (t % k) a b;rw[Jf,Nat.div_add_mod]at g;rw[g];have e1:l.toArray[t / k]! =l.getD (t / k) default:=by
   rw[gF l.toArray (t / k) (by simpa using a),aa,ah a];simp
  rw[e1];have d:t % k<(enc (l.getD (t / k) default)).length:=by rw[f];exact b
  rw[gF (enc (l.getD (t / k) default)) (t % k) d,ah d]
 rw[kN (by rw[dW,size_flatK];simpa using e),kN (by rw[c];omega)]
theorem rF(L:SlLaysF0.n6 P ρ)(k:Nat)(k0:0<k)(aE:∀w,(isAgg (ρ.t 24)).run P w=.ok true w)(zE:∀w,(Go.sizeOf (ρ.t 24)).run P w=.ok k w)(enc:α->List Uc)(U:∀x,(enc x).length=k)(h1:∀x,∀v∈enc x,v.oneCell'=true)(C:α->α->Int)(hO:SWO (ltOf C))(g:Nat)(N:Array Uc)
  (eg:∀args w,(callFunc g args).run P w=.ok (.enter g args) w)(D:qE P g N enc C)(l:List α)(n:Nat)(hn:l.length=n)(a9:n<=1000000){B:Nat}{e:TypeId}{v:Uc}(W:Ub)(ho:W.ownsRow B e k v n (l.flatMap enc)):
  Calls P (ρ.f 6) #[v,.func (.func g) #[] N] W fun M w'=>M=.returned (T4 #[])/\∃S:List α,S.Perm l/\(S.Pairwise fun x y=>¬C y x<0)/\w'.ownsRow B e k v n (S.flatMap enc)/\W.grownBy w' v.ownBlock:=by
 subst hn;rcases ho.2 with⟨rfl,J⟩|⟨b,cap,c,rfl,hb,G,J,h3,h4,h5⟩
 ·have hl:l=[]:=cI J;subst hl;refine(AnyF.slices_SortFunc_none (P:=P) (ρ:=ρ) L none 0 _ W).mono ?_;rintro M w' ⟨rfl,rfl⟩;exact⟨rfl,[],P8 _,List.Pairwise.nil,ho,cj _ _⟩
 have V:=yC enc k U k0 l;have d:(flatK enc k l.toArray).size=l.length*k:=by rw[size_flatK];simp
 have al:l.length*k<=c.size:=by rw[h4];exact AE k J
 have hH:HoldsK enc k W b 0 l.toArray:=fun j o=>by
  rw[d]at o;refine⟨?_,by simp[World.frozen?,G]⟩;have e1:c[j]? =some ((flatK enc k l.toArray)[j]!):=by
   have q:(c.toList.take (l.length*k))[j]? =(l.flatMap enc)[j]? :=by rw[h5]
   rw[jC o,gU]at q;rw[q,<-V,gU];have H:j<(flatK enc k l.toArray).size:=by rw[d];exact o
   rw[gF (flatK enc k l.toArray) j H,bF H]
  simp only[World.cell?,G,cV];simpa using e1
 have r:b<W.heap.size:=dw G;have ad:CmpLays P g N enc k C b 0 l.toArray.size W:=fun m os dk F x y=>by
  refine(D x y _).mono ?_;rintro M w' ⟨rfl,hB,ab⟩;obtain⟨q,R,e1⟩:=Ny hB ab;exact⟨rfl,q,R,e1⟩
 have:=AnyQ.slices_SortFunc (P:=P) (ρ:=ρ) L k aE zE enc U h1 C hO g N b 0 cap l.toArray W eg ad hH r (by simp;omega);rw[show l.toArray.size=l.length by simp]at this;refine this.mono ?_;rintro M w' ⟨rfl,a,m,os,⟨Y,a3,A⟩,H,rfl⟩;have F:a.size=l.length:=by rw[Y];simp
 have ed:a=a.toList.toArray:=by simp
 have f:=yC enc k U k0 a.toList;rw[<-ed]at f;have E:a.extract 0 l.length=a:=by rw[<-F];simp
 have u:l.toArray.extract 0 l.length=l.toArray:=by
  have:l.length=l.toArray.size:=by simp
  rw[this,Array.extract_size]
 rw[E,u]at A;have t:W.grownBy (sortWorldK enc k W b 0 m a os) (some b):=by
  refine⟨rfl,rfl,rfl,?_,fun j o O=>?_⟩
  ·unfold sortWorldK putRowK;simp[Go.Sort.grow,putRow,mapBlock]
  unfold sortWorldK putRowK;rw[heap_grow_old _ _ (by simpa using o)];have:b≠j:=fun e=>O (by rw[e])
  simp[putRow,mapBlock,Sort.ahead,oI,this]
 refine⟨rfl,a.toList,by simpa using A,?_,?_,t⟩
 ·rw[gP];intro i j hi o T;have Z:j<a.size:=by simpa using o
  have:=H i j (iS _) T (by omega);unfold ltOf at this;have q:=cA this;rw[gF a j Z,gF a i (by omega)]at q;simpa using q
 have p:(sortWorldK enc k W b 0 m a os).heap[b]? =some (Ua (putCells id 0 (flatK enc k a) c) e (0,0)):=by
  unfold sortWorldK putRowK;rw[heap_grow_old _ _ (by simpa using r)];simp[putRow,mapBlock,Sort.ahead,oI,G,onCells]
 have s:(a.toList.flatMap enc).length=l.length*k:=by rw[<-f,dW,size_flatK,F]
 refine⟨s,.inr ⟨b,cap,_,rfl,hb,p,J,h3,by simp[putCells,h4],?_⟩⟩;rw[<-f];apply Sl;intro j;by_cases o:j<l.length*k
 ·rw[jC o,gU,gU];have z:j<(flatK enc k a).size:=by rw[size_flatK,F];exact o
  have X:j<c.size:=by omega
  simp only[putCells,Array.getElem?_mapIdx,bF X,fX,bF z];rw[aj ⟨iS _,by omega⟩,Jh,gF (flatK enc k a) j z];rfl
 rw[List.getElem?_take_eq_none (by omega),kN (by rw[dW,size_flatK,F];omega)]
end
end
section
theorem pH(x y:Int):(x<y/\fT x y= -1)\/(x=y/\fT x y=0)\/(y<x/\fT x y=1):=by
 unfold fT;rcases Int.lt_trichotomy x y with h|h|h
 ·exact .inl ⟨h,by rw[aj h]⟩
 ·exact .inr (.inl ⟨h,by rw[af (by omega),af (by omega)]⟩)
 exact .inr (.inr ⟨h,by rw[af (by omega),aj h]⟩)
theorem pI(a b:Cd):tS a b<0↔a.arg<b.arg\/(a.arg=b.arg/\(a.op<b.op\/(a.op=b.op/\(a.mask<b.mask\/(a.mask=b.mask/\a.val<b.val))))):=by
 unfold tS;rcases pH a.arg b.arg with⟨g,e1⟩|⟨g,e1⟩|⟨g,e1⟩
 ·rw[e1,aj (by decide)];constructor<;>intro h<;>omega
 ·rcases pH a.op b.op with⟨e,e2⟩|⟨e,e2⟩|⟨e,e2⟩
  ·rw[e1,af (by decide),e2,aj (by decide)];constructor<;>intro h<;>omega
  ·rcases pH a.mask b.mask with⟨i,c⟩|⟨i,c⟩|⟨i,c⟩
   ·rw[e1,af (by decide),e2,af (by decide),c,aj (by decide)];constructor<;>intro h<;>omega
   ·rcases pH a.val b.val with⟨f,d⟩|⟨f,d⟩|⟨f,d⟩<;>
     (rw[e1,af (by decide),e2,af (by decide),c,af (by decide),d];constructor<;>intro h<;>omega)
   rw[e1,af (by decide),e2,af (by decide),c,aj (by decide)];constructor<;>intro h<;>omega
  rw[e1,af (by decide),e2,aj (by decide)];constructor<;>intro h<;>omega
 rw[e1,aj (by decide)];constructor<;>intro h<;>omega
theorem Oa:Go.Sort.SWO (Go.Proofs.ltOf tS) where
 irrefl x:=by
  unfold Go.Proofs.ltOf;refine aK fun h=>?_
  rw[pI]at h;omega
 trans x y z a b:=by
  unfold Go.Proofs.ltOf at*;have a:=aN a;have b:=aN b;refine bM ?_;rw[pI]at*;omega
 ntrans x y z a b:=by
  unfold Go.Proofs.ltOf at*;have a:=cA a;have b:=cA b;refine aK ?_;rw[pI]at*;omega
theorem LN{a b:Cd}(d:¬tS b a<0)(c:¬tS a b<0):a=b:=by
 rw[pI]at d c;obtain⟨a1,a2,a3,e⟩:=a;obtain⟨b1,f,i,g⟩:=b;simp only at d c;obtain rfl:a1=b1:=by omega
 obtain rfl:a2=f:=by omega
 obtain rfl:a3=i:=by omega
 obtain rfl:e=g:=by omega
 rfl
theorem BV{α:Type}{R:α->α->Prop}(c:∀a b,R a b->R b a->a=b):∀{l d:List α},l.Perm d->l.Pairwise R->d.Pairwise R->l=d
 |[],d,h,_,_=>(List.Perm.nil_eq h)
 |a::t,[],h,_,_=>absurd h.length_eq (by simp)
 |a::t,b::j,h,g,f=>by
  rw[Sh]at g f;have i:a=b:=by
   rcases aP.1 (h.mem_iff.1 (show a∈a::t by simp))with e|e
   ·exact e
   rcases aP.1 (h.mem_iff.2 (show b∈b::j by simp))with e2|e2
   ·exact e2.symm
   exact c a b (g.1 b e2) (f.1 a e)
  subst i;rw[BV c ((List.perm_cons a).1 h) g.2 f.2]
theorem Ir{l d:List Cd}(h:d.Perm l)(g:d.Pairwise fun x y=>¬tS y x<0):d=j9 l:=by
 refine BV (R:=fun x y=>¬tS y x<0) (fun a b f e=>LN f e) (h.trans (gK l _).symm) g ?_;have:=QZ (le:=fun x y:Cd=> !decide (tS y x<0)) (fun a b c f e=>by
  simp only[fm,dh]at*;rw[pI]at*;omega) (fun a b=>by
  simp only[df,fm,dh];rw[pI,pI];omega) l
 exact this.imp fun h=>by simpa using h
end
end Go.Proofs.YtfammloeljmplaaGreatDoor
