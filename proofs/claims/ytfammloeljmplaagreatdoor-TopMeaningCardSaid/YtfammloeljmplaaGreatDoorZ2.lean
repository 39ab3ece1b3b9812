/- Lookups and puts in maps; conditions: each lemma's own. -/
import Derived.Carry
import Derived.ChangeMaps4
import Derived.Laws.AppendOwn
import Derived.Laws.Entries
import Derived.MapKept
import Derived.Maps.Own
import Derived.Test.YtfammloeljmplaaGreatDoorZ1
import Derived.WalkKit
open Go.Value renaming int->TY,bool->T2,tuple->T4
open Go.IntKind renaming i64->T6
open Go renaming World->Ub,Value->Uc
namespace Go.Proofs.YtfammloeljmplaaGreatDoor
set_option maxRecDepth 100000
set_option maxHeartbeats 8000000
set_option linter.unusedVariables false
set_option linter.unusedSimpArgs false
section
open Go.RowKit
namespace IntMaps
variable {P:Program}
def entry(q:IntKind)(p:(Int×Uc)×Nat):MapEntry:={key:=TY q p.1.1,val:=p.1.2,born:=p.2}
def lit(q:IntKind)(l:List (Int×Uc)):Array MapEntry:=(l.zipIdx.map (entry q)).toArray
def look(l:List (Int×Uc))(k:Int):Option Uc:=(l.find? (fun p=>p.1==k)).map (·.2)
theorem lit_push(q:IntKind)(l:List (Int×Uc))(k:Int)(v:Uc):(lit q l).push {key:=TY q k,val:=v,born:=l.length}=lit q (l++[(k,v)]):=by
 unfold lit;rw[dJ,List.zipIdx_append];simp[entry]
theorem findNow_lit(q:IntKind)(k:Int):∀(l:List (Int×Uc)) (i j:Nat),∃r,Instr.findNow (.int q) (TY q k) ((l.zipIdx j).map (entry q)) i=some r/\r.map (·.2)=look l k:=by
 intro l;induction l with
 |nil=>intro i j;exact⟨none,rfl,rfl⟩
 |cons p l ih=>
  intro i j;by_cases h:p.1=k
  ·refine⟨some (i,p.2),?_,?_⟩
   ·simp[eH,Instr.findNow,Instr.sameNow,entry,h]
   simp[look,h]
  obtain⟨r,c,b⟩:=ih (i+1) (j+1);refine⟨r,?_,?_⟩
  ·have a:(k==p.1)=false:=by simp;exact fun e=>h e.symm
   simp only[eH,aJ,Instr.findNow,entry,Instr.sameNow,lN,a];exact c
  rw[b];have a:(p.1==k)=false:=by simpa using h
  simp[look,a]
theorem run_insert(t c n:TypeId)(q:IntKind)(j:P.underlying t=some (.map c n))(b:P.underlying c=some (.int q))(w:Ub)(l:List (Int×Uc))(k:Int)(v:Uc)(o:(Lit.int q k).wf=true)(y:look l k=none):
  (Instr.mapUpdate t (.map (some w.heap.size)) (TY q k) v).run P (w.alloc (.map (lit q l) l.length))=.ok () (w.alloc (.map (lit q (l++[(k,v)])) (l++[(k,v)]).length)):=by
 obtain⟨r,m,g⟩:=findNow_lit q k l 0 0;rw[y]at g;have u:r=none:=by cases r<;>simp_all
 subst u;have f:(w.alloc (.map (lit q l) l.length)).heap[w.heap.size]? =some (.map (lit q l) l.length):=cq w _;have s:(Instr.findKey c (TY q k) (lit q l).toList).run P (w.alloc (.map (lit q l) l.length))=.ok none (w.alloc (.map (lit q l) l.length)):=by
  have d:Instr.findNow (.int q) (TY q k) (lit q l).toList 0=some none:=by simpa[lit]using m
  simp[Instr.findKey,cJ b,d,Result.andThen]
 have z:=(Maps.int_keyed b).check (w.alloc (.map (lit q l) l.length)) false (Maps.keyOf_int_mk b o);have a:ChangeMaps.setBlock (w.alloc (.map (lit q l) l.length)) w.heap.size (.map (lit q (l++[(k,v)])) (l.length+1))=w.alloc (.map (lit q (l++[(k,v)])) (l.length+1)):=by
  have p:(w.heap.push (.map (lit q l) l.length)).setIfInBounds w.heap.size (.map (lit q (l++[(k,v)])) (l.length+1))=w.heap.push (.map (lit q (l++[(k,v)])) (l.length+1)):=by
   apply F3
   intro i;rw[OP,R9,R9];by_cases h:w.heap.size=i
   ·subst h;simp
   rw[af h,af (fun e=>h e.symm),af (fun e=>h e.symm)]
  exact eQ (fun h=>({w with heap:=h}:Ub)) p
 have x:(setObj w.heap.size (.map (lit q (l++[(k,v)])) (l.length+1))).run P (w.alloc (.map (lit q l) l.length))=.ok () (w.alloc (.map (lit q (l++[(k,v)])) (l.length+1))):=by
  rw[zL _ f];exact eQ _ a
 simp only[Instr.mapUpdate,aY,cJ j,Result.andThen,eV f,z,s,lit_push,bw,aM,bD];exact x
theorem run_lookup(t c g:TypeId)(q:IntKind)(e:P.underlying t=some (.map c g))(a:P.underlying c=some (.int q))(w:Ub)(r:Nat)(l:List (Int×Uc))(n:Nat)(k:Int)(z:Uc)
  (u:(Lit.int q k).wf=true)(s:(zeroValue g).run P w=.ok z w)(f:w.heap[r]? =some (.map (lit q l) n)):
  (Instr.lookup t (.map (some r)) (TY q k) true).run P w=.ok (T4 #[(look l k).getD z,T2 (look l k).isSome]) w:=by
 obtain⟨x,o,m⟩:=findNow_lit q k l 0 0;have i:(Instr.findKey c (TY q k) (lit q l).toList).run P w=.ok x w:=by
  have d:Instr.findNow (.int q) (TY q k) (lit q l).toList 0=some x:=by simpa[lit]using o
  simp[Instr.findKey,cJ a,d,Result.andThen]
 have j:=fun b=>(Maps.int_keyed a).check w b (Maps.keyOf_int_mk a u)
 rw[<-m];cases x with
 |none=>simp[Instr.lookup,cJ e,eV f,j,i,s,Result.andThen]
 |some p=>simp[Instr.lookup,cJ e,eV f,j,i,Result.andThen]
theorem wpList_insert{b:Array Oper}{rest:List Oper}{o:Oper}{a:Act}{Q:Exit->Act->Ub->Prop}(c:o.guard=none)(t:TypeId)(m:Operand)(q:IntKind)(k:Int)(v:Uc)
  (n:o.op=.insert t m (.const (TY q k)) (.const v))(d e:TypeId)(f:P.underlying t=some (.map d e))(g:P.underlying d=some (.int q))(w:Ub)(l:List (Int×Uc))
  (j:(Lit.int q k).wf=true)(s:a.eval m=.map (some w.heap.size))(r:look l k=none)
  (h:wpList P b Q rest (a.put o.dst undef) (w.alloc (.map (lit q (l++[(k,v)])) (l++[(k,v)]).length))):
  wpList P b Q (o::rest) a (w.alloc (.map (lit q l) l.length)):=by
 refine jG c fun K i=>?_
 have p:=run_insert (P:=P) t d e q f g w l k v j r;have e1:a.eval (.const (TY q k))=TY q k:=rfl;have e2:a.eval (.const v)=v:=rfl;unfold Oper.wp execOp;simp only[n,s,e1,e2,aY,p,Result.andThen];exact i _ _ h
theorem wpList_make{b:Array Oper}{rest:List Oper}{o:Oper}{a:Act}{Q:Exit->Act->Ub->Prop}(c:o.guard=none)(t:TypeId)(d:o.op=.makeMap t none)(q:IntKind)(w:Ub)
  (h:wpList P b Q rest (a.put o.dst (.map (some w.heap.size))) (w.alloc (.map (lit q []) ([]:List (Int×Uc)).length))):wpList P b Q (o::rest) a w:=by
 refine jG c fun K f=>?_
 have e:=run_makeMap (P:=P) t w;unfold Oper.wp execOp;simp only[d,OR,aY,e,Result.andThen];exact f _ _ h
theorem wpList_lookup{c:Array Oper}{rest:List Oper}{o:Oper}{a:Act}{Q:Exit->Act->Ub->Prop}(d:o.guard=none)(t:TypeId)(m x:Operand)(y:o.op=.lookup t m x true)(e f:TypeId)(q:IntKind)
  (i:P.underlying t=some (.map e f))(p:P.underlying e=some (.int q))(w:Ub)(r:Nat)(l:List (Int×Uc))(n:Nat)(k:Int)(z:Uc)(b:Option Uc)
  (C:a.eval m=.map (some r))(B:a.eval x=TY q k)(v:(Lit.int q k).wf=true)(u:∀w,(zeroValue f).run P w=.ok z w)(j:w.heap[r]? =some (.map (lit q l) n))(A:look l k=b)
  (h:wpList P c Q rest (a.put o.dst (T4 #[b.getD z,T2 b.isSome])) w):wpList P c Q (o::rest) a w:=by
 refine jG d fun K s=>?_
 have g:=run_lookup (P:=P) t e f q i p w r l n k z v (u w) j;rw[A]at g;unfold Oper.wp execOp;simp only[y,C,B,aY,g,Result.andThen];exact s _ _ h
end IntMaps
namespace GMap
variable {P:Program} {κ:Type} [DecidableEq κ]
def entry(enc:κ->Uc)(p:(κ×Uc)×Nat):MapEntry:={key:=enc p.1.1,val:=p.1.2,born:=p.2}
def lit(enc:κ->Uc)(l:List (κ×Uc)):Array MapEntry:=(l.zipIdx.map (entry enc)).toArray
def look(l:List (κ×Uc))(k:κ):Option Uc:=(l.find? (fun p=>decide (p.1=k))).map (·.2)
def put:List (κ×Uc)->κ->Uc->List (κ×Uc)
 |[],k,v=>[(k,v)]
 |p::t,k,v=>if p.1=k then(k,v)::t else p::put t k v
theorem look_put(l:List (κ×Uc))(k:κ)(v:Uc)(j:κ):look (put l k v) j=if k=j then some v else look l j:=by
 induction l with
 |nil=>
  unfold put look;by_cases h:k=j<;>simp[h]
 |cons p t ih=>
  unfold put;by_cases a:p.1=k
  ·rw[aj a];unfold look;rw[cG,cG];by_cases h:k=j
   ·simp[h]
   have:¬p.1=j:=fun e=>h (a▸e)
   simp[h,this]
  rw[af a];unfold look at ih⊢;rw[cG,cG];by_cases h:p.1=j
  ·have:¬k=j:=fun e=>a (h.trans e.symm)
   simp[h,this]
  simp only[aK h];exact ih
theorem keys_put{l:List (κ×Uc)}{k:κ}{v:Uc}{j:κ}:j∈(put l k v).map (·.1)↔j=k\/j∈l.map (·.1):=by
 induction l with
 |nil=>simp[put]
 |cons p t ih=>
  unfold put;by_cases a:p.1=k
  ·rw[aj a];simp only[aJ,aP];constructor
   ·rintro(h|h)
    ·exact .inl h
    exact .inr (.inr h)
   rintro(h|h|h)
   ·exact .inl h
   ·exact .inl (h.trans a)
   exact .inr h
  rw[af a];simp only[aJ,aP];rw[ih];constructor
  ·rintro(h|h|h)
   ·exact .inr (.inl h)
   ·exact .inl h
   exact .inr (.inr h)
  rintro(h|h|h)
  ·exact .inr (.inl h)
  ·exact .inl h
  exact .inr (.inr h)
theorem nodup_put{l:List (κ×Uc)}{k:κ}{v:Uc}(h:(l.map (·.1)).Nodup):((put l k v).map (·.1)).Nodup:=by
 induction l with
 |nil=>simp[put]
 |cons p t ih=>
  rw[aJ,iG]at h;unfold put;by_cases a:p.1=k
  ·rw[aj a,aJ,iG];subst a;exact⟨h.1,h.2⟩
  rw[af a,aJ,iG];refine⟨fun b=>?_,ih h.2⟩;rcases keys_put.1 b with e|e
  ·exact a e
  exact h.1 e
theorem put_length(l:List (κ×Uc))(k:κ)(v:Uc):(put l k v).length<=l.length+1:=by
 induction l with
 |nil=>simp[put]
 |cons p t ih=>
  unfold put;split
  ·simp
  simp;omega
theorem look_none{l:List (κ×Uc)}{k:κ}:look l k=none↔k∉l.map (·.1):=by
 unfold look;rw[Option.map_eq_none_iff,dQ];constructor
 ·intro h b;obtain⟨p,a,e⟩:=bt.1 b;exact h p a (bM e)
 intro h p a e;exact h (bt.2 ⟨p,a,aN e⟩)
structure Keys(P:Program)(kt:TypeId)(enc:κ->Uc):Prop where
 check:∀(k:κ) (b:Bool) (w:Ub),(Instr.checkKey b 10000 kt (enc k)).run P w=.ok () w
 same:∀k:κ,Instr.sameBits 10000 (enc k) (enc k)=true
 find:∀(k:κ) (w:Ub) (l:List (κ×Uc)) (j:Nat),(Instr.findKey kt (enc k) ((l.zipIdx j).map (entry enc))).run P w=.ok ((l.zipIdx.find? (fun p=>decide (p.1.1=k))).map fun p=>(p.2,p.1.2)) w
omit [DecidableEq κ]in
theorem lit_toList(enc:κ->Uc)(l:List (κ×Uc)):(lit enc l).toList=l.zipIdx.map (entry enc):=by simp[lit]
theorem find_zip(l:List (κ×Uc))(k:κ)(n:Nat):((l.zipIdx n).find? (fun p=>decide (p.1.1=k))).map (fun p=>p.1.2)=look l k:=by
 unfold look;induction l generalizing n with
 |nil=>rfl
 |cons p t ih=>
  rw[eH,cG,cG];by_cases h:p.1=k
  ·simp[h]
  simp only[aK h];exact ih (n+1)
theorem lit_put(enc:κ->Uc)(k:κ)(v:Uc):∀(l:List (κ×Uc)) (n:Nat),(((put l k v).zipIdx n).map (entry enc))=
  match(l.zipIdx n).find? (fun p=>decide (p.1.1=k))with
  |some p=>((l.zipIdx n).map (entry enc)).modify (p.2 - n) (fun e=>{e with key:=enc k,val:=v})
  |none=>(l.zipIdx n).map (entry enc)++[{key:=enc k,val:=v,born:=n+l.length}]
 |[],n=>rfl
 |p::t,n=>by
  unfold put;rw[eH,cG];by_cases h:p.1=k
  ·rw[aj h];simp only[bM h,Jg];rw[eH,aJ,aJ,List.modify_zero_cons];subst h;rfl
  rw[af h];simp only[aK h];have ih:=lit_put enc k v t (n+1);rw[eH,aJ,ih];cases e:(t.zipIdx (n+1)).find? (fun p=>decide (p.1.1=k))with
  |none=>simp only[aJ,dA,aM];rw[show n+1+t.length=n+(t.length+1)by omega]
  |some q=>
   have b:n+1<=q.2:=by
    have a:=dj e;obtain⟨c,d⟩:=q;exact(List.le_snd_of_mem_zipIdx a)
   simp only[aJ];rw[show q.2 - n=(q.2 - (n+1))+1 by omega,List.modify_succ_cons]
def Row(W:Ub)(r:Nat)(enc:κ->Uc)(l:List (κ×Uc)):Prop:=W.heap[r]? =some (.map (lit enc l) l.length)
section
variable {W W':Ub} {r:Nat} {enc:κ->Uc} {l:List (κ×Uc)}
omit [DecidableEq κ]in
theorem Row.lt(h:Row W r enc l):r<W.heap.size:=(aL.1 h).1
omit [DecidableEq κ]in
theorem Row.of_heap(h:Row W r enc l)(e:W'.heap[r]? =W.heap[r]?):Row W' r enc l:=e.trans h
omit [DecidableEq κ]in
theorem Row.below{B:Nat}(h:Row W r enc l)(a:Below B W W')(b:r<B):Row W' r enc l:=h.of_heap (a.block r b)
omit [DecidableEq κ]in
theorem Row.alloc(h:Row W r enc l)(o:Obj):Row (W.alloc o) r enc l:=h.of_heap (iN W o r h.lt)
omit [DecidableEq κ]in
theorem Row.drew(h:Row W r enc l):Row W.drew r enc l:=h
omit [DecidableEq κ]in
theorem Row.setCell(h:Row W r enc l){p:Addr}(a:r≠p.block)(u:Uc):Row (W.setCell p u) r enc l:=h.of_heap (cK W p u r a)
omit [DecidableEq κ]in
theorem Row.grown{row:Option Nat}(h:Row W r enc l)(b:W.grownBy W' row)(a:some r≠row):Row W' r enc l:=h.of_heap (b.block r h.lt a)
omit [DecidableEq κ]in
theorem Row.new(w:Ub)(enc:κ->Uc):Row (w.alloc (.map #[] 0)) w.heap.size enc []:=cq w _
end
theorem find_lit{a:TypeId}{enc:κ->Uc}(b:Keys P a enc)(l:List (κ×Uc))(k:κ)(W:Ub):
  (Instr.findKey a (enc k) (lit enc l).toList).run P W=.ok ((l.zipIdx.find? (fun p=>decide (p.1.1=k))).map fun p=>(p.2,p.1.2)) W:=by
 rw[lit_toList];exact b.find k W l 0
theorem run_look{W:Ub}{r:Nat}{g:TypeId}{enc:κ->Uc}{l:List (κ×Uc)}(h:Row W r enc l)(f:Keys P g enc)(t i:TypeId)(d:P.underlying t=some (.map g i))(k:κ)(z:Uc)(m:(zeroValue i).run P W=.ok z W):
  (Instr.lookup t (.map (some r)) (enc k) false).run P W=.ok ((look l k).getD z) W:=by
 have c:=find_lit f l k W;have j:=fun b=>f.check k b W
 have a:=find_zip l k 0;unfold Row at h;cases e:l.zipIdx.find? (fun p=>decide (p.1.1=k))with
 |none=>
  rw[e]at c a;rw[<-a];simp[Instr.lookup,cJ d,eV h,j,c,m,Result.andThen]
 |some p=>
  rw[e]at c a;rw[<-a];simp[Instr.lookup,cJ d,eV h,j,c,Result.andThen]
theorem run_put{W:Ub}{r:Nat}{x:TypeId}{enc:κ->Uc}{l:List (κ×Uc)}(h:Row W r enc l)(s:Keys P x enc)(t C:TypeId)(u:P.underlying t=some (.map x C))(k:κ)(v:Uc):
  ∃W',(Instr.mapUpdate t (.map (some r)) (enc k) v).run P W=.ok () W'/\Row W' r enc (put l k v)/\W.grownBy W' (some r):=by
 have m:=find_lit s l k W;have y:=s.check k false W;have a:=lit_put enc k v l 0;have b:=fun o=>zL (P:=P) o (show W.heap[r]? =some (.map (lit enc l) l.length) from h)
 refine⟨{W with heap:=W.heap.setIfInBounds r (.map (lit enc (put l k v)) (put l k v).length)},?_,?_,?_⟩
 ·have c:=eV (P:=P) (show W.heap[r]? =some (.map (lit enc l) l.length) from h);have d:(put l k v).length=((put l k v).zipIdx.map (entry enc)).length:=by simp
  cases e:l.zipIdx.find? (fun p=>decide (p.1.1=k))with
  |none=>
   rw[e]at m a;simp only[cV]at a;have e1:lit enc (put l k v)=(lit enc l).push {key:=enc k,val:=v,born:=l.length}:=by
    unfold lit;rw[a,dJ]
   have e2:(put l k v).length=l.length+1:=by rw[d,a];simp
   rw[e1,e2];simp only[Instr.mapUpdate,aY,cJ u,Result.andThen,c,y,m,OR];exact b _
  |some p=>
   rw[e]at m a;simp only[Jh]at a;have D:=kE e;have f:=aN D;have g:=dj e;obtain⟨⟨n,z⟩,i⟩:=p;simp only at f a;subst f;have j:(lit enc l)[i]? =some (entry enc ((n,z),i)):=by
    unfold lit;rw[ao,cO];have:=List.mem_zipIdx_iff_getElem?.1 g;simp only at this;rw[List.getElem?_zipIdx,this];simp
   have e1:lit enc (put l n v)=(lit enc l).modify i (fun e=>{e with key:=enc n,val:=v}):=by
    unfold lit;rw[a];simp
   have e2:(put l n v).length=l.length:=by rw[d,a];simp
   rw[e1,e2];simp only[Instr.mapUpdate,aY,cJ u,Result.andThen,c,y,m,fX,j,entry,jX,Instr.keyThatStays,s.same,lN,jF];exact b _
 ·unfold Row;simp[h.lt]
 refine⟨rfl,rfl,rfl,by simp,fun B A q=>?_⟩;show(W.heap.setIfInBounds r _)[B]? =_
 rw[aW (fun e=>q (by rw[e]))]
theorem wpList_put{b:Array Oper}{rest:List Oper}{o:Oper}{a:Act}{Q:Exit->Act->Ub->Prop}{W:Ub}(c:o.guard=none)(t:TypeId)(m x y:Operand)(q:o.op=.mapUpdate t m x y){e:TypeId}(f:TypeId){enc:κ->Uc}(j:Keys P e enc)(i:P.underlying t=some (.map e f))
  (r:Nat)(l:List (κ×Uc))(k:κ)(v:Uc)(A:a.eval m=.map (some r))(z:a.eval x=enc k)(s:a.eval y=v)(h:Row W r enc l)
  (n:∀W',Row W' r enc (put l k v)->W.grownBy W' (some r)->wpList P b Q rest (a.put o.dst undef) W'):wpList P b Q (o::rest) a W:=by
 refine jG c fun K d=>?_
 obtain⟨W',u,p,g⟩:=run_put (P:=P) h j t f i k v;unfold Oper.wp execOp;simp only[q,A,z,s,aY,u,Result.andThen];exact d _ _ (n W' p g)
theorem keys_int(d:TypeId)(q:IntKind)(c:P.underlying d=some (.int q)):Keys P d (fun n:Int=>Value.int q n) where
 check k b w:=by
  generalize a:(10000:Nat)=n;cases n with
  |zero=>cases a
  |succ n=>simp[Instr.checkKey,cJ c,Result.andThen]
 same k:=by
  generalize a:(10000:Nat)=n;cases n with
  |zero=>cases a
  |succ n=>simp[Instr.sameBits]
 find k w l j:=by
  have key:∀(l:List (Int×Uc)) (i j:Nat),Instr.findNow (.int q) (TY q k) ((l.zipIdx j).map (entry fun n:Int=>Value.int q n)) i=some (((l.zipIdx i).find? (fun p=>decide (p.1.1=k))).map fun p=>(p.2,p.1.2)):=by
   intro l;induction l with
   |nil=>intro i j;rfl
   |cons p t ih=>
    intro i j;rw[eH,eH,aJ,cG];simp only[Instr.findNow,entry,Instr.sameNow,lN];by_cases h:p.1=k
    ·subst h;simp
    have f:(k==p.1)=false:=Dq.2 fun e=>h e.symm
    rw[f,aK h];exact ih (i+1) (j+1)
  simp[Instr.findKey,cJ c,key l 0 j,Result.andThen]
theorem keys_str(d:TypeId)(c:P.underlying d=some .string):Keys P d Value.string where
 check k b w:=by
  generalize a:(10000:Nat)=n;cases n with
  |zero=>cases a
  |succ n=>simp[Instr.checkKey,cJ c,Result.andThen]
 same k:=by
  generalize a:(10000:Nat)=n;cases n with
  |zero=>cases a
  |succ n=>exact(Mu _ _).2 rfl
 find k w l j:=by
  have key:∀(l:List (ByteArray×Uc)) (i j:Nat),Instr.findNow .string (.string k) ((l.zipIdx j).map (entry Value.string)) i=some (((l.zipIdx i).find? (fun p=>decide (p.1.1=k))).map fun p=>(p.2,p.1.2)):=by
   intro l;induction l with
   |nil=>intro i j;rfl
   |cons p t ih=>
    intro i j;rw[eH,eH,aJ,cG];simp only[Instr.findNow,entry,Instr.sameNow];by_cases h:p.1=k
    ·subst h;rw[(Mu _ _).2 rfl];simp
    have e:(k==p.1)=false:=by
     cases f:k==p.1 with
     |false=>rfl
     |true=>exact absurd ((Mu _ _).1 f).symm h
    rw[e,aK h];exact ih (i+1) (j+1)
  simp[Instr.findKey,cJ c,key l 0 j,Result.andThen]
theorem keys_asked(c:TypeId)(enc:κ->Uc)(d:TypeDesc)(e:P.underlying c=some d)(f:∀x y,Instr.sameNow d (enc x) (enc y)=none)(check:∀(k:κ) (b:Bool) (w:Ub),(Instr.checkKey b 10000 c (enc k)).run P w=.ok () w)(same:∀k:κ,Instr.sameBits 10000 (enc k) (enc k)=true)
  (g:∀(x y:κ) (w:Ub),(Op.equal c (enc x) (enc y)).run P w=.ok (decide (y=x)) w):Keys P c enc where
 check:=check
 same:=same
 find k w l j:=by
  have key:∀(l:List (κ×Uc)) (i j:Nat),(Instr.findAsking c (enc k) ((l.zipIdx j).map (entry enc)) i).run P w=.ok (((l.zipIdx i).find? (fun p=>decide (p.1.1=k))).map fun p=>(p.2,p.1.2)) w:=by
   intro l;induction l with
   |nil=>intro i j;rfl
   |cons p t ih=>
    intro i j;rw[eH,eH,aJ,cG];simp only[Instr.findAsking,entry,aY,g,Result.andThen];by_cases h:p.1=k
    ·subst h;simp
    simp only[aK h];exact ih (i+1) (j+1)
  cases l with
  |nil=>simp[Instr.findKey,cJ e,Instr.findNow,Result.andThen]
  |cons p t=>
   have a:Instr.findNow d (enc k) ((((p::t).zipIdx j)).map (entry enc)) 0=none:=by
    rw[eH,aJ];simp only[Instr.findNow,entry,f]
   simp only[Instr.findKey,aY,cJ e,Result.andThen,a];exact key (p::t) 0 j
end GMap
end
section
open Go.RowKit
variable {P:Program}
def ep(W:Ub)(r:Nat)(l:List (Int×Uc)):Prop:=W.heap[r]? =some (.map (IntMaps.lit T6 l) l.length)
section
variable {W W':Ub} {r:Nat} {l:List (Int×Uc)}
theorem ep.lt(h:ep W r l):r<W.heap.size:=(aL.1 h).1
theorem ep.of_heap(h:ep W r l)(e:W'.heap[r]? =W.heap[r]?):ep W' r l:=e.trans h
theorem ep.below{B:Nat}(h:ep W r l)(a:Below B W W')(b:r<B):ep W' r l:=h.of_heap (a.block r b)
theorem ep.alloc(h:ep W r l)(o:Obj):ep (W.alloc o) r l:=h.of_heap (iN W o r h.lt)
theorem ep.drew(h:ep W r l):ep W.drew r l:=h
theorem ep.setCell(h:ep W r l){p:Addr}(a:r≠p.block)(u:Uc):ep (W.setCell p u) r l:=h.of_heap (cK W p u r a)
theorem ep.grown{row:Option Nat}(h:ep W r l)(b:W.grownBy W' row)(a:some r≠row):ep W' r l:=h.of_heap (b.block r h.lt a)
theorem ep.new(w:Ub):ep (w.alloc (.map #[] 0)) w.heap.size []:=cq w _
end
theorem gy{W:Ub}{r:Nat}{l:List (Int×Uc)}(h:ep W r l)(t c f:TypeId)(e:P.underlying t=some (.map c f))(a:P.underlying c=some (.int T6))(k:Int)(z:Uc)(o:(Lit.int T6 k).wf=true)(n:(zeroValue f).run P W=.ok z W):
  (Instr.lookup t (.map (some r)) (TY T6 k) false).run P W=.ok ((IntMaps.look l k).getD z) W:=by
 obtain⟨x,m,j⟩:=IntMaps.findNow_lit T6 k l 0 0;have g:(Instr.findKey c (TY T6 k) (IntMaps.lit T6 l).toList).run P W=.ok x W:=by
  have d:Instr.findNow (.int T6) (TY T6 k) (IntMaps.lit T6 l).toList 0=some x:=by simpa[IntMaps.lit]using m
  simp[Instr.findKey,cJ a,d,Result.andThen]
 have i:=fun b=>(Maps.int_keyed a).check W b (Maps.keyOf_int_mk a o)
 rw[<-j];cases x with
 |none=>simp[Instr.lookup,cJ e,eV h,i,g,n,Result.andThen]
 |some p=>simp[Instr.lookup,cJ e,eV h,i,g,Result.andThen]
theorem Et{W:Ub}{r:Nat}{l:List (Int×Uc)}(h:ep W r l)(t c n:TypeId)(g:P.underlying t=some (.map c n))(b:P.underlying c=some (.int T6))(k:Int)(v:Uc)(o:(Lit.int T6 k).wf=true)(u:IntMaps.look l k=none):
  ∃W',(Instr.mapUpdate t (.map (some r)) (TY T6 k) v).run P W=.ok () W'/\ep W' r (l++[(k,v)])/\W.grownBy W' (some r):=by
 obtain⟨x,j,f⟩:=IntMaps.findNow_lit T6 k l 0 0;rw[u]at f;have s:x=none:=by cases x<;>simp_all
 subst s;have p:(Instr.findKey c (TY T6 k) (IntMaps.lit T6 l).toList).run P W=.ok none W:=by
  have d:Instr.findNow (.int T6) (TY T6 k) (IntMaps.lit T6 l).toList 0=some none:=by simpa[IntMaps.lit]using j
  simp[Instr.findKey,cJ b,d,Result.andThen]
 have y:=(Maps.int_keyed b).check W false (Maps.keyOf_int_mk b o);have q:=zL (P:=P) (.map (IntMaps.lit T6 (l++[(k,v)])) (l.length+1)) h;refine⟨{W with heap:=W.heap.setIfInBounds r (.map (IntMaps.lit T6 (l++[(k,v)])) (l.length+1))},?_,?_,?_⟩
 ·simp only[Instr.mapUpdate,aY,cJ g,Result.andThen,eV h,y,p,IntMaps.lit_push];exact q
 ·unfold ep;simp[h.lt]
 refine⟨rfl,rfl,rfl,by simp,fun m i a=>?_⟩;show(W.heap.setIfInBounds r _)[m]? =_
 rw[aW (fun e=>a (by rw[e]))]
theorem qC{b:Array Oper}{rest:List Oper}{o:Oper}{a:Act}{Q:Exit->Act->Ub->Prop}{W:Ub}(c:o.guard=none)(t:TypeId)(m x y:Operand)(s:o.op=.mapUpdate t m x y)(d f:TypeId)(i:P.underlying t=some (.map d f))(j:P.underlying d=some (.int T6))
  (r:Nat)(l:List (Int×Uc))(k:Int)(v:Uc)(C:a.eval m=.map (some r))(A:a.eval x=TY T6 k)(u:a.eval y=v)(h:ep W r l)(q:(Lit.int T6 k).wf=true)(B:IntMaps.look l k=none)
  (n:∀W',ep W' r (l++[(k,v)])->W.grownBy W' (some r)->wpList P b Q rest (a.put o.dst undef) W'):wpList P b Q (o::rest) a W:=by
 refine jG c fun K e=>?_
 obtain⟨W',z,p,g⟩:=Et (P:=P) h t d f i j k v q B;unfold Oper.wp execOp;simp only[s,C,A,u,aY,z,Result.andThen];exact e _ _ (n W' p g)
end
end Go.Proofs.YtfammloeljmplaaGreatDoor
