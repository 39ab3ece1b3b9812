/- Contracts of cond; conditions: each lemma's own. -/
import Derived.Laws.EntriesVeiled
import Derived.Lib.AppendIntMem
import Derived.Lib.ItoaLen
import Derived.Lib.ItoaMem
import Derived.Lib.Walk
import Derived.Test.YtfammloeljmplaaGreatDoorZ21
import Derived.Test.YtfammloeljmplaaGreatDoorZ24
open Go.Value renaming int->TY,pointer->TZ,slice->T0,agg->T1,bool->T2
open Go.IntKind renaming i64->T6,u64->T8
open Go.Obj renaming cells->Ua
open Go renaming World->Ub,Value->Uc
namespace Go.Proofs.YtfammloeljmplaaGreatDoor
open Go.Proofs.Tryz
set_option maxRecDepth 100000
set_option maxHeartbeats 8000000
set_option linter.unusedVariables false
set_option linter.unusedSimpArgs false
section
open Go.RowKit Go.Sort
theorem vu{a b:Bool}(h:a=b):Ending.returned (T2 a)=.returned (T2 b):=by rw[h]
theorem oG(c:Cd)(w:Ub):
  TV 203 #[T1 c.vals.toArray] w (T2 (fS c)):=by
 obtain⟨b,a,d,g⟩:=c;have l:=(aw w.heap.size w).alloc (ae _) (Ua #[TY T6 b,TY T6 a,TY T8 d,TY T8 g] 162);have key:fS ⟨b,a,d,g⟩=(decide (0<=b)&&decide (b<=5)&&decide (1<=a)&&decide (a<=7)&&(decide (a=7)||decide (d=0))):=by
  unfold fS;rw[aZ];simp[and_assoc]
 rw[key];have f:=Lib.hid l;clear l;clear key;show Calls prog _ #[T1 #[TY T6 b,TY T6 a,TY T8 d,TY T8 g]] w _
 by_cases k:0<=b
 ·by_cases j:b<=5
  ·by_cases p:1<=a
   ·by_cases o:a<=7
    ·by_cases i:a=7
     ·subst i;go_enter func203,ntmps203;go_wp2_with fail;go_ret;exact⟨vu (by simp[k,j]),f.out⟩
     have r:(a==7)=false:=by simpa using i
     have m:((d:Int)==0)=decide (d=0):=by rw[aZ];simp
     generalize n:((d:Int)==0)=q at*;go_enter func203,ntmps203;go_wp2_with fail;go_ret;exact⟨vu (by simp[k,j,p,o,i,<-m,<-n]),f.out⟩
    go_enter func203,ntmps203;go_wp2_with fail;go_ret;exact⟨vu (by rw[aK (by omega:¬a<=7)];simp),f.out⟩
   go_enter func203,ntmps203;go_wp2_with fail;go_ret;exact⟨vu (by rw[aK (by omega:¬1<=a)];simp),f.out⟩
  go_enter func203,ntmps203;go_wp2_with fail;go_ret;exact⟨vu (by rw[aK (by omega:¬b<=5)];simp),f.out⟩
 go_enter func203,ntmps203;go_wp2_with fail;go_ret;exact⟨vu (by rw[aK (by omega:¬0<=b)];simp),f.out⟩
def gz(n:Nat)(w:Ub)(e:Ending)(w':Ub):Prop:=(∃s:ByteArray,e=.returned (.string s)/\s.size<=n)/\Below w.heap.size w w'
abbrev kC(w:Ub):Prop:=Lib.TabIs prog w "internal/strconv.uint64pow10" T8 Lib.pow10Tab
theorem kC.below{w w':Ub}(h:kC w){B:Nat}(b:Below B w w')(a:w.heap.size<=B):kC w':=Lib.tabBelow_of_tabIs h w' (b.mono a |> fun h=>by simpa using h)
theorem LH(u:Nat)(a:u<18446744073709551616)(w:Ub)(c:kC w):
  Calls prog 339 #[TY T8 u,TY T6 10] w (gz 20 w):=by
 unfold gz;by_cases z:u<100
 ·have r:=fun W=>nS u z W
  have t:=Lib.hid c;clear c;go_enter func339,ntmps339;go_wp2_with (go_at_call 359;refine(r _).mono ?_;rintro e w' ⟨rfl,rfl⟩);go_ret;exact⟨⟨_,rfl,by show(Lib.decDigits u).toArray.size<=20;rw[dr,Lib.decDigits_length];exact Lib.nDigits_le20 u a⟩,aw _ _⟩
 have l:1<=u:=by omega
 have f:Lib.nDigits u<=20:=by have:=Lib.numDigits_eq u l a;split at this<;>omega
 have B:Lib.nDigits u<=23:=by omega
 have p:prog.arrayLen 425=24:=by simp[Program.arrayLen,underlying425]
 have v:∀W,(Instr.sliceAt 425 (TZ (some ⟨w.heap.size,0,none⟩)) none (some (TY T6 (Lib.nDigits u:Int))) none).run prog W=.ok (T0 (some ⟨w.heap.size,0,none⟩) (Lib.nDigits u) 24) W:=fun W=>by
  rw[run_sliceAt_array_h W 425 ⟨w.heap.size,0,none⟩ (by simp[Program.arrayLen,Program.elem,underlying425]) T6 (Lib.nDigits u:Int) (by omega) (by rw[p];omega)];go_simp;try omega
 have g:Holds (fun(b:UInt8)=>Value.int .u8 (b.toNat:Int)) (w.alloc (Ua Lib.zeros24 425)) w.heap.size 0 (Array.replicate (Lib.nDigits u) (0:UInt8)):=fun j i=>by
  have x:j<Lib.nDigits u:=by simpa using i
  refine⟨?_,World.frozen?_alloc_new _ _ _ _⟩;rw[World.cell?_alloc_new,Lib.zeros24_at _ (by omega),gF _ j i];simp
 have d:=k8 w.heap.size 0 24 u (Array.replicate (Lib.nDigits u) 0) (w.alloc (Ua Lib.zeros24 425)) g (by rw[lv];exact Lib.lt_pow_nDigits u) a (by rw[lv];omega);rw[lv]at d;have s:=Lib.hid g;clear g p;have n:=fun o=>lY u l a _ (Lib.tabIs_alloc c o)
 go_enter func339,ntmps339;go_wp2_with (first
  |(go_at_call 360;refine(n _).mono ?_;rintro e w' ⟨rfl,rfl⟩))
 refine d.mono ?_;rintro e w' ⟨rfl,k,v',m,rfl,q⟩;have A:(convert 37 9 (T0 (some ⟨w.heap.size,0,none⟩) (Lib.nDigits u) 24)).run prog ((putRow (fun(b:UInt8)=>Value.int .u8 (b.toNat:Int)) (w.alloc (Ua Lib.zeros24 425)) w.heap.size 0 m).drewN k)=.ok (.string ⟨(Lib.decDigits u).toArray⟩) ((putRow (fun(b:UInt8)=>Value.int .u8 (b.toNat:Int)) (w.alloc (Ua Lib.zeros24 425)) w.heap.size 0 m).drewN k):=by
  have h:=run_convert_bytes_back (P:=prog) ((putRow (fun(b:UInt8)=>Value.int .u8 (b.toNat:Int)) (w.alloc (Ua Lib.zeros24 425)) w.heap.size 0 m).drewN k) 37 9 5 ⟨w.heap.size,0,none⟩ 24 (Lib.decDigits u) underlying37 underlying5 underlying9 (fun j i=>by
   rw[Lib.row_is_numeral q j i,Lib.add_plain,World.cell?_drewN];exact cell?_putRow (fun(b:UInt8)=>Value.int .u8 (b.toNat:Int)) _ w.heap.size 0 _ m s.out (by rw[q.size,lv]) j (by rw[q.size];rw[Lib.decDigits_length]at i;exact i))
  rw[Lib.decDigits_length]at h;exact h
 go_wp2;go_ret;obtain⟨os,y⟩:=Lib.fin_at w (Ua Lib.zeros24 425) m k 0;refine⟨⟨_,rfl,by show(Lib.decDigits u).toArray.size<=20;rw[dr,Lib.decDigits_length];exact f⟩,?_⟩;rw[y];exact Lib.below_grow _ w (ae _) k os
theorem N5(u:Nat)(c:u<=eC)(w:Ub)(a:kC w):Calls prog 278 #[TY T8 u,TY T6 10] w (gz 20 w):=by
 have b:=LH u (by unfold eC at c;omega) w a;unfold gz at b⊢;clear a;go_enter func278,ntmps278;go_wp2_with (go_at_call 339;refine b.mono ?_;rintro e w' ⟨⟨s,rfl,f⟩,d⟩);go_ret;exact⟨⟨s,rfl,f⟩,d⟩
theorem wv(u:Nat)(c:u<=eC)(w:Ub)(a:kC w):Calls prog 210 #[TY T8 u] w (gz 20 w):=by
 have b:=N5 u c w a;unfold gz at b⊢;clear a;go_enter func210,ntmps210;go_wp2_with (go_at_call 278;refine b.mono ?_;rintro e w' ⟨⟨s,rfl,f⟩,d⟩);go_ret;exact⟨⟨s,rfl,f⟩,d⟩
def xq:List Uc:=[.string ⟨#[61,61]⟩,.func (.func 271) #[] #[],.string ⟨#[33,61]⟩,.func (.func 272) #[] #[],.string ⟨#[60]⟩,.func (.func 273) #[] #[],.string ⟨#[60,61]⟩,.func (.func 274) #[] #[],.string ⟨#[62]⟩,.func (.func 275) #[] #[],.string ⟨#[62,61]⟩,.func (.func 276) #[] #[],.string ⟨#[38]⟩,.func (.func 277) #[] #[]]
theorem Fj(w:Ub):Calls prog 209 #[] w fun e w'=>e=.returned (T0 (some ⟨w.heap.size,0,none⟩) 7 7)/\w'=w.alloc (Ua xq.toArray 316):=by
 go_enter func209,ntmps209;go_wp2_with fail;go_ret;exact⟨rfl,rfl⟩
theorem JW:∀(l:List (List UInt8)) (m:Nat),(∀x∈l,x.length<=m)->Lib.lens l<=l.length*m
 |[],m,_=>by simp[Lib.lens]
 |x::t,m,h=>by
  have c:=h x (by simp);have b:=JW t m fun y a=>h y (by simp[a])
  simp only[Lib.lens,aJ,gC,aM,gE]at*;omega
theorem zf(m n c:Nat)(A:Option Addr)(i:UInt8)(W:Ub)(D:n<=100000)(G:m<=1000000)(F:n<=c)(h:0<n->∃b o,A=some ⟨b,o,none⟩/\b<W.heap.size/\∀j,j<n->∃s:ByteArray,W.cell? ⟨b,o+j,none⟩=some (.string s)/\s.size<=m):
  Calls prog 130 #[T0 A n c,.string ⟨#[i]⟩] W (gz (n*(m+1)) W):=by
 unfold gz;by_cases z:n=0
 ·subst z;refine(qO A c _ W).mono ?_;rintro e w' ⟨rfl,rfl⟩;exact⟨⟨_,rfl,iS _⟩,aw _ _⟩
 obtain⟨b,o,rfl,B,d⟩:=h (by omega);obtain⟨f,t⟩:∃f:Nat->ByteArray,∀j,j<n->W.cell? ⟨b,o+j,none⟩=some (.string (f j))/\(f j).size<=m:=
  ⟨fun j=>if h:j<n then(d j h).choose else⟨#[]⟩,fun j g=>by simp only[dif_pos g];exact(d j g).choose_spec⟩
 have a:(((List.range n).map f).map (·.data.toList)).length=n:=by simp
 have q:∀x∈((List.range n).map f).map (·.data.toList),x.length<=m:=by
  intro x p;simp only[cT,bt,bE,Function.comp]at p;obtain⟨j,g,rfl⟩:=p;have:=(t j g).2;show(f j).data.toList.length<=m
  rw[dW];exact this
 have k:=JW _ m q;rw[a]at k;have g:(Lib.join (((List.range n).map f).map (·.data.toList)) [i]).length<=n*(m+1):=by
  cases e:((List.range n).map f).map (·.data.toList)with
  |nil=>rw[e]at a;simp at a;omega
  |cons x r=>
   rw[e]at a k;rw[Lib.join_length];simp only[aM,bD]at a⊢;rw[Nat.mul_succ];omega
 have u:n*(m+1)<=100000*1000001:=Qa D (by omega);have v:=wR b o c ((List.range n).map f) ⟨#[i]⟩ W (fun j x p=>by
  rw[cO]at p;obtain⟨y,C,rfl⟩:=Option.map_eq_some_iff.1 p;obtain⟨l,e⟩:=cF.1 C;rw[tF]at l;rw[List.getElem_range]at e;subst e;exact(t j l).1) B (by rw[bu,tF];omega) (by rw[bu,tF];exact F) (by show(Lib.join _ [i]).length<=_;omega)
 rw[bu,tF]at v;refine v.mono ?_;rintro e w' ⟨rfl,E⟩;refine⟨⟨_,rfl,?_⟩,E⟩;show(Lib.join _ [i]).toArray.size<=_
 rw[dr];exact g
end
end Go.Proofs.YtfammloeljmplaaGreatDoor
