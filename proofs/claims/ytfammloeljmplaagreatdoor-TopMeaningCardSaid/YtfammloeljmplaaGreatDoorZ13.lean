/- Contracts of judge's condition; conditions: each lemma's own. -/
import Derived.Laws.Bits64b
import Derived.Test.YtfammloeljmplaaGreatDoorZ4
open Go.Value renaming int->TY,agg->T1,bool->T2
open Go.IntKind renaming i64->T6,u32->T7,u64->T8
open Go.Obj renaming cells->Ua
open Go renaming World->Ub
namespace Go.Proofs.YtfammloeljmplaaGreatDoor
open Go.Proofs.Tryz
set_option maxRecDepth 100000
set_option maxHeartbeats 8000000
set_option linter.unusedVariables false
set_option linter.unusedSimpArgs false
section
open Go.RowKit
theorem lI{a b:Bool}(h:a=b):Ending.returned (T2 a)=.returned (T2 b):=by rw[h]
theorem qI{k:IntKind}{a b:Int}(h:a=b):Ending.returned (TY k a)=.returned (TY k b):=by rw[h]
theorem EF(c:Cd)(j:c.Ok)(x:Nat)(t:x<=eC)(w:Ub):
  TV 69 #[T1 c.vals.toArray,TY T8 x] w (T2 (ee c x)):=by
 obtain⟨i,a,g,b⟩:=c;have p:=j.mask;have hv:=j.val;unfold eC at p hv t;simp only at p hv;have d:=bits_and_u64_nat x g (by omega) (by omega);have s:=Lib.hid d;clear d j;have r:=(aw w.heap.size w).alloc (ae _) (Ua #[TY T6 i,TY T6 a,TY T8 g,TY T8 b] 164);have f:=Lib.hid r;clear r;show Calls prog _ #[T1 #[TY T6 i,TY T6 a,TY T8 g,TY T8 b],_] w _
 have key:ee ⟨i,a,g,b⟩ x=if a=1 then decide (x=b)else if a=2 then !decide (x=b)else if a=3 then decide (x<b)
  else if a=4 then !decide (b<x)else if a=5 then decide (b<x)else if a=6 then !decide (x<b)else decide (x&&&g=b):=rfl
 rw[key];clear key;by_cases m:a=1
 ·subst m;go_enter func69,ntmps69;go_wp2_with fail;go_ret;exact⟨lI (by first|(rw[aZ];done)|(rw[aZ];simp<;>omega)),f.out⟩
 rw[af m];by_cases k:a=2
 ·subst k;go_enter func69,ntmps69;go_wp2_with fail;go_ret;exact⟨lI (by first|(rw[aZ];done)|(rw[aZ];simp<;>omega)),f.out⟩
 rw[af k];by_cases o:a=3
 ·subst o;go_enter func69,ntmps69;go_wp2_with fail;go_ret;exact⟨lI (by first|(rw[aZ];done)|(rw[aZ];simp<;>omega)),f.out⟩
 rw[af o];by_cases l:a=4
 ·subst l;go_enter func69,ntmps69;go_wp2_with fail;go_ret;exact⟨lI (by first|(rw[aZ];done)|(rw[aZ];simp<;>omega)),f.out⟩
 rw[af l];by_cases n:a=5
 ·subst n;go_enter func69,ntmps69;go_wp2_with fail;go_ret;exact⟨lI (by first|(rw[aZ];done)|(rw[aZ];simp<;>omega)),f.out⟩
 rw[af n];by_cases q:a=6
 ·subst q;go_enter func69,ntmps69;go_wp2_with fail;go_ret;exact⟨lI (by first|(rw[aZ];done)|(rw[aZ];simp<;>omega)),f.out⟩
 rw[af q];go_enter func69,ntmps69;go_wp2_with fail;go_ret;exact⟨lI (by rw[s.out,aZ];simp<;>omega),f.out⟩
theorem K0(a:Nat)(x:Nat)(b:x<=eC)(w:Ub):
  TW 70 #[TY T6 a,TY T8 x] w (TY T8 (argN a x:Nat)):=by
 unfold eC at b;by_cases h:a=2
 ·subst h;go_enter func70,ntmps70;go_wp2_with fail;go_ret;exact⟨qI (by unfold argN;simp),rfl⟩
 have c:¬(a:Int)=2:=by omega
 go_enter func70,ntmps70;go_wp2_with fail;go_ret;exact⟨qI (by unfold argN;rw[af h]),rfl⟩
theorem K3(a:Nat)(x:Nat)(f:x<4294967296)(w:Ub):
  TW 67 #[TY T6 a,TY T7 x] w (TY T7 (ownN a x:Nat)):=by
 by_cases h:a=1
 ·subst h;by_cases b:x / 1073741824 % 2=1
  ·have q:(x:Int) / 1073741824 % 2=1:=by omega
   go_enter func67,ntmps67;go_wp2_with fail;go_ret;exact⟨qI (by unfold ownN;rw[aj ⟨rfl,b⟩];omega),rfl⟩
  have q:¬(x:Int) / 1073741824 % 2=1:=by omega
  go_enter func67,ntmps67;go_wp2_with fail;go_ret;exact⟨qI (by unfold ownN;rw[af (fun h=>b h.2)]),rfl⟩
 have d:¬(a:Int)=1:=by omega
 go_enter func67,ntmps67;go_wp2_with fail;go_ret;exact⟨qI (by unfold ownN;rw[af (fun c=>h c.1)]),rfl⟩
def QB(arch number:Nat):Int:=match ma arch number with|some a=>(a:Int)|none=> -1
theorem CM(t x:Nat)(f:t<4294967296)(l:x<4294967296)(w:Ub):
  TW 64 #[TY T7 t,TY T7 x] w (TY T6 (QB t x)):=by
 unfold QB ma;by_cases c:t=1073741827
 ·subst c;go_enter func64,ntmps64;go_wp2_with fail;go_ret;exact⟨rfl,rfl⟩
 by_cases a:t=3221225655
 ·subst a;go_enter func64,ntmps64;go_wp2_with fail;go_ret;exact⟨rfl,rfl⟩
 by_cases d:t=3221225715
 ·subst d;go_enter func64,ntmps64;go_wp2_with fail;go_ret;exact⟨rfl,rfl⟩
 have n1:¬(t:Int)=1073741827:=by omega
 have n2:¬(t:Int)=3221225655:=by omega
 have n3:¬(t:Int)=3221225715:=by omega
 rw[af c,af a,af d];by_cases b:t=3221225534
 ·subst b;rw[aj rfl];by_cases g:x=4294967295
  ·subst g;go_enter func64,ntmps64;go_wp2_with fail;go_ret;exact⟨rfl,rfl⟩
  have j:((x:Int) != 4294967295)=true:=by simp;omega
  by_cases k:x / 1073741824 % 2=1
  ·have q:((x:Int) / 1073741824 % 2==1)=true:=by simp;omega
   rw[aj ⟨g,k⟩];go_enter func64,ntmps64;go_wp2_with fail;go_ret;exact⟨rfl,rfl⟩
  have q:((x:Int) / 1073741824 % 2==1)=false:=by simp;omega
  rw[af (fun h=>k h.2)];go_enter func64,ntmps64;go_wp2_with fail;go_ret;exact⟨rfl,rfl⟩
 have i:¬(t:Int)=3221225534:=by omega
 rw[af b];go_enter func64,ntmps64;go_wp2_with fail;go_ret;exact⟨rfl,rfl⟩
theorem Hf(k:Int)(c:1<=k)(b:k<=8)(w:Ub):
  TV 68 #[TY T6 k] w (TY T6 (baseA k:Nat)):=by
 have a:k=1\/k=2\/k=3\/k=4\/k=5\/k=6\/k=7\/k=8:=by omega
 rcases a with rfl|rfl|rfl|rfl|rfl|rfl|rfl|rfl
 all_goals
  go_enter func68,ntmps68;go_wp2_with fail;go_ret;exact⟨rfl,(aw _ _).alloc (ae _) _⟩
theorem NJ(k:Int):baseA k<=2147483648:=by unfold baseA;repeat' split
                                          all_goals omega
theorem sX(k n:Int)(h:eT k n=true)(w:Ub):
  TV 26 #[T1 #[TY T6 k,TY T6 n]] w (TY T6 (codeA k n:Nat)):=by
 unfold eT at h;obtain⟨l,j,v,d⟩:=aN h;have s:n<=65535:=by unfold oO at d;split at d<;>(try split at d)<;>omega
 have q:=NJ k;have o:IntKind.i64.wrap (((baseA k:Nat):Int)+n)=((baseA k:Nat):Int)+n:=IntWalk.i64_in _ (by omega);have hv:((baseA k:Nat):Int)+n=((codeA k n:Nat):Int):=by unfold codeA;omega
 rw[hv]at o;have m:=fun W:Ub=>Hf k l j W
 generalize baseA k=x at*;have b:=(aw w.heap.size w).alloc (ae _) (Ua #[TY T6 k,TY T6 n] 23);have c:=bK.new w 23 #[TY T6 k,TY T6 n];go_enter func26,ntmps26;go_wp2_with fail;have i:=c.cell 0;have g:=c.cell 1;generalize w.alloc (Ua _ 23)=t at*;have r:=eY i;have p:=eY g;obtain⟨a,u⟩:=aA b c;clear b c;clear i g;refine dO (by kernel_rfl) (by kernel_rfl) ?_;repeat(first
  |go_big_quiet_skip
  |(go_big_quiet_want
    first
     |(go_big_quiet_op
       first
        |go_big_quiet_on
        |go_big_quiet_call (first
          |(go_at_call 68;exact gi (m _))))))
 refine wpQuiet_nil ?_;intro w5 f;go_wp2_with fail;go_ret;exact⟨rfl,a.out.trans (f.mono a.out.size)⟩
end
end Go.Proofs.YtfammloeljmplaaGreatDoor
