/- Contracts of act; conditions: each lemma's own. -/
import Derived.Laws.EntriesVeiled
import Derived.Test.YtfammloeljmplaaGreatDoorZ4
open Go.Value renaming int->TY,pointer->TZ,slice->T0,agg->T1,bool->T2,tuple->T4
open Go.IntKind renaming i64->T6,u32->T7
open Go.Obj renaming cells->Ua
open Go renaming World->Ub,Value->Uc
namespace Go.Proofs.YtfammloeljmplaaGreatDoor
open Go.Proofs.Tryz
set_option maxRecDepth 100000
set_option maxHeartbeats 8000000
set_option linter.unusedVariables false
set_option linter.unusedSimpArgs false
section
open Go.RowKit
def qR(k:Int)(a:Uc)(w:Ub):Prop:=
 if k=4\/k=6 then∃g,a=.func (.func 350) #[] #[TZ (some ⟨g,0,none⟩)]/\w.cell? ⟨g,0,none⟩=some (TY T6 (oO k+1))/\g<w.heap.size else a=.nilFunc
def N6(k:Int)(w:Ub)(e:Ending)(w':Ub):Prop:=
 Below w.heap.size w w'/\if 1<=k/\k<=8 then∃b a,e=.returned (T4 #[T1 #[.string b,TY T7 (baseA k:Nat),a],T2 true])/\qR k a w' else e=.returned (T4 #[T1 #[.string ⟨#[]⟩,TY T7 0,.nilFunc],T2 false])
theorem QM{k:IntKind}{a b:Int}(h:a=b):Ending.returned (TY k a)=.returned (TY k b):=by rw[h]
theorem iM(w:Ub)(a b c d:Obj):Below w.heap.size w ((((w.alloc a).alloc b).alloc c).alloc d):=((((aw _ _).alloc (ae _) _).alloc (by simp) _).alloc (by simp;omega) _).alloc (by simp;omega) _
theorem PF(w:Ub)(a c d:Obj)(n:Int):((((w.alloc a).alloc (Ua #[TY T6 n] 3)).alloc c).alloc d).cell? ⟨w.heap.size+1,0,none⟩=some (TY T6 n):=by
 have h:bK ((w.alloc a).alloc (Ua #[TY T6 n] 3)) (w.heap.size+1) 3 #[TY T6 n]:=by
  have:=bK.new (w.alloc a) 3 #[TY T6 n];rwa [cE]at this
 exact((h.alloc c).alloc d).cell 0
theorem PG(w:Ub)(a b d:Obj)(n:Int):((((w.alloc a).alloc b).alloc (Ua #[TY T6 n] 3)).alloc d).cell? ⟨w.heap.size+1+1,0,none⟩=some (TY T6 n):=by
 have h:bK (((w.alloc a).alloc b).alloc (Ua #[TY T6 n] 3)) (w.heap.size+1+1) 3 #[TY T6 n]:=by
  have:=bK.new ((w.alloc a).alloc b) 3 #[TY T6 n];simpa using this
 exact(h.alloc d).cell 0
theorem LI(n:Int)(w:Ub):Calls prog 308 #[TY T6 n] w fun e w'=>e=.returned (.func (.func 350) #[] #[TZ (some ⟨w.heap.size,0,none⟩)])/\w'=w.alloc (Ua #[TY T6 n] 3):=by
 go_enter func308,ntmps308;go_wp2_with fail;go_ret;exact⟨rfl,rfl⟩
theorem gW(w:Ub):Calls prog 222 #[] w fun e w'=>e=.returned (T0 (some ⟨w.heap.size+1+1,0,none⟩) 8 8)/\w'=((w.alloc (Ua #[TY T6 4096] 3)).alloc (Ua #[TY T6 65536] 3)).alloc (Ua #[.string ⟨#[107,105,108,108]⟩,TY T7 2147483648,.nilFunc,.string ⟨#[107,105,108,108,95,116,104,114,101,97,100]⟩,TY T7 0,.nilFunc,.string ⟨#[116,114,97,112]⟩,TY T7 196608,.nilFunc,.string ⟨#[101,114,114,110,111]⟩,TY T7 327680,(.func (.func 350) #[] #[TZ (some ⟨w.heap.size,0,none⟩)]),.string ⟨#[110,111,116,105,102,121]⟩,TY T7 2143289344,.nilFunc,.string ⟨#[116,114,97,99,101]⟩,TY T7 2146435072,(.func (.func 350) #[] #[TZ (some ⟨w.heap.size+1,0,none⟩)]),.string ⟨#[108,111,103]⟩,TY T7 2147221504,.nilFunc,.string ⟨#[97,108,108,111,119]⟩,TY T7 2147418112,.nilFunc] 267):=by
 go_enter func222,ntmps222;go_wp2_with (go_at_call 308;refine(LI _ _).mono ?_;rintro e a ⟨rfl,rfl⟩);go_ret;exact⟨rfl,rfl⟩
theorem BO(k:Int)(w:Ub):Calls prog 140 #[TY T6 k] w (N6 k w):=by
 by_cases h:1<=k/\k<=8
 ·obtain⟨h1,g⟩:=h;have c:k=1\/k=2\/k=3\/k=4\/k=5\/k=6\/k=7\/k=8:=by omega
  rcases c with rfl|rfl|rfl|rfl|rfl|rfl|rfl|rfl
  ·skip
   go_enter func140,ntmps140;go_wp2_with (go_at_call 222;refine(gW _).mono ?_;rintro e b ⟨rfl,rfl⟩);refine aO (v:=T4 #[T1 #[.string ⟨#[107,105,108,108]⟩,TY T7 2147483648,.nilFunc],T2 true]) (bH (p:=2) (q:=3) (ty:=267) rfl _ _ w.heap.size _ _ _ _ _ rfl rfl (((bK.new w 267 #[.string ⟨#[107,105,108,108]⟩,TY T7 2147483648,.nilFunc]).alloc _).alloc _ |>.alloc _) underlying267 rfl (by kernel_rfl)) rfl ⟨iM _ _ _ _ _,?_⟩;rw[aj ⟨by omega,by omega⟩];exact⟨_,_,rfl,rfl⟩
  ·skip
   go_enter func140,ntmps140;go_wp2_with (go_at_call 222;refine(gW _).mono ?_;rintro e b ⟨rfl,rfl⟩);refine aO (v:=T4 #[T1 #[.string ⟨#[107,105,108,108,95,116,104,114,101,97,100]⟩,TY T7 0,.nilFunc],T2 true]) (bH (p:=2) (q:=3) (ty:=267) rfl _ _ w.heap.size _ _ _ _ _ rfl rfl (((bK.new w 267 #[.string ⟨#[107,105,108,108,95,116,104,114,101,97,100]⟩,TY T7 0,.nilFunc]).alloc _).alloc _ |>.alloc _) underlying267 rfl (by kernel_rfl)) rfl ⟨iM _ _ _ _ _,?_⟩;rw[aj ⟨by omega,by omega⟩];exact⟨_,_,rfl,rfl⟩
  ·skip
   go_enter func140,ntmps140;go_wp2_with (go_at_call 222;refine(gW _).mono ?_;rintro e b ⟨rfl,rfl⟩);refine aO (v:=T4 #[T1 #[.string ⟨#[116,114,97,112]⟩,TY T7 196608,.nilFunc],T2 true]) (bH (p:=2) (q:=3) (ty:=267) rfl _ _ w.heap.size _ _ _ _ _ rfl rfl (((bK.new w 267 #[.string ⟨#[116,114,97,112]⟩,TY T7 196608,.nilFunc]).alloc _).alloc _ |>.alloc _) underlying267 rfl (by kernel_rfl)) rfl ⟨iM _ _ _ _ _,?_⟩;rw[aj ⟨by omega,by omega⟩];exact⟨_,_,rfl,rfl⟩
  ·skip
   go_enter func140,ntmps140;go_wp2_with (go_at_call 222;refine(gW _).mono ?_;rintro e b ⟨rfl,rfl⟩);refine aO (v:=T4 #[T1 #[.string ⟨#[101,114,114,110,111]⟩,TY T7 327680,(.func (.func 350) #[] #[TZ (some ⟨w.heap.size+1,0,none⟩)])],T2 true]) (bH (p:=2) (q:=3) (ty:=267) rfl _ _ w.heap.size _ _ _ _ _ rfl rfl (((bK.new w 267 #[.string ⟨#[101,114,114,110,111]⟩,TY T7 327680,(.func (.func 350) #[] #[TZ (some ⟨w.heap.size+1,0,none⟩)])]).alloc _).alloc _ |>.alloc _) underlying267 rfl (by kernel_rfl)) rfl ⟨iM _ _ _ _ _,?_⟩;rw[aj ⟨by omega,by omega⟩];refine⟨_,_,rfl,?_⟩;unfold qR;rw[aj (by omega)];exact⟨_,rfl,PF _ _ _ _ _,by simp⟩
  ·skip
   go_enter func140,ntmps140;go_wp2_with (go_at_call 222;refine(gW _).mono ?_;rintro e b ⟨rfl,rfl⟩);refine aO (v:=T4 #[T1 #[.string ⟨#[110,111,116,105,102,121]⟩,TY T7 2143289344,.nilFunc],T2 true]) (bH (p:=2) (q:=3) (ty:=267) rfl _ _ w.heap.size _ _ _ _ _ rfl rfl (((bK.new w 267 #[.string ⟨#[110,111,116,105,102,121]⟩,TY T7 2143289344,.nilFunc]).alloc _).alloc _ |>.alloc _) underlying267 rfl (by kernel_rfl)) rfl ⟨iM _ _ _ _ _,?_⟩;rw[aj ⟨by omega,by omega⟩];exact⟨_,_,rfl,rfl⟩
  ·skip
   go_enter func140,ntmps140;go_wp2_with (go_at_call 222;refine(gW _).mono ?_;rintro e b ⟨rfl,rfl⟩);refine aO (v:=T4 #[T1 #[.string ⟨#[116,114,97,99,101]⟩,TY T7 2146435072,(.func (.func 350) #[] #[TZ (some ⟨w.heap.size+1+1,0,none⟩)])],T2 true]) (bH (p:=2) (q:=3) (ty:=267) rfl _ _ w.heap.size _ _ _ _ _ rfl rfl (((bK.new w 267 #[.string ⟨#[116,114,97,99,101]⟩,TY T7 2146435072,(.func (.func 350) #[] #[TZ (some ⟨w.heap.size+1+1,0,none⟩)])]).alloc _).alloc _ |>.alloc _) underlying267 rfl (by kernel_rfl)) rfl ⟨iM _ _ _ _ _,?_⟩;rw[aj ⟨by omega,by omega⟩];refine⟨_,_,rfl,?_⟩;unfold qR;rw[aj (by omega)];exact⟨_,rfl,PG _ _ _ _ _,by simp⟩
  ·skip
   go_enter func140,ntmps140;go_wp2_with (go_at_call 222;refine(gW _).mono ?_;rintro e b ⟨rfl,rfl⟩);refine aO (v:=T4 #[T1 #[.string ⟨#[108,111,103]⟩,TY T7 2147221504,.nilFunc],T2 true]) (bH (p:=2) (q:=3) (ty:=267) rfl _ _ w.heap.size _ _ _ _ _ rfl rfl (((bK.new w 267 #[.string ⟨#[108,111,103]⟩,TY T7 2147221504,.nilFunc]).alloc _).alloc _ |>.alloc _) underlying267 rfl (by kernel_rfl)) rfl ⟨iM _ _ _ _ _,?_⟩;rw[aj ⟨by omega,by omega⟩];exact⟨_,_,rfl,rfl⟩
  skip
  go_enter func140,ntmps140;go_wp2_with (go_at_call 222;refine(gW _).mono ?_;rintro e b ⟨rfl,rfl⟩);refine aO (v:=T4 #[T1 #[.string ⟨#[97,108,108,111,119]⟩,TY T7 2147418112,.nilFunc],T2 true]) (bH (p:=2) (q:=3) (ty:=267) rfl _ _ w.heap.size _ _ _ _ _ rfl rfl (((bK.new w 267 #[.string ⟨#[97,108,108,111,119]⟩,TY T7 2147418112,.nilFunc]).alloc _).alloc _ |>.alloc _) underlying267 rfl (by kernel_rfl)) rfl ⟨iM _ _ _ _ _,?_⟩;rw[aj ⟨by omega,by omega⟩];exact⟨_,_,rfl,rfl⟩
 have a:bK ((((w.alloc (Ua #[.string ⟨#[]⟩,TY T7 0,.nilFunc] 267))))) w.heap.size 267 #[.string ⟨#[]⟩,TY T7 0,.nilFunc]:=bK.new w _ _;rcases Je k 1 with h1|h1
 ·skip
  go_enter func140,ntmps140;go_wp2_with (go_at_call 222;refine(gW _).mono ?_;rintro e b ⟨rfl,rfl⟩);refine aO (v:=T4 #[T1 #[.string ⟨#[]⟩,TY T7 0,.nilFunc],T2 false]) (bH (p:=2) (q:=3) (ty:=267) rfl _ _ w.heap.size _ _ _ _ _ rfl rfl ((a.alloc _).alloc _ |>.alloc _) underlying267 rfl (by kernel_rfl)) rfl ⟨iM _ _ _ _ _,?_⟩;rw[af h]
 have f:8<k:=by omega
 have d:¬k<1:=by omega
 go_enter func140,ntmps140;go_wp2_with (go_at_call 222;refine(gW _).mono ?_;rintro e b ⟨rfl,rfl⟩);refine aO (v:=T4 #[T1 #[.string ⟨#[]⟩,TY T7 0,.nilFunc],T2 false]) (bH (p:=2) (q:=3) (ty:=267) rfl _ _ w.heap.size _ _ _ _ _ rfl rfl ((a.alloc _).alloc _ |>.alloc _) underlying267 rfl (by kernel_rfl)) rfl ⟨iM _ _ _ _ _,?_⟩;rw[af h]
theorem Fk(k:Int):0<=oO k/\oO k<=65535:=by unfold oO;split<;>(try split)<;>omega
theorem Im(g:Nat)(m:Int)(b:0<=m/\m<=65535)(w:Ub)(c:w.cell? ⟨g,0,none⟩=some (TY T6 (m+1))):TW 350 #[TZ (some ⟨g,0,none⟩)] w (TY T6 m):=by
 have a:IntKind.i64.wrap (m+1 - 1)=m:=by rw[show m+1 - 1=m by omega];exact IntWalk.i64_in _ (by omega)
 go_enter func350,ntmps350;go_wp2_with fail;go_ret;exact⟨QM (by omega),rfl⟩
theorem qR.keeps{k:Int}{c:Uc}{w w':Ub}(h:qR k c w)(d:aS w w'):qR k c w':=by
 unfold qR at h⊢;split at h
 ·rename_i a;rw[aj a];obtain⟨g,f,e,b⟩:=h;exact⟨g,f,(d.cell (p:=⟨g,0,none⟩) b).trans e,bn b d.size⟩
 rename_i a;rw[af a];exact h
theorem JX{a b:Bool}(h:a=b):Ending.returned (T2 a)=.returned (T2 b):=by rw[h]
theorem zg(w:Ub):(binOp .eql 135 .nilFunc .nilFunc).run prog w=.ok (T2 true) w:=by kernel_rfl
theorem BP(f:Nat)(a:Addr)(w:Ub):(binOp .eql 135 (.func (.func f) #[] #[TZ (some a)]) .nilFunc).run prog w=.ok (T2 false) w:=by kernel_rfl
theorem ux(k:Int)(n:ByteArray)(q:Int)(j:Uc)(w:Ub)(c:qR k j w):TV 200 #[T1 #[.string n,TY T7 q,j]] w (TY T6 (oO k)):=by
 have i:=Fk k;unfold qR at c;by_cases h:k=4\/k=6
 ·rw[aj h]at c;obtain⟨g,rfl,l,p⟩:=c;have b:∀o,(w.alloc o).cell? ⟨g,0,none⟩=some (TY T6 (oO k+1)):=fun o=>(cz w o ⟨g,0,none⟩ p).trans l
  have d:=fun o=>Im g (oO k) i _ (b o)
  generalize oO k=m at*;have r:=Lib.hid b;clear b;clear l h;have e1:=fun W:Ub=>zg W
  have e2:=fun f a (W:Ub)=>BP f a W
  go_enter func200,ntmps200;go_wp2_with (go_at_call 350;refine(d _).mono ?_;rintro e s ⟨rfl,rfl⟩);go_ret;exact⟨rfl,(aw _ _).alloc (ae _) _⟩
 rw[af h]at c;subst c;have:oO k=0:=by unfold oO;rw[af (by omega),af (by omega)]
 rw[this];clear this h i;have e1:=fun W:Ub=>zg W
 have e2:=fun f a (W:Ub)=>BP f a W
 go_enter func200,ntmps200;go_wp2_with fail;go_ret;exact⟨rfl,(aw _ _).alloc (ae _) _⟩
theorem pF(k n:Int)(w:Ub):TV 120 #[T1 #[TY T6 k,TY T6 n]] w (T2 (eT k n)):=by
 have S:=(aw w.heap.size w).alloc (ae _) (Ua #[TY T6 k,TY T6 n] 43);have b0:=bK.new w 43 #[TY T6 k,TY T6 n];have N:(w.alloc (Ua #[TY T6 k,TY T6 n] 43)).heap.size=w.heap.size+1:=by simp
 have v:=fun W=>BO k W
 obtain⟨E,V,R⟩:=aC S b0 N;clear S b0 N;by_cases J:1<=k/\k<=8
 ·go_enter func120,ntmps120;go_wp2_with fail;refine(v _).mono ?_;rintro e a ⟨c,l⟩;rw[aj J]at l;obtain⟨f,fv,rfl,q⟩:=l;have hz:=c.size;have Y:=R.out;have A:=(V.out.below c (by omega)).cell 0;have z:=(V.out.below c (by omega)).cell 1;simp only[ao]at A z;have y:w.heap.size<a.heap.size:=by omega
  have b:=q;obtain⟨T,s⟩:=aA c q;clear c q;unfold qR at b;by_cases B:k=4\/k=6
  ·rw[aj B]at b;obtain⟨g,rfl,_,_⟩:=b;clear B;have i:=(E.out.trans (T.out.mono (by omega))).alloc (by omega) (Ua #[.string f,TY T7 (baseA k:Nat),(.func (.func 350) #[] #[TZ (some ⟨g,0,none⟩)])] 267);have M:=bK.new a 267 #[.string f,TY T7 (baseA k:Nat),(.func (.func 350) #[] #[TZ (some ⟨g,0,none⟩)])];have t:=s.out.keeps ((aw a.heap.size a).alloc (ae _) (Ua #[.string f,TY T7 (baseA k:Nat),(.func (.func 350) #[] #[TZ (some ⟨g,0,none⟩)])] 267));have d0:∀o,(a.alloc o).cell? ⟨w.heap.size,0,none⟩=some (TY T6 k):=fun o=>(cz a o ⟨w.heap.size,0,none⟩ y).trans A
   have O:∀o,(a.alloc o).cell? ⟨w.heap.size,1,none⟩=some (TY T6 n):=fun o=>(cz a o ⟨w.heap.size,1,none⟩ y).trans z
   have j:(a.alloc (Ua #[.string f,TY T7 (baseA k:Nat),(.func (.func 350) #[] #[TZ (some ⟨g,0,none⟩)])] 267)).heap.size=a.heap.size+1:=by simp
   obtain⟨r,Z,F,U,L,p⟩:=aF i M t d0 O j;clear i M t d0 O j;clear v;by_cases C:0<=n
   ·have g1:decide (0<=n)=true:=bM C;go_wp2_with fail;have k0:=eY (U.out (Ua #[.string f,TY T7 (baseA k:Nat),(.func (.func 350) #[] #[TZ (some ⟨g,0,none⟩)])] 267));have X:=eY (L.out (Ua #[.string f,TY T7 (baseA k:Nat),(.func (.func 350) #[] #[TZ (some ⟨g,0,none⟩)])] 267));generalize a.alloc (Ua _ 267)=D at*;have u:=fun(x:je D)=>ux k f (baseA k:Nat) _ (eb D x) (F.out.keeps (kb x))
    clear A z;have H:=Lib.hid u;clear u;refine dO (by kernel_rfl) (by kernel_rfl) ?_;repeat(first
     |go_big_quiet_skip
     |(go_big_quiet_want
       first
        |(refine iU 267 (.tmp 3) rfl a.heap.size rfl _ _ _ _ (uW Z.out) underlying267 rfl (by kernel_rfl) ?_;simp only[Act.put,aq,aI,aH];go_big_quiet_on)
        |(go_big_quiet_op
          first
           |go_big_quiet_on
           |go_big_quiet_call (first
             |(go_at_call 200;exact gi (H.out _))))))
    refine wpQuiet_nil ?_;intro w5 d;go_wp2_with fail;go_ret;refine⟨JX ?_,r.out.trans (d.mono (by have:=p.out;omega))⟩;unfold eT;rw[aZ];simp[C,J.1,J.2]
   have g1:decide (0<=n)=false:=aK C;have m:eT k n=false:=aK (fun h=>C h.2.2.1);have G:=Lib.hid m;clear m;go_wp2_with fail;have k0:=eY (U.out (Ua #[.string f,TY T7 (baseA k:Nat),(.func (.func 350) #[] #[TZ (some ⟨g,0,none⟩)])] 267));have X:=eY (L.out (Ua #[.string f,TY T7 (baseA k:Nat),(.func (.func 350) #[] #[TZ (some ⟨g,0,none⟩)])] 267));generalize a.alloc (Ua _ 267)=D at*;clear A z;refine dO (by kernel_rfl) (by kernel_rfl) ?_;repeat(first
    |go_big_quiet_skip
    |(go_big_quiet_want
      first
       |(go_big_quiet_op
         first
          |go_big_quiet_on)))
   refine wpQuiet_nil ?_;intro w5 d;go_wp2_with fail;go_ret;exact⟨JX G.out.symm,r.out.trans (d.mono (by have:=p.out;omega))⟩
  rw[af B]at b;subst b;clear B;have i:=(E.out.trans (T.out.mono (by omega))).alloc (by omega) (Ua #[.string f,TY T7 (baseA k:Nat),.nilFunc] 267);have M:=bK.new a 267 #[.string f,TY T7 (baseA k:Nat),.nilFunc];have t:=s.out.keeps ((aw a.heap.size a).alloc (ae _) (Ua #[.string f,TY T7 (baseA k:Nat),.nilFunc] 267));have d0:∀o,(a.alloc o).cell? ⟨w.heap.size,0,none⟩=some (TY T6 k):=fun o=>(cz a o ⟨w.heap.size,0,none⟩ y).trans A
  have O:∀o,(a.alloc o).cell? ⟨w.heap.size,1,none⟩=some (TY T6 n):=fun o=>(cz a o ⟨w.heap.size,1,none⟩ y).trans z
  have j:(a.alloc (Ua #[.string f,TY T7 (baseA k:Nat),.nilFunc] 267)).heap.size=a.heap.size+1:=by simp
  obtain⟨r,Z,F,U,L,p⟩:=aF i M t d0 O j;clear i M t d0 O j;clear v;by_cases C:0<=n
  ·have g1:decide (0<=n)=true:=bM C;go_wp2_with fail;have k0:=eY (U.out (Ua #[.string f,TY T7 (baseA k:Nat),.nilFunc] 267));have X:=eY (L.out (Ua #[.string f,TY T7 (baseA k:Nat),.nilFunc] 267));generalize a.alloc (Ua _ 267)=D at*;have u:=fun(x:je D)=>ux k f (baseA k:Nat) _ (eb D x) (F.out.keeps (kb x))
   clear A z;have H:=Lib.hid u;clear u;refine dO (by kernel_rfl) (by kernel_rfl) ?_;repeat(first
    |go_big_quiet_skip
    |(go_big_quiet_want
      first
       |(refine iU 267 (.tmp 3) rfl a.heap.size rfl _ _ _ _ (uW Z.out) underlying267 rfl (by kernel_rfl) ?_;simp only[Act.put,aq,aI,aH];go_big_quiet_on)
       |(go_big_quiet_op
         first
          |go_big_quiet_on
          |go_big_quiet_call (first
            |(go_at_call 200;exact gi (H.out _))))))
   refine wpQuiet_nil ?_;intro w5 d;go_wp2_with fail;go_ret;refine⟨JX ?_,r.out.trans (d.mono (by have:=p.out;omega))⟩;unfold eT;rw[aZ];simp[C,J.1,J.2]
  have g1:decide (0<=n)=false:=aK C;have m:eT k n=false:=aK (fun h=>C h.2.2.1);have G:=Lib.hid m;clear m;go_wp2_with fail;have k0:=eY (U.out (Ua #[.string f,TY T7 (baseA k:Nat),.nilFunc] 267));have X:=eY (L.out (Ua #[.string f,TY T7 (baseA k:Nat),.nilFunc] 267));generalize a.alloc (Ua _ 267)=D at*;clear A z;refine dO (by kernel_rfl) (by kernel_rfl) ?_;repeat(first
   |go_big_quiet_skip
   |(go_big_quiet_want
     first
      |(go_big_quiet_op
        first
         |go_big_quiet_on)))
  refine wpQuiet_nil ?_;intro w5 d;go_wp2_with fail;go_ret;exact⟨JX G.out.symm,r.out.trans (d.mono (by have:=p.out;omega))⟩
 have m:eT k n=false:=aK (fun h=>J ⟨h.1,h.2.1⟩);rw[m];go_enter func120,ntmps120;go_wp2_with fail;refine(v _).mono ?_;rintro e a ⟨c,l⟩;rw[af J]at l;subst l;have hz:=c.size;have Y:=R.out;have A:=(V.out.below c (by omega)).cell 0;have z:=(V.out.below c (by omega)).cell 1;simp only[ao]at A z;have y:w.heap.size<a.heap.size:=by omega
 have i:=(E.out.trans (c.mono (by omega))).alloc (by omega) (Ua #[.string ⟨#[]⟩,TY T7 0,.nilFunc] 267);have j:(a.alloc (Ua #[.string ⟨#[]⟩,TY T7 0,.nilFunc] 267)).heap.size=a.heap.size+1:=by simp
 obtain⟨r,p⟩:=aA i j;clear i j;clear v c;go_wp2_with fail;generalize a.alloc (Ua _ 267)=D at*;clear A z;refine dO (by kernel_rfl) (by kernel_rfl) ?_;repeat(first
  |go_big_quiet_skip
  |(go_big_quiet_want
    first
     |(go_big_quiet_op
       first
        |go_big_quiet_on)))
 refine wpQuiet_nil ?_;intro w5 d;go_wp2_with fail;go_ret;exact⟨rfl,r.out.trans (d.mono (by have:=p.out;omega))⟩
theorem Qk{a b:Int}(h:a=b):Ending.returned (T4 #[TY T7 a,TY T6 0])=.returned (T4 #[TY T7 b,TY T6 0]):=by rw[h]
theorem LJ(k:Int):baseA k<=2147483648:=by
 unfold baseA;repeat' split
 all_goals omega
theorem Fl(k n:Int)(B:eT k n=true)(w:Ub):TV 86 #[T1 #[TY T6 k,TY T6 n]] w (T4 #[TY T7 (codeA k n:Nat),TY T6 0]):=by
 have v:=(aw w.heap.size w).alloc (ae _) (Ua #[TY T6 k,TY T6 n] 43);have J:=bK.new w 43 #[TY T6 k,TY T6 n];have u:(w.alloc (Ua #[TY T6 k,TY T6 n] 43)).heap.size=w.heap.size+1:=by simp
 have y:=fun W=>BO k W
 have r:=fun W=>pF k n W
 rw[B]at r;unfold eT at B;obtain⟨T,O,h3,Y⟩:=aN B;have h5:=(Fk k).2;have X:=LJ k;have H:((baseA k:Nat):Int)+n=((codeA k n:Nat):Int):=by unfold codeA;omega
 obtain⟨C,L,F,M⟩:=aB v J u H;clear v J u H;clear B;go_enter func86,ntmps86;go_wp2_with fail;refine(r _).mono ?_;rintro e i ⟨rfl,b⟩;have hz:=b.size;have R:=F.out;have G:=(L.out.below b (by omega)).cell 0;have E:=(L.out.below b (by omega)).cell 1;simp only[ao]at G E;have A:w.heap.size<i.heap.size:=by omega
 have l:=C.out.trans (b.mono (by omega));have z:=Lib.hid l;clear l;clear b;go_wp2_with fail;refine(y _).mono ?_;rintro e N ⟨c,o⟩;rw[aj ⟨T,O⟩]at o;obtain⟨s,fv,rfl,a⟩:=o;have U:=c.size;have d0:=(c.cell (p:=⟨w.heap.size,0,none⟩) A).trans G;have Z:=(c.cell (p:=⟨w.heap.size,1,none⟩) A).trans E;have V:w.heap.size<N.heap.size:=by omega
 have m:=z.out.trans (c.mono (by omega));clear G E c y r;have x:=Lib.hid m;clear m;obtain⟨i,rfl⟩:∃i:Ub,i=N:=⟨_,rfl⟩;unfold qR at a;by_cases j:k=4\/k=6
 ·rw[aj j]at a;obtain⟨g,rfl,_,_⟩:=a;clear j;skip;have t:=bK.new i 267 #[.string s,TY T7 (baseA k:Nat),(.func (.func 350) #[] #[TZ (some ⟨g,0,none⟩)])];have d:(i.alloc (Ua #[.string s,TY T7 (baseA k:Nat),(.func (.func 350) #[] #[TZ (some ⟨g,0,none⟩)])] 267)).heap.size=i.heap.size+1:=by simp
  have f:=x.out.alloc (by omega) (Ua #[.string s,TY T7 (baseA k:Nat),(.func (.func 350) #[] #[TZ (some ⟨g,0,none⟩)])] 267);obtain⟨q,S,D⟩:=aC f t d;clear f t d;go_wp2_with fail;go_ret2;exact⟨Qk M.out,q.out⟩
 rw[af j]at a;subst a;clear j;skip;have t:=bK.new i 267 #[.string s,TY T7 (baseA k:Nat),.nilFunc];have d:(i.alloc (Ua #[.string s,TY T7 (baseA k:Nat),.nilFunc] 267)).heap.size=i.heap.size+1:=by simp
 have f:=x.out.alloc (by omega) (Ua #[.string s,TY T7 (baseA k:Nat),.nilFunc] 267);obtain⟨q,S,D⟩:=aC f t d;clear f t d;go_wp2_with fail;go_ret2;exact⟨Qk M.out,q.out⟩
theorem wy(k n:Int)(l:eT k n=true)(w:Ub):TV 32 #[T1 #[TY T6 k,TY T6 n]] w (TY T7 (codeA k n:Nat)):=by
 have d:=(aw w.heap.size w).alloc (ae _) (Ua #[TY T6 k,TY T6 n] 43);have c:(w.alloc (Ua #[TY T6 k,TY T6 n] 43)).heap.size=w.heap.size+1:=by simp
 have g:=fun W=>Fl k n l W
 generalize codeA k n=o at*;obtain⟨i,j⟩:=aA d c;clear d c;clear l;go_enter func32,ntmps32;go_wp2_with fail;refine(g _).mono ?_;rintro e m ⟨rfl,b⟩;have a:=i.out.trans (b.mono (by have:=j.out;omega));have f:=Lib.hid a;clear a;clear b g;go_wp2_with fail;go_ret;exact⟨rfl,f.out⟩
end
end Go.Proofs.YtfammloeljmplaaGreatDoor
