/- Contracts of sorting numbers; conditions: each lemma's own. -/
import Derived.Test.YtfammloeljmplaaGreatDoorZ16
import Derived.Test.YtfammloeljmplaaGreatDoorZ17
open Go.Value renaming int->TY,pointer->TZ,slice->T0,bool->T2,tuple->T4
open Go.IntKind renaming i64->T6,u32->T7,u64->T8
open Go.Obj renaming cells->Ua
open Go renaming World->Ub,Value->Uc
namespace Go.Proofs.YtfammloeljmplaaGreatDoor
open Go.Proofs.Tryz
set_option maxRecDepth 100000
set_option maxHeartbeats 8000000
set_option linter.unusedVariables false
set_option linter.unusedSimpArgs false
section
open Go.RowKit
def XU(W:Ub)(c:Nat):Prop:=∃v:Nat,v<18446744073709551616/\W.cell? ⟨c,0,none⟩=some (TY T8 v)/\W.frozen? ⟨c,0,none⟩=false
theorem XU.drewN{W:Ub}{c:Nat}(h:XU W c)(m:Nat):XU (W.drewN m) c:=h
theorem XU.set_{W:Ub}{c:Nat}(h:XU W c)(v:Nat)(hv:v<18446744073709551616):XU (W.setCell ⟨c,0,none⟩ (TY T8 v)) c:=by
 obtain⟨u,_,b,a⟩:=h;exact⟨v,hv,jA _ _ _ (by rw[b];rfl),(lr _ _ _ _).trans a⟩
theorem J0(v:Nat)(z:Int)(hv:v<18446744073709551616)(b:0<=z)(a:z<18446744073709551616):∃y:Nat,y<18446744073709551616/\bits .xor T8 (v:Int) z=(y:Nat):=by
 refine⟨v ^^^ z.toNat,Sf (n:=64) hv (by omega),?_⟩;have e:z=(z.toNat:Int):=by omega
 rw[e,bits_xor_u64_nat v z.toNat hv (by omega)];rfl
theorem Fz(v:Nat)(z:Int)(hv:v<18446744073709551616):∃y:Nat,y<18446744073709551616/\bits .xor T8 (v:Int) (IntKind.u64.wrap z)=(y:Nat):=
 J0 v _ hv (by rw[IntKind.wrap_u64];omega) (by rw[IntKind.wrap_u64];omega)
theorem Of(c:Nat)(w:Ub)(o:XU w c):
  Calls prog 226 #[TZ (some ⟨c,0,none⟩)] w fun e w'=>
   (∃x:Nat,x<18446744073709551616/\e=.returned (TY T8 x))/\XU w' c/\w.grownBy w' (some c):=by
 obtain⟨v,hv,k,j⟩:=id o;obtain⟨y,f,a⟩:=Fz v ((v:Int)*8192) hv;have b:=Lib.hid a;clear a;go_enter func226,ntmps226;go_wp2_with fail;go_cut [10] from 3 to 10 (fun s d=>XU d c/\w.grownBy d (some c))
 case first=>
  go_region
  go_wp2_with fail;go_meet
  rw[b.out];exact⟨(o.set_ y f).drewN 1,eM (cQ (cj _ _) _ _)⟩
 case rest=>
  obtain⟨g,l⟩:=hcut;clear o hv k j f b;obtain⟨v,hv,k,j⟩:=id g;obtain⟨y,f,a⟩:=J0 v ((v:Int) / 128) hv (by omega) (by omega);have b:=Lib.hid a;clear a;go_wp2_with fail;go_cut [19] from 12 to 19 (fun r d=>XU d c/\w.grownBy d (some c))
  case first=>
   go_region
   go_wp2_with fail;go_meet
   rw[b.out];exact⟨(g.set_ y f).drewN 1,eM (cQ l _ _)⟩
  case rest=>
   obtain⟨i,m⟩:=hcut;clear g l hv k j f b;obtain⟨v,hv,k,j⟩:=id i;obtain⟨y,f,a⟩:=Fz v ((v:Int)*131072) hv;have b:=Lib.hid a;clear a;go_wp2_with fail;go_cut [28] from 21 to 28 (fun q d=>XU d c/\w.grownBy d (some c))
   case first=>
    go_region
    go_wp2_with fail;go_meet
    rw[b.out];exact⟨(i.set_ y f).drewN 1,eM (cQ m _ _)⟩
   case rest=>
    obtain⟨n,p⟩:=hcut;clear i m hv k j f b;obtain⟨v,hv,k,j⟩:=id n;go_wp2_with fail;go_ret;exact⟨⟨v,hv,rfl⟩,n,p⟩
theorem th:∀(f l:Nat),l<f->1<=l->l<2 ^ 64->2 ^ Lib.bitLen l<=2*l
 |0,l,h,_,_=>absurd h (by omega)
 |f+1,l,h,b,a=>by
  rw[Lib.bitLen_half l (by omega) a,Nat.pow_add,Nat.pow_one];rcases dB l 2 with e|e
  ·obtain rfl:l=1:=by omega
   decide
  have:=th f (l / 2) (by omega) (by omega) (by omega);omega
theorem Ca(l:Nat)(a:1<=l)(b:l<=1000000):Lib.bitLen l<=62:=by
 have:=th (l+1) l (by omega) a (by omega);rcases dB 62 (Lib.bitLen l)with h|h
 ·have c:2 ^ 63<=2 ^ Lib.bitLen l:=gk (by omega) h;omega
 exact h
theorem FA(l:Nat)(f:1<=l)(i:l<=1000000)(w:Ub):Calls prog 225 #[TY T6 l] w fun e w'=>(∃M:Nat,1<=M/\M<=2*l/\e=.returned (TY T8 M))/\w'=w:=by
 have d:=th (l+1) l (by omega) f (by omega);have m:=Ca l f i;have c:=qQ (l:Int) w (by omega) (by omega);simp only[dI]at c;have a:1<=2 ^ Lib.bitLen l:=Nat.one_le_two_pow;generalize Lib.bitLen l=L at*;obtain⟨g,b⟩:=aA d a;clear d a;go_enter func225,ntmps225;go_wp2_with fail;refine c.mono ?_;rintro e k ⟨rfl,rfl⟩;clear c;go_wp2_with fail;go_ret;refine⟨⟨2 ^ L,b.out,g.out,?_⟩,rfl⟩;have j:=g.out;have e:(2:Int) ^ L=((2 ^ L:Nat):Int):=by push_cast;rfl
 have e2:IntKind.u64.wrap ((2:Int) ^ L)=((2 ^ L:Nat):Int):=by
  rw[IntKind.wrap_u64,e];generalize 2 ^ L=M at j⊢;omega
 show Ending.returned (TY T8 (IntKind.u64.wrap ((2:Int) ^ L)))=_
 rw[e2]
theorem PJ(x M:Nat)(a:x<18446744073709551616)(c:1<=M)(b:M<=2000000):∃o:Nat,o<M/\bits .and T8 (x:Int) ((M:Int) - 1)=(o:Nat):=by
 refine⟨x&&&(M - 1),fF Nat.and_le_right (by omega),?_⟩;rw[show(M:Int) - 1=((M - 1:Nat):Int)by omega,u64_and_nat x (M - 1) a (by omega)]
theorem XU.new(w:Ub)(t:TypeId)(v:Nat)(hv:v<18446744073709551616):XU (w.alloc (Ua #[TY T8 v] t)) w.heap.size:=
 ⟨v,hv,by rw[World.cell?_alloc_at _ _ _ _ rfl];rfl,by unfold World.frozen?;rw[cq];rfl⟩
theorem XU.far{W:Ub}{c:Nat}(h:XU W c){p:Addr}(a:c≠p.block)(u:Uc):XU (W.setCell p u) c:=by
 obtain⟨v,hv,d,b⟩:=h;exact⟨v,hv,(dn _ _ _ _ (fun e=>a (by rw[e]))).trans d,(lr _ _ _ _).trans b⟩
def KX(g n c:Nat)(w W:Ub):Prop:=UB W g n/\XU W c/\W.os=w.os/\W.tape=w.tape/\W.output=w.output/\w.heap.size<=W.heap.size/\∀k,k<w.heap.size->k≠g->k≠c->W.heap[k]? =w.heap[k]?
theorem KX.next{g n c:Nat}{w X Y:Ub}(h:KX g n c w X)(j:XU Y c)(a:X.grownBy Y (some c))(b:g≠c):KX g n c w Y:=
 ⟨h.1.grown a (fun e=>b (by injection e)),j,a.os.trans h.2.2.1,a.tape.trans h.2.2.2.1,a.output.trans h.2.2.2.2.1,ax h.2.2.2.2.2.1 a.size,
   fun k d i f=>(a.block k (bn d h.2.2.2.2.2.1) (fun e=>f (by injection e))).trans (h.2.2.2.2.2.2 k d i f)⟩
theorem KX.set_{g n c:Nat}{w X:Ub}(h:KX g n c w X)(a:g≠c)(k x:Nat)(i:x<4294967296):KX g n c w (X.setCell ⟨g,k,none⟩ (TY T7 x)):=
 ⟨h.1.set_ k x i,h.2.1.far (fun e=>a e.symm) _,h.2.2.1,h.2.2.2.1,h.2.2.2.2.1,by simpa[World.setCell]using h.2.2.2.2.2.1,
   fun j d b f=>(cK X _ _ _ (fun e=>b e)).trans (h.2.2.2.2.2.2 j d b f)⟩
theorem KX.drew{g n c:Nat}{w X:Ub}(h:KX g n c w X):KX g n c w X.drew:=h
theorem KX.out{g n:Nat}{w W:Ub}{o:Obj}(h:KX g n w.heap.size (w.alloc o) W):w.grownBy W (some g):=
 ⟨h.2.2.1,h.2.2.2.1,h.2.2.2.2.1,ax (by simp) h.2.2.2.2.2.1,fun k a b=>(h.2.2.2.2.2.2 k (by simp;omega) (fun e=>b (by rw[e])) (by omega)).trans (iN w o k a)⟩
theorem uA(g n cap a b:Nat)(w:Ub)(O:UB w g n)(hn:n<=1000000)(S:a+8<=b)(V:b<=n):
  Calls prog 248 #[T0 (some ⟨g,0,none⟩) n cap,TY T6 a,TY T6 b] w (Og g n w):=by
 obtain⟨l,hl⟩:∃l:Nat,(b:Int) - (a:Int)=(l:Nat):=⟨b - a,by omega⟩;have f:g≠w.heap.size:=Ru O.lt;have U:8<=l:=by omega
 have b1:l<=1000000:=by omega
 have b2:a<=1000000:=by omega
 have b3:b<=1000000:=by omega
 have hK:KX g n w.heap.size (w.alloc (Ua #[TY T8 l] 339)) (w.alloc (Ua #[TY T8 l] 339)):=
  ⟨O.alloc _,XU.new w _ l (by omega),rfl,rfl,rfl,ae _,fun _ _ _ _=>rfl⟩
 obtain⟨q,N⟩:∃q:Nat,q=l / 4:=⟨_,rfl⟩;have hq:(l:Int).tdiv 4=(q:Nat):=by rw[iX (by omega)];omega
 have b4:q<=1000000:=by omega
 obtain⟨i,hi⟩:∃i:Nat,(a:Int)+(q:Int)*2=(i:Nat):=⟨a+q*2,by omega⟩;have B:a+1<=i/\i+1<b/\b<=n/\b=a+l:=by omega
 have b5:i<=1000000:=by omega
 have b6:1<=i:=by omega
 have x:=Lib.hid B;have T:=fun W=>FA l (by omega) b1 W
 clear O B N S V;go_enter func248,ntmps248;go_wp2_with fail;refine(T _).mono ?_;rintro e w1 ⟨⟨M,J,aE,rfl⟩,rfl⟩;clear T;have b7:M<=2000000:=by omega
 go_wp2_with fail;have v:∀W,KX g n w.heap.size (w.alloc (Ua #[TY T8 l] 339)) W->w.grownBy W (some g):=fun W h=>h.out
 generalize w.alloc (Ua _ 339)=w0 at*;generalize w.heap.size=c at*;have HF:=Lib.hid v;clear v;go_loopw [9] (fun i0 wr=>∃s:Nat,i0=TY T6 s/\i<=s+1/\s<=i+2/\KX g n c w0 wr)
  (fun i0 _=>i+2 - (intOf i0).toNat)
 case atStart=>exact⟨i - 1,by congr 1;omega,by omega,by omega,hK⟩
 case round=>
  obtain⟨s,rfl,al,Y,m⟩:=hrel;by_cases ab:s<=i+1
  ·have F:(s:Int)<=(i:Int)+1:=by omega
   go_wp2_with fail;refine(Of c _ m.2.1).mono ?_
   rintro e w2 ⟨⟨r,hr,rfl⟩,D,G⟩;have d:=m.next D G f;obtain⟨o,ho,an⟩:=PJ r M hr J b7;have b8:o<=2000000:=by omega
   clear m D G;by_cases ad:l<=o
   ·have C:(l:Int)<=(o:Nat):=by omega
    obtain⟨u,ai⟩:∃u:Nat,(o:Int) - (l:Nat)=(u:Nat):=⟨o - l,by omega⟩;have am:u<l:=by omega
    go_wp2_with fail;obtain⟨E,p,H⟩:=d.1.cell (a+u) (by have:=x.out;omega)
    have X:=d.1.frozen (a+u);obtain⟨y1,k,L⟩:=d.1.cell s (by have:=x.out;omega);have Z:=d.1.frozen s;have h6:a+u<n:=by have:=x.out;omega
    have h7:s<n:=by have:=x.out;omega
    have R:(a:Int)+((u:Nat):Int)=((a+u:Nat):Int):=by omega
    generalize A:a+u=z at*;rcases tD s z with h9|h9|h9
    ·have y:¬s=z:=by omega
     have t:¬z=s:=by omega
     have j:=((d.set_ f s E p).set_ f z y1 k).drew;clear A;go_region;go_wp2_with fail;go_roundw;case rel=>exact⟨s+1,by go_num,by omega,by omega,j⟩
     case measure=>simp[intOf]<;>omega
    ·subst h9;have j:=((d.set_ f s y1 k).set_ f s y1 k).drew;clear A;go_region;go_wp2_with fail;go_roundw;case rel=>exact⟨s+1,by go_num,by omega,by omega,j⟩
     case measure=>simp[intOf]<;>omega
    have y:¬s=z:=by omega
    have t:¬z=s:=by omega
    have j:=((d.set_ f s E p).set_ f z y1 k).drew;clear A;go_region;go_wp2_with fail;go_roundw;case rel=>exact⟨s+1,by go_num,by omega,by omega,j⟩
    case measure=>simp[intOf]<;>omega
   have C:¬(l:Int)<=(o:Nat):=by omega
   go_wp2_with fail;obtain⟨E,p,H⟩:=d.1.cell (a+o) (by have:=x.out;omega)
   have X:=d.1.frozen (a+o);obtain⟨y1,k,L⟩:=d.1.cell s (by have:=x.out;omega);have Z:=d.1.frozen s;have h6:a+o<n:=by have:=x.out;omega
   have h7:s<n:=by have:=x.out;omega
   have R:(a:Int)+((o:Nat):Int)=((a+o:Nat):Int):=by omega
   generalize A:a+o=z at*;rcases tD s z with h9|h9|h9
   ·have y:¬s=z:=by omega
    have t:¬z=s:=by omega
    have j:=((d.set_ f s E p).set_ f z y1 k).drew;clear A;go_region;go_wp2_with fail;go_roundw;case rel=>exact⟨s+1,by go_num,by omega,by omega,j⟩
    case measure=>simp[intOf]<;>omega
   ·subst h9;have j:=((d.set_ f s y1 k).set_ f s y1 k).drew;clear A;go_region;go_wp2_with fail;go_roundw;case rel=>exact⟨s+1,by go_num,by omega,by omega,j⟩
    case measure=>simp[intOf]<;>omega
   have y:¬s=z:=by omega
   have t:¬z=s:=by omega
   have j:=((d.set_ f s E p).set_ f z y1 k).drew;clear A;go_region;go_wp2_with fail;go_roundw;case rel=>exact⟨s+1,by go_num,by omega,by omega,j⟩
   case measure=>simp[intOf]<;>omega
  have F:¬(s:Int)<=(i:Int)+1:=by omega
  go_wp2_with fail;go_end0
  exact⟨rfl,m.1,HF.out _ m⟩
theorem wV(g n cap a b:Nat)(w:Ub)(Y:UB w g n)(hn:n<=1000000)(ab:a<b)(hb:b<=n):
  Calls prog 251 #[T0 (some ⟨g,0,none⟩) n cap,TY T6 a,TY T6 b] w fun e w'=>
   (e=.returned (T2 true)\/e=.returned (T2 false))/\UB w' g n/\w.grownBy w' (some g):=by
 go_enter func251,ntmps251;go_wp2_with fail;go_loopw [7,8] (fun i j wr=>∃q k:Nat,i=TY T6 q/\j=TY T6 k/\a<q/\q<=b/\k<=5/\UB wr g n/\w.grownBy wr (some g))
  (fun _ j _=>5 - (intOf j).toNat)
 case atStart=>exact⟨a+1,0,by go_num,rfl,by omega,by omega,by omega,Y,cj _ _⟩
 case round=>
  obtain⟨i0,k,rfl,rfl,N,R,hk,t,J⟩:=hrel;clear Y;by_cases O:(k:Int)<5
  ·iterate 20 go_step
   go_cut [7] from 17 to 34 (fun s7 z=>∃q:Nat,s7=TY T6 q/\a<q/\q<=b/\UB z g n/\w.grownBy z (some g))
   case first=>
    go_step;go_loopw [7] (fun i m=>∃q:Nat,i=TY T6 q/\a<q/\q<=b/\UB m g n/\w.grownBy m (some g))
     (fun i _=>b - (intOf i).toNat)
    case atStart=>exact⟨i0,rfl,N,R,t,J⟩
    case round=>
     obtain⟨i1,rfl,E,B,c,l⟩:=hrel;clear t J;by_cases V:(i1:Int)<(b:Nat)
     ·obtain⟨x,D,r⟩:=c.cell i1 (by omega);obtain⟨y,C,s⟩:=c.cell (i1 - 1) (by omega);have L:=c.frozen i1;have M:=c.frozen (i1 - 1);have X:i1<n:=by omega
      have S:i1 - 1<n:=by omega
      have T:i1<b:=by omega
      go_wp2_with fail;go_quiet (first|(go_at_call 252;refine Calls.quiet_of_same (eD _ _ _)))
      go_wp2_with fail
      ·go_roundw;case rel=>exact⟨i1+1,by go_num,by omega,by omega,c.drewN nq,cD l nq⟩
       case measure=>simp[intOf]<;>omega
      go_meet
      exact⟨i1,rfl,E,B,c.drewN nq,cD l nq⟩
     have hf:decide ((i1:Int)<(b:Nat))=false:=aK V;have an:decide (i1<b)=false:=aK (by omega);go_wp2_with fail;go_quiet (first|(go_at_call 252;refine Calls.quiet_of_same (eD _ _ _)));go_wp2_with fail;go_meet;exact⟨i1,rfl,E,B,c.drewN nq,cD l nq⟩
   case rest=>
    obtain⟨i1,rfl,E,B,c,l⟩:=hcut;clear t J;by_cases ag:(i1:Int)=(b:Nat)
    ·go_wp2_with fail;go_ret
     exact⟨.inl rfl,c,l⟩
    by_cases ak:(b:Int) - (a:Int)<50
    ·go_wp2_with fail;go_ret
     exact⟨.inr rfl,c,l⟩
    obtain⟨x,D,r⟩:=c.cell i1 (by omega);obtain⟨y,C,s⟩:=c.cell (i1 - 1) (by omega);have L:=c.frozen i1;have M:=c.frozen (i1 - 1);have X:i1<n:=by omega
    have S:i1 - 1<n:=by omega
    have T:a<i1:=by omega
    go_wp2_with fail;go_cut [57] from 42 to 57 (fun ai z=>UB z g n/\w.grownBy z (some g))
    case first=>
     go_region
     go_wp2_with fail;go_meet
     exact⟨((c.set_ i1 y C).set_ (i1 - 1) x D).drew,eM (cQ (cQ l _ _) _ _)⟩
    case rest=>
     obtain⟨v,u⟩:=hcut;clear c l r s L M D C;go_at_K;go_step;go_step;go_cut [9] from 58 to 94 (fun s9 z=>UB z g n/\w.grownBy z (some g))
     case first=>
      by_cases G:(2:Int)<=(i1:Int) - (a:Int)
      ·go_wp2_with fail;go_loopw [9] (fun i m=>∃F:Nat,i=TY T6 F/\F<n/\UB m g n/\w.grownBy m (some g))
        (fun i _=>(intOf i).toNat)
       case atStart=>exact⟨i1 - 1,by congr 1;omega,by omega,v,u⟩
       case round=>
        obtain⟨d,rfl,H,f,o⟩:=hrel;clear v u G X S T;by_cases U:(1:Int)<=(d:Nat)
        ·obtain⟨x,D,r⟩:=f.cell d H;obtain⟨y,C,s⟩:=f.cell (d - 1) (by omega);have L:=f.frozen d;have M:=f.frozen (d - 1);have S:d - 1<n:=by omega
         have T:0<d:=by omega
         go_wp2_with fail;go_quiet (first|(go_at_call 252;refine Calls.quiet_of_same (eD _ _ _)))
         go_wp2_with fail
         ·go_meet
          exact⟨f.drewN nq,cD o nq⟩
         go_region
         go_wp2_with fail;go_roundw
         case rel=>exact⟨d - 1,by congr 1;omega,by omega,(((f.drewN nq).set_ d y C).set_ (d - 1) x D).drew,eM (cQ (cQ (cD o nq) _ _) _ _)⟩
         case measure=>simp[intOf]<;>omega
        have W:¬(1:Int)<=(d:Nat):=U;go_wp2_with fail;go_meet;exact⟨f,o⟩
      have h3:¬(2:Int)<=(i1:Int) - (a:Int):=G;go_wp2_with fail;go_meet;exact⟨v,u⟩
     case rest=>
      obtain⟨f,o⟩:=hcut;clear v u;by_cases G:(2:Int)<=(b:Int) - (i1:Int)
      ·go_wp2_with fail;go_loopw [10] (fun i m=>∃F:Nat,i=TY T6 F/\1<=F/\F<=b/\UB m g n/\w.grownBy m (some g))
        (fun i _=>b - (intOf i).toNat)
       case atStart=>exact⟨i1+1,by go_num,by omega,by omega,f,o⟩
       case round=>
        obtain⟨d,rfl,am,H,p,A⟩:=hrel;clear f o G;by_cases U:(d:Int)<(b:Nat)
        ·obtain⟨x,D,r⟩:=p.cell d (by omega);obtain⟨y,C,s⟩:=p.cell (d - 1) (by omega);have L:=p.frozen d;have M:=p.frozen (d - 1);have h7:d<n:=by omega
         have h8:d - 1<n:=by omega
         have h9:0<d:=by omega
         go_wp2_with fail;go_quiet (first|(go_at_call 252;refine Calls.quiet_of_same (eD _ _ _)))
         go_wp2_with fail
         ·go_roundw;case rel=>exact⟨i1,k+1,rfl,by go_num,by omega,by omega,by omega,p.drewN nq,cD A nq⟩
          case measure=>simp[intOf]<;>omega
         go_region
         go_wp2_with fail;go_roundw
         case rel=>exact⟨d+1,by go_num,by omega,by omega,(((p.drewN nq).set_ d y C).set_ (d - 1) x D).drew,eM (cQ (cQ (cD A nq) _ _) _ _)⟩
         case measure=>simp[intOf]<;>omega
        have W:¬(d:Int)<(b:Nat):=U;go_wp2_with fail;go_roundw;case rel=>exact⟨i1,k+1,rfl,by go_num,by omega,by omega,by omega,p,A⟩
        case measure=>simp[intOf]<;>omega
      have h3:¬(2:Int)<=(b:Int) - (i1:Int):=G;go_wp2_with fail;go_roundw;case rel=>exact⟨i1,k+1,rfl,by go_num,by omega,by omega,by omega,f,o⟩
      case measure=>simp[intOf]<;>omega
  have Z:¬(k:Int)<5:=O;go_wp2_with fail;go_ret;exact⟨.inr rfl,t,J⟩
theorem Oe(g n cap:Nat)(O:n<=1000000)(D a b T:Nat)(w:Ub)(hD:b - a<D+1)(hU:UB w g n)(a2:a<=b)(hb:b<=n)(R:T<=1000000)
 (ih:∀(a' M l':Nat) (W:Ub),M - a'<D->UB W g n->a'<=M->M<=n->l'<=1000000->Calls prog 174 #[T0 (some ⟨g,0,none⟩) n cap,TY T6 a',TY T6 M,TY T6 l'] W (Og g n W)):
 Calls prog 174 #[T0 (some ⟨g,0,none⟩) n cap,TY T6 a,TY T6 b,TY T6 T] w (Og g n w):=by
 have V:=Lib.hid ih;clear ih;go_enter func174,ntmps174;go_wp2_with fail;go_loopw [1,2,3,8,9] (fun s1 s2 s3 s8 s9 wr=>∃(a' M l':Nat) (p q:Bool),s1=TY T6 a'/\s2=TY T6 M/\s3=TY T6 l'/\s8=T2 p/\s9=T2 q/\a'<=M/\M<=n/\M - a'<=D/\l'<=1000000/\UB wr g n/\w.grownBy wr (some g))
  (fun s1 s2 _ _ _ _=>(intOf s2 - intOf s1).toNat)
 case atStart=>exact⟨a,b,T,true,true,rfl,rfl,rfl,rfl,rfl,a2,hb,by omega,R,hU,cj _ _⟩
 case round=>
  obtain⟨a1,b1,l1,p,q,rfl,rfl,rfl,rfl,rfl,h1,N,h3,h4,E,F⟩:=hrel;clear hU hD a2 hb R;obtain⟨s,bx⟩:∃s:Nat,(b1:Int) - (a1:Int)=(s:Nat):=⟨b1 - a1,by omega⟩;have bN:s<=1000000:=by omega
  by_cases b5:s<=12
  ·go_wp2_with fail;refine(uB g n cap a1 b1 _ E O h1 N).mono ?_
   rintro e w2 ⟨rfl,v,r⟩;go_wp2_with fail;go_end0;exact⟨rfl,v,fp F r⟩
  by_cases al:l1=0
  ·subst al;go_wp2_with fail;refine(Da g n cap a1 b1 _ E O h1 N).mono ?_;rintro e w2 ⟨rfl,v,r⟩;go_wp2_with fail;go_end0;exact⟨rfl,v,fp F r⟩
  have ba:¬(l1:Int)=0:=by omega
  have bB:¬(s:Int)<=12:=by omega
  have S:a1+8<=b1:=by omega
  iterate 52 go_step
  go_cut [3,8] from 19 to 41 (fun s3 s8 G=>∃(C:Nat) (p2:Bool),s3=TY T6 C/\s8=T2 p2/\C<=1000000/\UB G g n/\w.grownBy G (some g))
  case first=>
   as_aux_lemma=>
    rcases jD p with hp|hp
    rotate_left
    ·subst hp;go_wp2_with fail;refine(uA g n cap a1 b1 _ E O S N).mono ?_;rintro e w2 ⟨rfl,v,r⟩;replace r:=fp F r;clear E F;go_wp2_with fail;go_meet;exact⟨l1 - 1,false,by congr 1;omega,rfl,by omega,v,r⟩
    subst hp;go_wp2_with fail;go_meet;exact⟨l1,true,rfl,rfl,h4,E,F⟩
  case rest=>
   as_aux_lemma=>
    obtain⟨C,p2,rfl,rfl,u,v,r⟩:=hcut;clear E F ba al;go_at_K;go_step;go_step;go_cut [11,12] from 42 to 48 (fun Y Z G=>∃m h:Nat,Y=TY T6 m/\Z=TY T6 h/\a1<=m/\m<b1/\h<=2/\UB G g n/\w.grownBy G (some g))
    case first=>
     as_aux_lemma=>
      go_wp2_with fail;refine(wW g n cap a1 b1 _ v O S N).mono ?_
      rintro e w3 ⟨⟨m,h,rfl,A,z,hh⟩,k,c⟩;replace c:=fp r c;clear v r;go_wp2_with fail;go_meet;exact⟨m,h,rfl,rfl,A,z,hh,k,c⟩
    case rest=>
     as_aux_lemma=>
      obtain⟨m,h,rfl,rfl,A,z,hh,k,c⟩:=hcut;clear v r;go_at_K;go_step;go_step;go_cut [11,12] from 49 to 60 (fun Y Z G=>∃m h:Nat,Y=TY T6 m/\Z=TY T6 h/\a1<=m/\m<b1/\h<=2/\UB G g n/\w.grownBy G (some g))
      case first=>
       as_aux_lemma=>
        by_cases bi:h=2
        ·subst bi;go_wp2_with fail;refine(vx g n cap a1 b1 _ k O h1 N).mono ?_;rintro e w4 ⟨rfl,i,d⟩;replace d:=fp c d;clear k c;go_wp2_with fail;go_meet;exact⟨b1 - 1 - (m - a1),1,by congr 1;omega,rfl,by omega,by omega,by omega,i,d⟩
        have bp:¬(h:Int)=2:=by omega
        go_wp2_with fail;go_meet
        exact⟨m,h,rfl,rfl,A,z,hh,k,c⟩
      case rest=>
       as_aux_lemma=>
        clear k c A z hh;obtain⟨m,h,rfl,rfl,A,z,hh,k,c⟩:=hcut;go_at_K;go_step;go_step;go_cut [61] from 61 to 72 (fun bR G=>UB G g n/\w.grownBy G (some g))
        case first=>
         as_aux_lemma=>
          rcases jD p2 with hp|hp
          rotate_left
          ·subst hp;go_wp2_with fail;go_meet;exact⟨k,c⟩
          subst hp;rcases jD q with hq|hq
          rotate_left
          ·subst hq;go_wp2_with fail;go_meet;exact⟨k,c⟩
          subst hq;by_cases a9:h=1
          ·subst a9;go_wp2_with fail;refine(wV g n cap a1 b1 _ k O (by omega) N).mono ?_;rintro e w4 ⟨rfl|rfl,i,d⟩
           ·replace d:=fp c d;clear k c;go_wp2_with fail;go_end0;exact⟨rfl,i,d⟩
           replace d:=fp c d;clear k c;go_wp2_with fail;go_meet;exact⟨i,d⟩
          have bp:¬(h:Int)=1:=by omega
          go_wp2_with fail;go_meet
          exact⟨k,c⟩
        case rest=>
         as_aux_lemma=>
          obtain⟨i,d⟩:=hcut;clear k c hh;by_cases bs:(0:Int)<(a1:Nat)
          ·obtain⟨x,hx,a7⟩:=i.cell (a1 - 1) (by omega);obtain⟨y,hy,be⟩:=i.cell m (by omega);have fx:=i.frozen (a1 - 1);have fy:=i.frozen m;have k5:a1 - 1<n:=by omega
           have k6:m<n:=by omega
           have k7:0<a1:=by omega
           go_wp2_with fail;go_quiet (first|(go_at_call 252;refine Calls.quiet_of_same (eD _ _ _)))
           clear a7 be fx fy;go_wp2_with fail
           ·refine(tk g n cap a1 b1 m _ (i.drewN nq) O A z N).mono ?_;rintro e w5 ⟨⟨l,rfl,an,av⟩,o,f⟩;replace f:=fp (cD d nq) f;clear i d V;go_wp2_with fail;go_roundw;case rel=>exact⟨l,b1,C,p2,q,rfl,rfl,rfl,rfl,rfl,by omega,by omega,by omega,u,o,f⟩
            case measure=>simp[intOf]<;>omega
           skip
           refine(sA g n cap a1 b1 m _ (i.drewN nq) O A z N).mono ?_;rintro e w5 ⟨⟨l,q5,rfl,an,av⟩,o,f⟩;replace f:=fp (cD d nq) f;obtain⟨H,bm⟩:∃H:Nat,(l:Int) - (a1:Int)=(H:Nat):=⟨l - a1,by omega⟩;obtain⟨L,bf⟩:∃L:Nat,(b1:Int) - (l:Int)=(L:Nat):=⟨b1 - l,by omega⟩;obtain⟨U,a6,a3⟩:∃U:Nat,(s:Int).tdiv 8=(U:Nat)/\U<=1000000:=⟨s / 8,by rw[iX (by omega)];omega,by omega⟩;have ar:H<=1000000:=by omega
           have aE:L<=1000000:=by omega
           have a4:l<=1000000:=by omega
           have J:=fun(W:Ub) (hW:UB W g n)=>V.out a1 l C W (by omega) hW (by omega) (by omega) u
           have t:=fun(W:Ub) (hW:UB W g n)=>V.out (l+1) b1 C W (by omega) hW (by omega) (by omega) u
           replace t:∀W,UB W g n->Calls prog 174 #[T0 (some ⟨g,0,none⟩) n cap,TY T6 ((l:Nat)+1),TY T6 b1,TY T6 C] W (Og g n W):=t;obtain⟨ai,ab⟩:=aA J t;clear V J t i d;by_cases X:(H:Int)<(L:Nat)
           ·go_wp2_with fail;refine(ai.out _ o).mono ?_
            rintro e w6 ⟨rfl,B,j⟩;replace j:=fp f j;clear o f;go_wp2_with fail;go_roundw;case rel=>exact⟨l+1,b1,C,_,q5,by go_num,rfl,rfl,rfl,rfl,by omega,by omega,by omega,u,B,j⟩
            case measure=>simp[intOf]<;>omega
           have am:¬(H:Int)<(L:Nat):=X;go_wp2_with fail;refine(ab.out _ o).mono ?_;rintro e w6 ⟨rfl,B,j⟩;replace j:=fp f j;clear o f;go_wp2_with fail;go_roundw;case rel=>exact⟨a1,l,C,_,q5,rfl,rfl,rfl,rfl,rfl,by omega,by omega,by omega,u,B,j⟩
           case measure=>simp[intOf]<;>omega
          have hf:decide ((0:Int)<(a1:Nat))=false:=aK bs;have b3:decide (0<a1)=false:=aK (by omega);go_wp2_with fail;go_quiet (first|(go_at_call 252;refine Calls.quiet_of_same (eD _ _ _)));go_wp2_with fail;refine(sA g n cap a1 b1 m _ (i.drewN nq) O A z N).mono ?_;rintro e w5 ⟨⟨l,q5,rfl,an,av⟩,o,f⟩;replace f:=fp (cD d nq) f;obtain⟨H,bm⟩:∃H:Nat,(l:Int) - (a1:Int)=(H:Nat):=⟨l - a1,by omega⟩;obtain⟨L,bf⟩:∃L:Nat,(b1:Int) - (l:Int)=(L:Nat):=⟨b1 - l,by omega⟩;obtain⟨U,a6,a3⟩:∃U:Nat,(s:Int).tdiv 8=(U:Nat)/\U<=1000000:=⟨s / 8,by rw[iX (by omega)];omega,by omega⟩;have ar:H<=1000000:=by omega
          have aE:L<=1000000:=by omega
          have a4:l<=1000000:=by omega
          have J:=fun(W:Ub) (hW:UB W g n)=>V.out a1 l C W (by omega) hW (by omega) (by omega) u
          have t:=fun(W:Ub) (hW:UB W g n)=>V.out (l+1) b1 C W (by omega) hW (by omega) (by omega) u
          replace t:∀W,UB W g n->Calls prog 174 #[T0 (some ⟨g,0,none⟩) n cap,TY T6 ((l:Nat)+1),TY T6 b1,TY T6 C] W (Og g n W):=t;obtain⟨ai,ab⟩:=aA J t;clear V J t i d;by_cases X:(H:Int)<(L:Nat)
          ·go_wp2_with fail;refine(ai.out _ o).mono ?_
           rintro e w6 ⟨rfl,B,j⟩;replace j:=fp f j;clear o f;go_wp2_with fail;go_roundw;case rel=>exact⟨l+1,b1,C,_,q5,by go_num,rfl,rfl,rfl,rfl,by omega,by omega,by omega,u,B,j⟩
           case measure=>simp[intOf]<;>omega
          have am:¬(H:Int)<(L:Nat):=X;go_wp2_with fail;refine(ab.out _ o).mono ?_;rintro e w6 ⟨rfl,B,j⟩;replace j:=fp f j;clear o f;go_wp2_with fail;go_roundw;case rel=>exact⟨a1,l,C,_,q5,rfl,rfl,rfl,rfl,rfl,by omega,by omega,by omega,u,B,j⟩
          case measure=>simp[intOf]<;>omega
theorem JZ(g n cap:Nat)(f:n<=1000000):∀(D a b c:Nat) (w:Ub),b - a<D->UB w g n->a<=b->b<=n->c<=1000000->
  Calls prog 174 #[T0 (some ⟨g,0,none⟩) n cap,TY T6 a,TY T6 b,TY T6 c] w (Og g n w)
 |0,_,_,_,_,h,_,_,_,_=>absurd h (by omega)
 |D+1,a,b,c,w,l,r,e,k,d=>Oe g n cap f D a b c w l r e k d fun m j t W p i s o q=>JZ g n cap f D m j t W p i s o q
theorem Iy(w:Ub):TX 246 #[T0 none 0 0,TY T6 0,TY T6 0] w (T4 #[]):=by
 go_enter func246,ntmps246;go_wp2_with fail;go_loopw [6] (fun i wr=>i=TY T6 1/\wr=w) (fun _ _=>0)
 case atStart=>exact⟨rfl,rfl⟩
 case round=>
  obtain⟨rfl,rfl⟩:=hrel;go_wp2_with fail;go_end0;exact⟨rfl,rfl⟩
theorem Iz(w:Ub):TX 174 #[T0 none 0 0,TY T6 0,TY T6 0,TY T6 0] w (T4 #[]):=by
 go_enter func174,ntmps174;go_wp2_with fail;go_loopw [1,2] (fun b a wr=>b=TY T6 0/\a=TY T6 0/\wr=w) (fun _ _ _=>0)
 case atStart=>exact⟨rfl,rfl,rfl⟩
 case round=>
  obtain⟨rfl,rfl,rfl⟩:=hrel;go_wp2_with fail;refine(Iy _).mono ?_;rintro e d ⟨rfl,c⟩;go_wp2_with fail;refine aO (l5 rfl _ _ _) rfl ?_;exact⟨rfl,rfl⟩
theorem C8(n:Nat)(b:n<=1000000):Lib.bitLen n<=1000:=by
 by_cases a:n=0
 ·subst a;decide
 have:=Ca n (by omega) b;omega
theorem IA(g n cap:Nat)(d:n<=1000000)(w:Ub)(j:UB w g n):Calls prog 103 #[T0 (some ⟨g,0,none⟩) n cap] w (Og g n w):=by
 have a:=qQ (n:Nat) w (by omega) (by omega);have i:=C8 n d;rw[dI]at a;generalize Lib.bitLen n=L at*;have f:=JZ g n cap d (n+1) 0 n L w (by omega) j (by omega) (by omega) (by omega);go_enter func103,ntmps103;go_wp2_with fail;refine a.mono ?_;rintro e k ⟨rfl,rfl⟩;go_wp2_with fail;refine f.mono ?_;rintro e l ⟨rfl,b,c⟩;go_wp2_with fail;go_end0;exact⟨rfl,b,c⟩
theorem Aw(w:Ub):TX 103 #[T0 none 0 0] w (T4 #[]):=by
 have a:=qQ (0:Int) w (by omega) (by omega);have f:Lib.bitLen (Int.toNat 0)=0:=by decide
 rw[f]at a;have a:TX 93 #[TY T8 0] w (TY T6 0):=a;have d:=Iz w;go_enter func103,ntmps103;go_wp2_with fail;refine a.mono ?_;rintro e g ⟨rfl,b⟩;subst b;go_wp2_with fail;refine d.mono ?_;rintro e i ⟨rfl,c⟩;subst c;go_wp2_with fail;go_end0;exact⟨rfl,rfl⟩
end
end Go.Proofs.YtfammloeljmplaaGreatDoor
