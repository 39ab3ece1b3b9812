/- The contract of sorted keys; conditions: each lemma's own. -/
import Derived.Test.YtfammloeljmplaaGreatDoorZ18
import Derived.Test.YtfammloeljmplaaGreatDoorZ29
open Go.Value renaming int->TY,pointer->TZ,slice->T0
open Go.IntKind renaming u32->T7
open Go renaming World->Ub,Value->Uc
namespace Go.Proofs.YtfammloeljmplaaGreatDoor
open Go.Proofs.Tryz
set_option maxRecDepth 100000
set_option maxHeartbeats 8000000
set_option linter.unusedVariables false
set_option linter.unusedSimpArgs false
section
open Go.RowKit Go.Maps Go.Shelf
def vw(l:List Nat):List Uc:=l.map fun c:Nat=>Value.int T7 (c:Int)
theorem UB.row{w:Ub}{g n cap:Nat}(h:UB w g n):∃l:List Nat,l.length=n/\(∀c∈l,c<4294967296)/\fB w 28 1 (some ⟨g,0,none⟩) n (vw l):=by
 obtain⟨G,i,b⟩:=h.TP;obtain⟨a,d,_⟩:=h;refine⟨(List.range n).map G,by simp,fun c b=>by obtain⟨k,_,rfl⟩:=bt.1 b;exact i k,by simp[vw],fun m=>⟨g,0,a,(0,0),rfl,d,fun j v hv=>?_⟩⟩;have f:j<n:=by
  have:=(cF.1 hv).1;simpa[vw]using this
 have:=b j f;simp only[World.cell?,d]at this;have e:v=TY T7 (G j:Nat):=by
  simp[vw,f]at hv;exact hv.symm
 rw[e,cV];simpa using this
theorem Fx(o b:Nat)(D:DataW Unit)(w:Ub)(B:o<w.heap.size)(O:w.cell? ⟨o,0,none⟩=some (.map (some b)))(n:Nat)(i:w.ownsMap prog 28 mK b n D)(M:Maps.size D<=1000000):
  Calls prog 51 #[.func (.func 104) #[] #[TZ (some ⟨o,0,none⟩)]] w fun e w'=>∃(A:Option Addr) (n c:Nat) (l:List Nat),e=.returned (T0 A n c)/\l.length=n/\n<=Maps.size D/\(∀c∈l,c<4294967296)/\fB w' 28 1 A n (vw l)/\Below w.heap.size w w':=by
 have E:=fun k (s:1<=k)=>Fy Fence.wide k trivial rfl s o b n D w B O i
 generalize Maps.size D=N at*;have t:=C7 104 #[TZ (some ⟨o,0,none⟩)] (enters_of func104 (by kernel_rfl) rfl) N M w (E 3 (by omega));clear E;go_enter func51,ntmps51;go_wp2_with fail;refine t.mono ?_;rintro e p ⟨v,f,rfl,R,H,C⟩;rcases H.2 with⟨rfl,V⟩|⟨g,cap,m,rfl,a,y,U,W,T,F⟩
 ·have d:=Aw p;go_wp2_with fail;refine d.mono ?_;rintro e S ⟨rfl,r⟩;subst r;go_wp2_with fail;go_ret;exact⟨none,0,0,[],rfl,rfl,iS _,fun c t=>by(cases t),fB.none_,C⟩
 have G:UB p g f.length:=⟨m,y,fun k s=>by
  refine⟨(f[k]).1,(f[k]).2,?_⟩;have q:(m.toList.take (f.length*1))[k]? =(f.map rY)[k]? :=by rw[F]
  rw[jC (by omega),gU]at q;rw[q];simp[s,rY]⟩
 have d:=IA g f.length cap (by omega) p G;go_wp2_with fail;refine d.mono ?_;rintro e S ⟨rfl,x,u⟩;obtain⟨l,J,z,L⟩:=x.row (cap:=cap);go_wp2_with fail;go_ret;exact⟨_,_,_,l,rfl,J,by omega,z,L,C.grown u C.size (fun j e=>by cases e;exact a)⟩
end
end Go.Proofs.YtfammloeljmplaaGreatDoor
