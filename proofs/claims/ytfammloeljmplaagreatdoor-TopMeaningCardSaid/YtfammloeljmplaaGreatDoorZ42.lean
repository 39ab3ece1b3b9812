/- Contracts of comparisons of parts; conditions: each lemma's own. -/
import Derived.Test.YtfammloeljmplaaGreatDoorZ32
import Derived.Test.YtfammloeljmplaaGreatDoorZ40
open Go.Value renaming int->TY,pointer->TZ,slice->T0,agg->T1
open Go.IntKind renaming i64->T6,u32->T7
open Go.Obj renaming cells->Ua
open Go renaming World->Ub,Value->Uc
namespace Go.Proofs.YtfammloeljmplaaGreatDoor
open Go.Proofs.Tryz
set_option maxRecDepth 100000
set_option maxHeartbeats 8000000
set_option linter.unusedVariables false
set_option linter.unusedSimpArgs false
section
open Go.RowKit
structure PV where
 part:dX
 fn:Nat
 caps:Array Uc
 ok:part.number<4294967296
instance:Inhabited PV:=⟨⟨.rules 0 [],0,#[],by show(0:Nat)<_;decide⟩⟩
def PV.enc(x:PV):List Uc:=[TY T7 x.part.number,.func (.func x.fn) #[] x.caps]
theorem PV.SI(x:PV):x.enc.length=2:=rfl
theorem PV.SS(x:PV):∀v∈x.enc,v.oneCell'=true:=fun v hv=>by
 simp only[PV.enc,aP,bQ,eW]at hv;rcases hv with rfl|rfl<;>rfl
structure wM(w:Ub)(B gm r a o gb gp ga go_:Nat)(pl:Pl)(vs:Array Uc):Prop where
 bb:bK w gb 122 #[TZ (some ⟨gm,0,none⟩)]
 bp:bK w gp 67 vs
 ba:bK w ga 3 #[TY T6 a]
 bo:bK w go_ 3 #[TY T6 o]
 pm:jO w B pl vs
 ne:(gb≠gm/\gp≠gm/\ga≠gm/\go_≠gm)/\gb≠r/\gp≠r/\ga≠r/\go_≠r
theorem wM.fr{w w':Ub}{B gm r a o f d c go_:Nat}{e:Pl}{vs:Array Uc}(h:wM w B gm r a o f d c go_ e vs)(b:Fr B gm r w w'):wM w' B gm r a o f d c go_ e vs:=
 ⟨b.blk h.bb (by decide) h.ne.1.1 h.ne.2.1,b.blk h.bp (by decide) h.ne.1.2.1 h.ne.2.2.1,b.blk h.ba (by decide) h.ne.1.2.2.1 h.ne.2.2.2.1,b.blk h.bo (by decide) h.ne.1.2.2.2 h.ne.2.2.2.2,h.pm.below b.below,h.ne⟩
theorem wM.grows{w w':Ub}{B gm r a o f d c go_:Nat}{e:Pl}{vs:Array Uc}(h:wM w B gm r a o f d c go_ e vs)(b:Below w.heap.size w w')(g:B<=w.heap.size):wM w' B gm r a o f d c go_ e vs:=
 ⟨h.bb.below b h.bb.lt,h.bp.below b h.bp.lt,h.ba.below b h.ba.lt,h.bo.below b h.bo.lt,h.pm.below (b.mono g),h.ne⟩
def kr(w:Ub)(B gm r d f e go_:Nat)(b:Pl)(p:PV):Prop:=match p.part with
 | .rules n l=>p.fn=164/\∃a A c,p.caps=#[TZ (some ⟨d,0,none⟩),TZ (some ⟨a,0,none⟩),TZ (some ⟨e,0,none⟩),TZ (some ⟨go_,0,none⟩)]/\bK w a 109 #[TY T7 n,T0 A l.length c]/\Nu w B A l/\a≠gm/\a≠r
 | .subs n l=>((p.fn=166/\l=b.subs.getD 0 [])\/(p.fn=168/\l=b.subs.getD 1 []))/\p.caps=#[TZ (some ⟨d,0,none⟩),TZ (some ⟨f,0,none⟩),TZ (some ⟨go_,0,none⟩)]
theorem kr.keep{w w':Ub}{B gm r b d a go_:Nat}{e:Pl}{p:PV}(h:kr w B gm r b d a go_ e p)(g:aU 109 w w')(m:Below B w w'):kr w' B gm r b d a go_ e p:=by
 unfold kr at h⊢;split at h
 ·obtain⟨j,n,A,c,f,l,i,k⟩:=h;exact⟨j,n,A,c,f,g _ _ _ l,i.below m,k⟩
 exact h
theorem kr.fr{w w':Ub}{B gm r e c a go_:Nat}{s:Mk}{d:Pl}{p:PV}(h:kr w B gm r e c a go_ d p)(f:iz w B gm r s)(b:Fr B gm r w w'):kr w' B gm r e c a go_ d p:=
 h.keep (b.Su f (by decide) (by decide)) b.below
theorem vX{α:Type}(c:α->Nat):∀{l d:List α},l.Perm d->(l.Pairwise fun x y=>c x<c y)->(d.Pairwise fun x y=>c x<c y)->l=d
 |[],d,h,_,_=>(List.Perm.nil_eq h)
 |a::t,[],h,_,_=>absurd h.length_eq (by simp)
 |a::t,b::j,h,i,f=>by
  rw[Sh]at i f;have g:a=b:=by
   rcases aP.1 (h.mem_iff.1 (show a∈a::t by simp))with e|e
   ·exact e
   have k:=f.1 a e;rcases aP.1 (h.mem_iff.2 (show b∈b::j by simp))with e2|e2
   ·exact e2.symm
   have m:=i.1 b e2;omega
  subst g;rw[vX c ((List.perm_cons a).1 h) i.2 f.2]
theorem swo_num{α:Type}(a:α->Nat):Go.Sort.SWO (Go.Proofs.ltOf fun x y:α=>((a x:Int) - (a y:Int))) where
 irrefl x:=by simp[Go.Proofs.ltOf]
 trans x y z h1 h2:=by simp only[Go.Proofs.ltOf,aV]at*;omega
 ntrans x y z h1 h2:=by simp only[Go.Proofs.ltOf,dh]at*;omega
theorem Eh:qE prog 170 #[] PV.enc (fun x y=>((x.part.number:Int) - (y.part.number:Int))):=fun x y w=>by
 have j:=x.ok;have i:=y.ok;show Calls prog _ #[T1 #[TY T7 x.part.number,.func (.func x.fn) #[] x.caps],T1 #[TY T7 y.part.number,.func (.func y.fn) #[] y.caps]] w fun e w'=>e=.returned (TY T6 ((x.part.number:Int) - (y.part.number:Int)))/\Below w.heap.size w w'/\w.drawn<=w'.drawn
 generalize x.part.number=n1 at*;generalize y.part.number=n2 at*;generalize x.caps=g;generalize y.caps=c;generalize x.fn=d;generalize y.fn=b;have a:=((aw w.heap.size w).alloc (ae _) (Ua #[TY T7 n1,.func (.func d) #[] g] 220)).alloc (by simp) (Ua #[TY T7 n2,.func (.func b) #[] c] 220);have f:=Lib.hid a;clear a;go_enter func170,ntmps170;go_wp2_with fail;go_ret;exact⟨rfl,f.out,ae _⟩
end
end Go.Proofs.YtfammloeljmplaaGreatDoor
