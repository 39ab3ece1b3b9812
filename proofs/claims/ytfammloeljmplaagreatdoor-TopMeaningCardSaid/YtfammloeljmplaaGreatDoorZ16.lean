/- Contracts of gen's maker; conditions: each lemma's own. -/
import Derived.Test.YtfammloeljmplaaGreatDoorZ15
import Derived.Test.YtfammloeljmplaaGreatDoorZ8
open Go.Value renaming int->TY,pointer->TZ,slice->T0,agg->T1,bool->T2,tuple->T4
open Go.IntKind renaming i64->T6,u32->T7,u16->T9
open Go.Obj renaming cells->Ua
open Go renaming World->Ub,Value->Uc
namespace Go.Proofs.YtfammloeljmplaaGreatDoor
open Go.Proofs.Tryz
set_option maxRecDepth 100000
set_option maxHeartbeats 8000000
set_option linter.unusedVariables false
set_option linter.unusedSimpArgs false
section
open Go.RowKit
def p7(n:Int):Uc:=TY T7 n
def oB(l:List (Nat×Nat)):List (Int×Uc):=l.map fun p=>((p.1:Int),Value.int T6 (p.2:Int))
theorem uV(c:Nat):∀l:List (Nat×Nat),(GMap.look (oB l) (c:Int)).getD (TY T6 0)=TY T6 (lookM l c:Nat)
 |[]=>rfl
 |p::t=>by
  have ih:=uV c t;unfold oB GMap.look at ih⊢;rw[aJ,cG];unfold lookM;by_cases h:p.1=c
  ·subst h;simp
  rw[af h,aK (by show¬(p.1:Int)=(c:Int);omega)];exact ih
theorem En(c m:Nat):∀l:List (Nat×Nat),GMap.put (oB l) (c:Int) (TY T6 m)=oB (kL l c m)
 |[]=>rfl
 |p::t=>by
  have ih:=En c m t;unfold oB at ih⊢;rw[aJ];unfold GMap.put kL;by_cases h:p.1=c
  ·subst h;simp
  rw[af h,af (by show¬(p.1:Int)=(c:Int);omega),ih];rfl
theorem JD:GMap.Keys prog 28 p7:=GMap.keys_int 28 T7 underlying28
structure iz(w:Ub)(B gm r:Nat)(s:Mk):Prop where
 at_:∃v,bK w gm 125 #[v,TY T6 s.marks,.map (some r)]/\w.ownsRow B 129 5 v s.l.length (dq s.l)
 row:GMap.Row w r p7 (oB s.blocks)
 gm:B<=gm
 r:B<=r
structure Fr(B gm r:Nat)(w w':Ub):Prop where
 below:Below B w w'
 keep:∀i,i<w.heap.size->i≠gm->i≠r->(∀cs fr,w.heap[i]? ≠some (Ua cs 129 fr))->w'.heap[i]? =w.heap[i]?
theorem Fr.refl(B gm r:Nat)(w:Ub):Fr B gm r w w:=⟨aw _ _,fun _ _ _ _ _=>rfl⟩
theorem Fr.trans{B gm r:Nat}{a b c:Ub}(h:Fr B gm r a b)(k:Fr B gm r b c):Fr B gm r a c:=
 ⟨h.below.trans k.below,fun i j f d g=>by
   have e:=h.keep i j f d g;exact(k.keep i (bn j h.below.size) f d (fun cs fr e2=>g cs fr (e.symm.trans e2))).trans e⟩
theorem Fr.grows{B gm r:Nat}{a b:Ub}(h:Below a.heap.size a b)(c:B<=a.heap.size):Fr B gm r a b:=⟨h.mono c,fun i d _ _ _=>h.block i d⟩
theorem Fr.drew{B gm r:Nat}{a b:Ub}(h:Fr B gm r a b):Fr B gm r a b.drew:=⟨h.below.drew,h.keep⟩
theorem Fr.blk{B gm r:Nat}{w w':Ub}(h:Fr B gm r w w'){g:Nat}{t:TypeId}{cs:Array Uc}(a:bK w g t cs)(d:t≠129)(b:g≠gm)(f:g≠r):bK w' g t cs:=by
 refine(h.keep g a.lt b f fun c fr e=>?_).trans a;unfold bK at a;rw[a]at e;injection e with e
 injection e with _ e;exact d e
theorem Fr.Su{B gm r:Nat}{w w':Ub}{s:Mk}(h:Fr B gm r w w')(c:iz w B gm r s){t:TypeId}(f:t≠129)(d:t≠125):aU t w w':=fun g i fr a=>by
 obtain⟨v,b,_⟩:=c.at_;refine(h.keep g (dw a) (fun e=>?_) (fun e=>?_) fun j k e=>?_).trans a
 ·subst e;unfold bK at b;rw[b]at a;injection a with a
  injection a with _ a;exact d a.symm
 ·subst e;have:=c.row;unfold GMap.Row at this;rw[this]at a;injection a with a
  cases a
 rw[a]at e;injection e with e
 injection e with _ e;exact f e
section
variable {w w':Ub} {B gm r:Nat} {s:Mk}
theorem iz.lt(h:iz w B gm r s):gm<w.heap.size/\r<w.heap.size:=by
 obtain⟨v,a,_⟩:=h.at_;exact⟨a.lt,h.row.lt⟩
theorem iz.ne(h:iz w B gm r s):gm≠r:=fun e=>by
 obtain⟨v,a,_⟩:=h.at_;subst e;have:=h.row;unfold GMap.Row at this;unfold bK at a;rw[this]at a;injection a with a
 cases a
theorem iz.grows(h:iz w B gm r s)(a:Below w.heap.size w w'):iz w' B gm r s:=by
 obtain⟨v,b,c⟩:=h.at_;exact⟨⟨v,b.below a b.lt,cC a c⟩,h.row.below a h.row.lt,h.gm,h.r⟩
theorem iz.drew(h:iz w B gm r s):iz w.drew B gm r s:=h.grows ((aw _ _).drew)
theorem iz.ptr(h:iz w B gm r s):∃v,w.cell? ⟨gm,0,none⟩=some v/\w.cell? ⟨gm,1,none⟩=some (TY T6 s.marks)/\w.cell? ⟨gm,2,none⟩=some (.map (some r)):=by
 obtain⟨v,a,b⟩:=h.at_;exact⟨v,a.cell 0,a.cell 1,a.cell 2⟩
theorem iz.marks(h:iz w B gm r s):iz (w.setCell ⟨gm,1,none⟩ (TY T6 (s.marks+1:Nat))) B gm r s.mark/\Fr B gm r w (w.setCell ⟨gm,1,none⟩ (TY T6 (s.marks+1:Nat))):=by
 obtain⟨v,d,c⟩:=h.at_;have a:=cY c d (by decide);have b:w.grownBy (w.setCell ⟨gm,1,none⟩ (TY T6 (s.marks+1:Nat))) (some gm):=⟨rfl,rfl,rfl,by simp[World.setCell],fun k j a=>cK w ⟨gm,1,none⟩ _ k (fun e=>a (by rw[e]))⟩;refine⟨⟨⟨v,d.set_ 1 _,c.kept b (.inr a)⟩,h.row.setCell (fun e=>h.ne e.symm) _,h.gm,h.r⟩,⟨(aw B w).setCell (p:=⟨gm,1,none⟩) h.gm _,fun i g f l m=>b.block i g (fun e=>f (by injection e))⟩⟩
theorem iz.Tg(h:iz w B gm r s){v v':Uc}{xs:List It}(o:bK w gm 125 #[v,TY T6 s.marks,.map (some r)])(t:w.ownsRow B 129 5 v s.l.length (dq s.l))(b:w.grownBy w' v.ownBlock)
  (j:w'.ownsRow B 129 5 v' (s.l.length+xs.length) (dq s.l++dq xs)):iz (w'.setCell ⟨gm,0,none⟩ v') B gm r (s.put xs)/\Fr B gm r w (w'.setCell ⟨gm,0,none⟩ v'):=by
 have d:=cY t o (by decide);have l:bK w' gm 125 #[v,TY T6 s.marks,.map (some r)]:=o.grown b (fun e=>d e.symm);have n:=cY j l (by decide);have f:w'.grownBy (w'.setCell ⟨gm,0,none⟩ v') (some gm):=⟨rfl,rfl,rfl,by simp[World.setCell],fun k x d=>cK w' ⟨gm,0,none⟩ _ k (fun e=>d (by rw[e]))⟩;have a:∀g,v.ownBlock=some g->B<=g/\∃cs fr,w.heap[g]? =some (Ua cs 129 fr):=fun g e=>by
  rcases t.2 with⟨rfl,_⟩|⟨z,cap,A,rfl,o,c,_⟩
  ·simp[Value.ownBlock]at e
  obtain rfl:z=g:=by simpa[Value.ownBlock]using e
  exact⟨o,_,_,c⟩
 have C:some r≠v.ownBlock:=fun e=>by
  obtain⟨_,cs,fr,c⟩:=a r e.symm;have:=h.row;unfold GMap.Row at this;rw[this]at c;injection c with c
  cases c
 refine⟨⟨⟨v',l.set_ 0 _,?_⟩,(h.row.grown b C).setCell (fun e=>h.ne e.symm) _,h.gm,h.r⟩,⟨?_,fun i u y E D=>?_⟩⟩
 ·have:=j.kept f (.inr n);rw[jd];show World.ownsRow _ B _ 5 v' _ (dq (s.l++xs))
  rw[zR];exact this
 ·have m:Below B w w':=⟨b.os,b.tape,b.output,b.size,fun k x=>by
    by_cases q:k<w.heap.size
    ·exact b.block k q fun e=>by have:=(a k e.symm).1;omega
    have:=h.lt.1;have:=h.gm;omega⟩
  exact m.setCell (p:=⟨gm,0,none⟩) h.gm _
 have e1:=b.block i u fun e=>by
  obtain⟨_,cs,fr,c⟩:=a i e.symm;exact D cs fr c
 exact(f.block i (bn u b.size) (fun e=>y (by injection e))).trans e1
theorem iz.lays(h:iz w B gm r s){c m:Nat}(j:GMap.Row w' r p7 (GMap.put (oB s.blocks) (c:Int) (TY T6 m)))(a:w.grownBy w' (some r)):iz w' B gm r ⟨s.l,s.marks,kL s.blocks c m⟩/\Fr B gm r w w':=by
 obtain⟨v,f,g⟩:=h.at_;have l:=h.lt;have b:v.ownBlock≠some r:=fun e=>by
  rcases g.2 with⟨rfl,_⟩|⟨o,cap,p,rfl,f,d,_⟩
  ·simp[Value.ownBlock]at e
  obtain rfl:o=r:=by simpa[Value.ownBlock]using e
  have:=h.row;unfold GMap.Row at this;rw[this]at d;injection d with d
  cases d
 rw[En]at j;refine⟨⟨⟨v,f.grown a (fun e=>h.ne (by injection e)),g.kept a (.inr b)⟩,j,h.gm,h.r⟩,⟨⟨a.os,a.tape,a.output,a.size,fun k t=>?_⟩,fun i q u n x=>a.block i q (fun e=>n (by injection e))⟩⟩;have:=h.r;exact a.block k (by omega) fun e=>by injection e with e;omega
end
def dZ(B gm r:Nat)(s:Mk)(v:Uc)(w:Ub)(e:Ending)(w':Ub):Prop:=e=.returned v/\iz w' B gm r s/\Fr B gm r w w'
theorem Bk{s s':Mk}(h:fY s s'):s.mu<=s'.mu:=by
 obtain⟨R,a⟩:=h.pre;have:=h.marks;unfold Mk.mu;rw[a,bw];omega
theorem wa(s:Mk):s.marks<=s.mu:=by unfold Mk.mu;omega
theorem Bl(s:Mk):s.l.length<=s.mu:=by unfold Mk.mu;omega
theorem ku(B gm r:Nat)(s:Mk)(e:s.mark.mu<=1000000)(w:Ub)(c:iz w B gm r s):
  Calls prog 44 #[TZ (some ⟨gm,0,none⟩)] w (dZ B gm r s.mark (TY T6 (s.marks+1:Nat)) w):=by
 have e:=ax (wa _) e;obtain⟨v,a,_⟩:=c.at_;have d:=a.cell 1;have l:=a.frozen 1;simp only[ao]at d;have g:=(a.set_ 1 (TY T6 (s.marks+1:Nat))).cell 1;have f:=c.marks;have o:=a.lt;have b:s.mark.marks=s.marks+1:=rfl;rw[b]at e;have e1:((s.marks:Int)+1)=((s.marks+1:Nat):Int):=by omega
 generalize s.marks=n at*;generalize p:n+1=N at*;have d:w.cell? ⟨gm,1,none⟩=some (TY T6 n):=d;have g:(w.setCell ⟨gm,1,none⟩ (TY T6 N)).cell? ⟨gm,1,none⟩=some (TY T6 N):=g;have i:(N:Int)<=1000001:=by omega
 obtain⟨j,k,m⟩:=aC f c a;clear f c a;clear b;go_enter func44,ntmps44;go_wp2_with fail;go_ret;exact⟨rfl,j.out⟩
theorem GR:(prog.info? 129).map (fun i=>(i.zero,i.size,i.bytes))=some (some (T1 #[TY T6 0,TY T9 0,TY T7 0,TY T6 0,TY T6 0]),5,32):=by kernel_rfl
theorem uU(B gm r:Nat)(s:Mk)(xs:List It)(x:(s.put xs).mu<=1000000)(A:Option Addr)(n c:Nat)(z:xs.length=n)(w:Ub)(d:iz w B gm r s)(E:bh w w.heap.size 5 A n (dq xs)):
  Calls prog 42 #[TZ (some ⟨gm,0,none⟩),T0 A n c] w (dZ B gm r (s.put xs) (T4 #[]) w):=by
 obtain⟨i0,m,l,p,t⟩:=cZ GR;have x:=ax (Bl _) x;rw[jd,z]at x;obtain⟨v,b,u⟩:=d.at_;have q:=b.cell 0;simp only[ao]at q;have q:w.cell? ⟨gm,0,none⟩=some v:=q;have g:=fun(v':Uc) (w':Ub)=>d.Tg (v':=v') (w':=w') (xs:=xs) b u
 rw[z]at g;have i:v.ownBlock≠some gm:=cY u b (by decide);have O:=b.lt;have H:B<=w.heap.size:=by have:=d.gm;omega
 generalize s.l.length=k at*;obtain⟨J,L,D⟩:=aC g d b;clear g d b;go_enter func42,ntmps42;go_wp2_with (at_builtin;go_loud (refine cU _ rfl (.tmp 8) (.tmp 9) 68 rfl B 129 i0 _ 5 32 underlying68 m l p t rfl (by omega) v k (dq s.l) rfl u w.heap.size A n c (dq xs) rfl E (GA _) (by simp only[maxLen];omega) (by omega) H ?_);intro v' w' o j _;obtain⟨N,M,rfl,_⟩:=cX o;have a:=D.out.grown j (fun e=>i e.symm);have C:w'.cell? ⟨gm,0,none⟩=some v:=a.cell 0;have G:=a.frozen 0;have F:=a.lt;have f:=J.out _ w' j o;have y:=Lib.hid f;clear f a o j);go_end0;exact⟨rfl,y.out⟩
theorem kv(B gm r:Nat)(s:Mk)(m:Nat)(o:(s.put [du m]).mu<=1000000)(w:Ub)(f:iz w B gm r s):
  Calls prog 48 #[TZ (some ⟨gm,0,none⟩),TY T6 m] w (dZ B gm r (s.put [du m]) (T4 #[]) w):=by
 have g:=f.lt.1;have c:Below w.heap.size w (w.alloc (Ua #[TY T6 m,TY T9 0,TY T7 0,TY T6 0,TY T6 0] 129)):=(aw _ _).alloc (ae _) _;have k:=uU B gm r s [du m] o (some ⟨w.heap.size,0,none⟩) 1 1 rfl _ (f.grows c) ((gZ w [TY T6 m,TY T9 0,TY T7 0,TY T6 0,TY T6 0] 129 5 1 rfl).more (by simp));have a:=Fr.grows (r:=r) (gm:=gm) c (ax f.gm (dS g));have j:=Lib.hid a;clear a;clear f;go_enter func48,ntmps48;go_wp2_with fail;refine k.mono ?_;rintro e w5 ⟨rfl,d,b⟩;have l:=j.out.trans b;obtain⟨i,n⟩:=aA d l;clear d l;clear k b;go_wp2_with fail;go_end0;exact⟨rfl,i.out,n.out⟩
theorem yr{l:List (Nat×Nat)}{c n:Nat}(h:lookM l c=n):(GMap.look (oB l) (c:Int)).getD (TY T6 0)=TY T6 n:=by rw[uV,h]
theorem ky(B gm r:Nat)(s:Mk)(c:Nat)(o:(s.goes c).mu<=1000000)(w:Ub)(D:iz w B gm r s):
  Calls prog 45 #[TZ (some ⟨gm,0,none⟩),TY T7 c] w (dZ B gm r (s.goes c) (TY T6 (s.to c:Nat)) w):=by
 obtain⟨v,J,_⟩:=D.at_;have c2:w.cell? ⟨gm,2,none⟩=some (.map (some r)):=J.cell 2;have d:=GMap.run_look D.row JD 123 3 underlying123 (c:Int) (TY T6 0) (by kernel_rfl);by_cases h0:lookM s.blocks c=0
 ·have n:s.goes c=⟨s.l,s.marks+1,kL s.blocks c (s.marks+1)⟩:=by unfold Mk.goes;rw[aj h0]
  have m:s.to c=s.marks+1:=by
   unfold Mk.to;rw[n];show lookM (kL s.blocks c (s.marks+1)) c=_
   rw[lE,aj rfl]
  rw[n]at o;rw[n,m];rw[yr h0]at d;have R:=fun W (h:iz W B gm r s)=>ku B gm r s o W h
  have j:∀C W,iz C B gm r s.mark->Fr B gm r w C->GMap.Row W r p7 (GMap.put (oB s.mark.blocks) (c:Int) (TY T6 (s.marks+1:Nat)))->C.grownBy W (some r)->iz W B gm r ⟨s.l,s.marks+1,kL s.blocks c (s.marks+1)⟩/\Fr B gm r w W:=fun C W F hf E N=>by
   obtain⟨q1,q2⟩:=F.lays E N;exact⟨q1,hf.trans q2⟩
  have b:=fun W (h:iz W B gm r ⟨s.l,s.marks+1,kL s.blocks c (s.marks+1)⟩)=>GMap.run_look h.row JD 123 3 underlying123 (c:Int) (TY T6 0) (by kernel_rfl)
  have z:(GMap.look (oB (kL s.blocks c (s.marks+1))) (c:Int)).getD (TY T6 0)=TY T6 (s.marks+1:Nat):=yr (by rw[lE,aj rfl]);have A:s.mark.marks=s.marks+1:=rfl;generalize hX:(⟨s.l,s.marks+1,kL s.blocks c (s.marks+1)⟩:Mk)=X at*;have ab:X.blocks=kL s.blocks c (s.marks+1):=by rw[<-hX]
  simp only[ab,z]at b;clear hX A n m ab;generalize s.marks+1=mk at*;replace d:(Instr.lookup 123 (.map (some r)) (TY T7 c) false).run prog w=.ok (TY T6 0) w:=d;replace b:∀W,iz W B gm r X->(Instr.lookup 123 (.map (some r)) (TY T7 c) false).run prog W=.ok (TY T6 mk) W:=b;obtain⟨HM,HB,am,p,t⟩:=aG D J R j b;clear D J R j b;clear o h0 z;go_enter func45,ntmps45;go_wp2_with fail;have k:=StQ.frame_of (Fr.refl B gm r) Fr.trans;have l:∀(i:Nat),i≠6->∀(f:Nat->Bool) (w:Ub),(if f 6=true then iz w B gm r s.mark else iz w B gm r s)->(if StQ.upd f i 6=true then iz w B gm r s.mark else iz w B gm r s):=fun i hi f w h=>by rw[StQ.upd_ne f (fun e=>hi e.symm)];exact h
  refine StQ.wp_region_st 7 eL (Fr B gm r) k (StQ.eqS [(12,TZ (some ⟨gm,0,none⟩)),(13,TZ (some ⟨gm,0,none⟩)),(14,TZ (some ⟨gm,2,none⟩)),(15,.map (some r)),(16,TY T7 c),(17,TZ (some ⟨gm,0,none⟩)),(18,TY T6 mk)]) (fun _ _ _ _ _ _ h=>h)
   (fun f _ w=>if f 6=true then iz w B gm r s.mark else iz w B gm r s) HM.out.drew [12,13,14,15,16,17,18] [12,13,14,15,16,17,18] (by kernel_rfl) (by kernel_rfl) (by kernel_rfl) (by kernel_rfl) (by kernel_rfl) (by decide) ⟨?_,?_,?_,?_,?_,?_,?_,trivial⟩ ?_
  ·exact StQ.st_eq k 12 _ rfl rfl rfl (fun f _ _ w=>l _ (by decide) f w) (fun f a w h=>by have e:=h.was 0 (by decide) rfl;unfold execOp;simp only[e];simp[go_sem])
  ·exact StQ.st_eq k 13 _ rfl rfl rfl (fun f _ _ w=>l _ (by decide) f w) (fun f a w h=>by have e:=h.Tq 12 (by decide) rfl;unfold execOp;simp only[e];simp[go_sem])
  ·exact StQ.st_eq k 14 _ rfl rfl rfl (fun f _ _ w=>l _ (by decide) f w) (fun f a w h=>by have e:=h.Tq 13 (by decide) rfl;unfold execOp;simp only[e];simp[go_sem])
  ·refine StQ.st_eq k 15 _ rfl rfl rfl (fun f _ _ w=>l _ (by decide) f w) (fun f a w h=>?_);have e:=h.Tq 14 (by decide) rfl;have hc:w.cell? ⟨gm,2,none⟩=some (.map (some r)):=by
    have o:(if f 6=true then iz w B gm r s.mark else iz w B gm r s):=h.state;split at o
    ·obtain⟨_,_,_,N⟩:=o.ptr;exact N
    obtain⟨_,_,_,N⟩:=o.ptr;exact N
   unfold execOp;simp only[e];simp[go_sem,hc]
  ·exact StQ.st_eq k 16 _ rfl rfl rfl (fun f _ _ w=>l _ (by decide) f w) (fun f a w h=>by have e:=h.was 1 (by decide) rfl;unfold execOp;simp only[e];simp[go_sem])
  ·exact StQ.st_eq k 17 _ rfl rfl rfl (fun f _ _ w=>l _ (by decide) f w) (fun f a w h=>by have e:=h.was 0 (by decide) rfl;unfold execOp;simp only[e];simp[go_sem])
  ·refine StQ.st_callv 18 #[TZ (some ⟨gm,0,none⟩)] rfl rfl rfl func44 (by kernel_rfl) rfl (fun f a w h=>by have e:=h.Tq 17 (by decide) rfl;simp only[aQ,aJ,a8,e]) (fun f a W h=>?_);have hn:f 6=false:=h.notYet;have o:(if f 6=true then iz W B gm r s.mark else iz W B gm r s):=h.state;rw[af (by rw[hn];decide)]at o;refine(am.out W o).mono ?_;rintro e w' ⟨rfl,F,E⟩;exact⟨_,rfl,fun u hu=>by cases hu;rfl,E,by rw[StQ.upd_self];exact F⟩
  intro f g C ad y n ⟨_,_,hJ⟩;have U:f 12=_:=y 0 _ 12 (by omega) rfl rfl _ rfl;have G:f 13=_:=y 1 _ 13 (by omega) rfl rfl _ rfl;have H:f 14=_:=y 2 _ 14 (by omega) rfl rfl _ rfl;have L:f 15=_:=y 3 _ 15 (by omega) rfl rfl _ rfl;have M:f 16=_:=y 4 _ 16 (by omega) rfl rfl _ rfl;have T:f 17=_:=y 5 _ 17 (by omega) rfl rfl _ rfl;have Y:f 18=_:=y 6 _ 18 (by omega) rfl rfl _ rfl;rw[aj (n 6 (by omega))]at hJ;simp only[Any.fill,bC,bL,aq,aI,aH,bg,bZ,U,G,H,L,M,T,Y];have V:=hJ.row;have Z:Fr B gm r w C:=(Fr.refl B gm r w).drew.trans ad;have j:=p.out C;have O:=t.out;obtain⟨HJ,al,p,an⟩:=aB hJ Z j O;clear hJ Z j O;clear y n U G H L M T Y ad;go_wp2_with (refine GMap.wpList_put rfl 123 (.tmp 15) (.tmp 16) (.tmp 18) rfl 3 JD underlying123 r _ (c:Int) (TY T6 mk) rfl rfl rfl V ?_;intro w2 F E;obtain⟨x,S⟩:=p.out w2 HJ.out al.out F E;obtain⟨_,_,_,a2⟩:=x.ptr;have z:=an.out w2 x;clear F E;have ap:=Lib.hid x;have ar:=Lib.hid S;clear x S);go_ret;exact⟨rfl,ap.out,ar.out⟩
 have n:s.goes c=s:=by unfold Mk.goes;rw[af h0]
 have m:s.to c=lookM s.blocks c:=by unfold Mk.to;rw[n]
 rw[n,m];rw[yr rfl]at d;generalize lookM s.blocks c=q at*;have hq:((q:Int)==0)=false:=by simp;omega
 replace d:(Instr.lookup 123 (.map (some r)) (TY T7 c) false).run prog w=.ok (TY T6 q) w:=d;obtain⟨HM,HB⟩:=aA D J;clear D J;clear o m n;go_enter func45,ntmps45;go_wp2_with fail;go_ret;exact⟨rfl,HM.out,Fr.refl _ _ _ _⟩
theorem CC(s:Mk)(a b:List It):(s.put a).put b=s.put (a++b):=by
 unfold Mk.put;simp only[dz]
theorem fV{B gm r:Nat}{s:Mk}(xs:List It)(n:Nat)(i:xs.length=n)(cs:Array Uc)(f:cs=(dq xs).toArray)(W:Ub)(g:iz W B gm r s)(j:(s.put xs).mu<=1000000):
  Calls prog 42 #[TZ (some ⟨gm,0,none⟩),T0 (some ⟨W.heap.size,0,none⟩) n n] (W.alloc (Ua cs 129)) (dZ B gm r (s.put xs) (T4 #[]) W):=by
 have b:=g.lt.1;have a:Below W.heap.size W (W.alloc (Ua cs 129)):=(aw _ _).alloc (ae _) _;subst f;refine(uU B gm r s xs j (some ⟨W.heap.size,0,none⟩) n n i _ (g.grows a) ((gZ W (dq xs) 129 5 n (by rw[jr,i])).more (by simp))).mono ?_;rintro e w5 ⟨rfl,d,c⟩;exact⟨rfl,d,(Fr.grows (r:=r) (gm:=gm) a (ax g.gm (dS b))).trans c⟩
def jN(f c g i b d:Nat)(wide:Bool)(a e:Nat):Array Uc:=#[TY T7 f,TY T7 c,TY T7 g,TY T7 i,TY T7 b,TY T7 d,T2 wide,TY T6 a,TY T6 e]
def vY(d c e f g i:Nat)(a b:Nat):List It×List It:=([bc 32 c 0 0,bc 21 f 0 b],[bc 32 d 0 0,bc 21 e a b])
def qz(e d f c g i:Nat)(a b:Nat):List It×List It:=([bc 32 d 0 0,bc 37 c a 0,bc 21 c 0 b],[bc 32 e 0 0,bc 53 f a b])
def tY(f d g i c e:Nat)(a b:Nat):List It×List It:=([bc 32 d 0 0,bc 84 e 0 0,bc 21 i 0 b],[bc 32 f 0 0,bc 84 c 0 0,bc 21 g a b])
def oA(s:Mk)(wide:Bool)(x:List It×List It):Mk:=if wide then(s.put x.1).put x.2 else s.put x.2
theorem yq(B gm r:Nat)(s:Mk)(i n j m v A:Nat)(wide:Bool)(a c:Nat)(l:(oA s wide (vY i n j m v A a c)).mu<=1000000)(w:Ub)(z:iz w B gm r s):
  Calls prog 315 #[TZ (some ⟨gm,0,none⟩),T1 (jN i n j m v A wide a c)] w (dZ B gm r (oA s wide (vY i n j m v A a c)) (T4 #[]) w):=by
 unfold jN vY at*;have J:=z.lt;have k:Below w.heap.size w (w.alloc (Ua (jN i n j m v A wide a c) 396)):=(aw _ _).alloc (ae _) _;have f:=z.grows k;have g:=Fr.grows (B:=B) (gm:=gm) (r:=r) k (ax z.gm (dS J.1));have b1:=bK.new w 396 (jN i n j m v A wide a c);unfold jN at f g b1;unfold oA at l⊢;cases wide with
 |true=>
  simp only[lN]at l⊢;have x:(s.put [bc 32 n 0 0,bc 21 m 0 c]).mu<=1000000:=ax (Bk (fY.put _ _)) l;have p1:=fV (s:=s) [bc 32 n 0 0,bc 21 m 0 c] 2 rfl #[TY T6 0,TY T9 32,TY T7 n,TY T6 0,TY T6 0,TY T6 0,TY T9 21,TY T7 m,TY T6 0,TY T6 c] (by simp[dq,It.vals,bc]) _ f x;simp only[cE]at p1;obtain⟨t,L,M⟩:=aC g b1 l;clear g b1 l;clear z f k x;go_enter func315,ntmps315;go_wp2_with fail;refine p1.mono ?_;rintro e w5 ⟨rfl,y,o⟩;have u:=o.blk L.out (by decide) (by omega) (by omega);have O:w5.cell? ⟨w.heap.size,0,none⟩=some (TY T7 i):=u.cell 0;have H:w5.cell? ⟨w.heap.size,2,none⟩=some (TY T7 j):=u.cell 2;have N:w5.cell? ⟨w.heap.size,4,none⟩=some (TY T7 v):=u.cell 4;have G:w5.cell? ⟨w.heap.size,7,none⟩=some (TY T6 a):=u.cell 7;have D:w5.cell? ⟨w.heap.size,8,none⟩=some (TY T6 c):=u.cell 8;have p2:=fV [bc 32 i 0 0,bc 21 j a c] 2 rfl #[TY T6 0,TY T9 32,TY T7 i,TY T6 0,TY T6 0,TY T6 0,TY T9 21,TY T7 j,TY T6 a,TY T6 c] (by simp[dq,It.vals,bc]) w5 y M.out;have C:=t.out.trans o;have F:=Lib.hid C;clear C;clear p1 y o u;go_wp2_with fail;refine p2.mono ?_;rintro e E ⟨rfl,d,b⟩;have b:=F.out.trans b;obtain⟨p,q⟩:=aA d b;clear d b;clear p2 O H N G D;go_wp2_with fail;go_end0;exact⟨rfl,p.out,q.out⟩
 |false=>
  simp only[fE,mj]at l⊢;have p1:=fV (s:=s) [bc 32 i 0 0,bc 21 j a c] 2 rfl #[TY T6 0,TY T9 32,TY T7 i,TY T6 0,TY T6 0,TY T6 0,TY T9 21,TY T7 j,TY T6 a,TY T6 c] (by simp[dq,It.vals,bc]) _ f l;simp only[cE]at p1;have t:=Lib.hid g;clear g;clear z f k l b1;go_enter func315,ntmps315;go_wp2_with fail;refine p1.mono ?_;rintro e E ⟨rfl,d,b⟩;have b:=t.out.trans b;obtain⟨p,q⟩:=aA d b;clear d b;clear p1;go_wp2_with fail;go_end0;exact⟨rfl,p.out,q.out⟩
theorem vZ(B gm r:Nat)(s:Mk)(j n k g v A:Nat)(wide:Bool)(a c:Nat)(m:(oA s wide (qz j n k g v A a c)).mu<=1000000)(w:Ub)(z:iz w B gm r s):
  Calls prog 318 #[TZ (some ⟨gm,0,none⟩),T1 (jN j n k g v A wide a c)] w (dZ B gm r (oA s wide (qz j n k g v A a c)) (T4 #[]) w):=by
 unfold jN qz at*;have J:=z.lt;have l:Below w.heap.size w (w.alloc (Ua (jN j n k g v A wide a c) 396)):=(aw _ _).alloc (ae _) _;have f:=z.grows l;have i:=Fr.grows (B:=B) (gm:=gm) (r:=r) l (ax z.gm (dS J.1));have b1:=bK.new w 396 (jN j n k g v A wide a c);unfold jN at f i b1;unfold oA at m⊢;cases wide with
 |true=>
  simp only[lN]at m⊢;have x:(s.put [bc 32 n 0 0,bc 37 g a 0,bc 21 g 0 c]).mu<=1000000:=ax (Bk (fY.put _ _)) m;have p1:=fV (s:=s) [bc 32 n 0 0,bc 37 g a 0,bc 21 g 0 c] 3 rfl #[TY T6 0,TY T9 32,TY T7 n,TY T6 0,TY T6 0,TY T6 0,TY T9 37,TY T7 g,TY T6 a,TY T6 0,TY T6 0,TY T9 21,TY T7 g,TY T6 0,TY T6 c] (by simp[dq,It.vals,bc]) _ f x;simp only[cE]at p1;obtain⟨t,L,M⟩:=aC i b1 m;clear i b1 m;clear z f l x;go_enter func318,ntmps318;go_wp2_with fail;refine p1.mono ?_;rintro e w5 ⟨rfl,y,o⟩;have u:=o.blk L.out (by decide) (by omega) (by omega);have O:w5.cell? ⟨w.heap.size,0,none⟩=some (TY T7 j):=u.cell 0;have H:w5.cell? ⟨w.heap.size,2,none⟩=some (TY T7 k):=u.cell 2;have N:w5.cell? ⟨w.heap.size,4,none⟩=some (TY T7 v):=u.cell 4;have G:w5.cell? ⟨w.heap.size,7,none⟩=some (TY T6 a):=u.cell 7;have D:w5.cell? ⟨w.heap.size,8,none⟩=some (TY T6 c):=u.cell 8;have p2:=fV [bc 32 j 0 0,bc 53 k a c] 2 rfl #[TY T6 0,TY T9 32,TY T7 j,TY T6 0,TY T6 0,TY T6 0,TY T9 53,TY T7 k,TY T6 a,TY T6 c] (by simp[dq,It.vals,bc]) w5 y M.out;have C:=t.out.trans o;have F:=Lib.hid C;clear C;clear p1 y o u;go_wp2_with fail;refine p2.mono ?_;rintro e E ⟨rfl,d,b⟩;have b:=F.out.trans b;obtain⟨p,q⟩:=aA d b;clear d b;clear p2 O H N G D;go_wp2_with fail;go_end0;exact⟨rfl,p.out,q.out⟩
 |false=>
  simp only[fE,mj]at m⊢;have p1:=fV (s:=s) [bc 32 j 0 0,bc 53 k a c] 2 rfl #[TY T6 0,TY T9 32,TY T7 j,TY T6 0,TY T6 0,TY T6 0,TY T9 53,TY T7 k,TY T6 a,TY T6 c] (by simp[dq,It.vals,bc]) _ f m;simp only[cE]at p1;have t:=Lib.hid i;clear i;clear z f l m b1;go_enter func318,ntmps318;go_wp2_with fail;refine p1.mono ?_;rintro e E ⟨rfl,d,b⟩;have b:=t.out.trans b;obtain⟨p,q⟩:=aA d b;clear d b;clear p1;go_wp2_with fail;go_end0;exact⟨rfl,p.out,q.out⟩
theorem CD(B gm r:Nat)(s:Mk)(j o k n i p:Nat)(wide:Bool)(a c:Nat)(m:(oA s wide (tY j o k n i p a c)).mu<=1000000)(w:Ub)(A:iz w B gm r s):
  Calls prog 319 #[TZ (some ⟨gm,0,none⟩),T1 (jN j o k n i p wide a c)] w (dZ B gm r (oA s wide (tY j o k n i p a c)) (T4 #[]) w):=by
 unfold jN tY at*;have J:=A.lt;have l:Below w.heap.size w (w.alloc (Ua (jN j o k n i p wide a c) 396)):=(aw _ _).alloc (ae _) _;have f:=A.grows l;have g:=Fr.grows (B:=B) (gm:=gm) (r:=r) l (ax A.gm (dS J.1));have b1:=bK.new w 396 (jN j o k n i p wide a c);unfold jN at f g b1;unfold oA at m⊢;cases wide with
 |true=>
  simp only[lN]at m⊢;have y:(s.put [bc 32 o 0 0,bc 84 p 0 0,bc 21 n 0 c]).mu<=1000000:=ax (Bk (fY.put _ _)) m;have p1:=fV (s:=s) [bc 32 o 0 0,bc 84 p 0 0,bc 21 n 0 c] 3 rfl #[TY T6 0,TY T9 32,TY T7 o,TY T6 0,TY T6 0,TY T6 0,TY T9 84,TY T7 p,TY T6 0,TY T6 0,TY T6 0,TY T9 21,TY T7 n,TY T6 0,TY T6 c] (by simp[dq,It.vals,bc]) _ f y;simp only[cE]at p1;obtain⟨v,L,M⟩:=aC g b1 m;clear g b1 m;clear A f l y;go_enter func319,ntmps319;go_wp2_with fail;refine p1.mono ?_;rintro e w5 ⟨rfl,z,q⟩;have x:=q.blk L.out (by decide) (by omega) (by omega);have O:w5.cell? ⟨w.heap.size,0,none⟩=some (TY T7 j):=x.cell 0;have H:w5.cell? ⟨w.heap.size,2,none⟩=some (TY T7 k):=x.cell 2;have N:w5.cell? ⟨w.heap.size,4,none⟩=some (TY T7 i):=x.cell 4;have G:w5.cell? ⟨w.heap.size,7,none⟩=some (TY T6 a):=x.cell 7;have D:w5.cell? ⟨w.heap.size,8,none⟩=some (TY T6 c):=x.cell 8;have p2:=fV [bc 32 j 0 0,bc 84 i 0 0,bc 21 k a c] 3 rfl #[TY T6 0,TY T9 32,TY T7 j,TY T6 0,TY T6 0,TY T6 0,TY T9 84,TY T7 i,TY T6 0,TY T6 0,TY T6 0,TY T9 21,TY T7 k,TY T6 a,TY T6 c] (by simp[dq,It.vals,bc]) w5 z M.out;have C:=v.out.trans q;have F:=Lib.hid C;clear C;clear p1 z q x;go_wp2_with fail;refine p2.mono ?_;rintro e E ⟨rfl,d,b⟩;have b:=F.out.trans b;obtain⟨t,u⟩:=aA d b;clear d b;clear p2 O H N G D;go_wp2_with fail;go_end0;exact⟨rfl,t.out,u.out⟩
 |false=>
  simp only[fE,mj]at m⊢;have p1:=fV (s:=s) [bc 32 j 0 0,bc 84 i 0 0,bc 21 k a c] 3 rfl #[TY T6 0,TY T9 32,TY T7 j,TY T6 0,TY T6 0,TY T6 0,TY T9 84,TY T7 i,TY T6 0,TY T6 0,TY T6 0,TY T9 21,TY T7 k,TY T6 a,TY T6 c] (by simp[dq,It.vals,bc]) _ f m;simp only[cE]at p1;have v:=Lib.hid g;clear g;clear A f l m b1;go_enter func319,ntmps319;go_wp2_with fail;refine p1.mono ?_;rintro e E ⟨rfl,d,b⟩;have b:=v.out.trans b;obtain⟨t,u⟩:=aA d b;clear d b;clear p1;go_wp2_with fail;go_end0;exact⟨rfl,t.out,u.out⟩
theorem CE(B gm r:Nat)(s:Mk)(g j l i d k:Nat)(wide:Bool)(a f:Nat)(x:(oA s wide (vY g j l i d k f a)).mu<=1000000)(w:Ub)(t:iz w B gm r s):
  Calls prog 316 #[TZ (some ⟨gm,0,none⟩),T1 (jN g j l i d k wide a f)] w (dZ B gm r (oA s wide (vY g j l i d k f a)) (T4 #[]) w):=by
 have v:=t.lt;have c:Below w.heap.size w (w.alloc (Ua (jN g j l i d k wide f a) 396)):=(aw _ _).alloc (ae _) _;have n:=t.grows c;have o:=Fr.grows (B:=B) (gm:=gm) (r:=r) c (ax t.gm (dS v.1));have p1:=yq B gm r s g j l i d k wide f a x _ n;generalize oA s wide (vY g j l i d k f a)=X at*;unfold jN at*;have u:=Lib.hid o;clear o;clear n c;go_enter func316,ntmps316;go_wp2_with fail;refine p1.mono ?_;rintro e y ⟨rfl,m,b⟩;have b:=u.out.trans b;obtain⟨p,q⟩:=aA m b;clear m b;clear p1;go_wp2_with fail;go_end0;exact⟨rfl,p.out,q.out⟩
theorem Em(B gm r:Nat)(s:Mk)(g j l i d k:Nat)(wide:Bool)(a f:Nat)(x:(oA s wide (qz g j l i d k f a)).mu<=1000000)(w:Ub)(t:iz w B gm r s):
  Calls prog 317 #[TZ (some ⟨gm,0,none⟩),T1 (jN g j l i d k wide a f)] w (dZ B gm r (oA s wide (qz g j l i d k f a)) (T4 #[]) w):=by
 have v:=t.lt;have c:Below w.heap.size w (w.alloc (Ua (jN g j l i d k wide f a) 396)):=(aw _ _).alloc (ae _) _;have n:=t.grows c;have o:=Fr.grows (B:=B) (gm:=gm) (r:=r) c (ax t.gm (dS v.1));have p1:=vZ B gm r s g j l i d k wide f a x _ n;generalize oA s wide (qz g j l i d k f a)=X at*;unfold jN at*;have u:=Lib.hid o;clear o;clear n c;go_enter func317,ntmps317;go_wp2_with fail;refine p1.mono ?_;rintro e y ⟨rfl,m,b⟩;have b:=u.out.trans b;obtain⟨p,q⟩:=aA m b;clear m b;clear p1;go_wp2_with fail;go_end0;exact⟨rfl,p.out,q.out⟩
def mI(l:List Nat):List Uc:=l.map fun n:Nat=>Value.int T7 (n:Int)
def sV(l:List Nat):List Uc:=l.map fun n:Nat=>Value.int T6 (n:Int)
theorem Ev(l:List Nat):(mI l).length=l.length:=by simp[mI]
theorem Ew(l:List Nat):(sV l).length=l.length:=by simp[sV]
theorem Nw{l:List Nat}{k:Nat}(a:k<l.length):(mI l)[k]? =some (TY T7 (l.getD k 0:Nat)):=by
 simp[mI,a]
theorem Nx{l:List Nat}{k:Nat}(a:k<l.length):(sV l)[k]? =some (TY T6 (l.getD k 0:Nat)):=by
 simp[sV,a]
section
variable {w:Ub} {B n:Nat} {A:Option Addr} {xs:List Uc}
theorem bh.SQ(h:bh w B 1 A n xs)(i:0<n):∃b a,A=some ⟨b,a,none⟩/\b<B/\∀k v,xs[k]? =some v->w.cell? ⟨b,a+k,none⟩=some v:=by
 obtain⟨j,rfl,g,e⟩:=h.2 i;obtain⟨b,a,spot⟩:=j;have c:0<xs.length:=by have:=h.1;omega
 have f:=e 0 _ (ah c);have d:spot=none:=by simpa[Addr.add]using fL f
 subst d;refine⟨b,a,rfl,g,fun k v hv=>?_⟩;have:=e k v hv;rwa [iq]at this
theorem bh.Tr{l:List Nat}(h:bh w B 1 A n (mI l))(f:0<n):∃b a,A=some ⟨b,a,none⟩/\b<B/\∀k,k<n->w.cell? ⟨b,a+k,none⟩=some (TY T7 (l.getD k 0:Nat)):=by
 obtain⟨b,a,d,c,e⟩:=h.SQ f;have i:l.length=n:=by have:=h.1;rw[Ev]at this;omega
 exact⟨b,a,d,c,fun k g=>e k _ (Nw (by omega))⟩
theorem bh.TH{l:List Nat}(h:bh w B 1 A n (sV l))(f:0<n):∃b a,A=some ⟨b,a,none⟩/\b<B/\∀k,k<n->w.cell? ⟨b,a+k,none⟩=some (TY T6 (l.getD k 0:Nat)):=by
 obtain⟨b,a,d,c,e⟩:=h.SQ f;have i:l.length=n:=by have:=h.1;rw[Ew]at this;omega
 exact⟨b,a,d,c,fun k g=>e k _ (Nx (by omega))⟩
theorem bh.Tl{b a:Nat}(h:bh w B 1 (some ⟨b,a,none⟩) n xs){k:Nat}(g:k<=n):bh w B 1 (some ⟨b,a,none⟩) k (xs.take k):=by
 have i:=h.1;refine⟨by rw[bJ];omega,fun l=>?_⟩;obtain⟨m,c,e,d,f⟩:=h.SQ (by omega);injection e with e
 injection e with e1 e2 _;subst e1 e2;refine⟨_,rfl,d,fun j v hv=>?_⟩;rw[iq];rw[eS]at hv;split at hv
 ·exact f j v hv
 cases hv
theorem bh.Tm{b a:Nat}(h:bh w B 1 (some ⟨b,a,none⟩) n xs){k:Nat}(g:k<=n):bh w B 1 (some ⟨b,a+k,none⟩) (n - k) (xs.drop k):=by
 have i:=h.1;refine⟨by rw[dt];omega,fun l=>?_⟩;obtain⟨m,c,e,d,f⟩:=h.SQ (by omega);injection e with e
 injection e with e1 e2 _;subst e1 e2;refine⟨_,rfl,d,fun j v hv=>?_⟩;rw[iq];rw[r8]at hv;have:=f (k+j) v hv;rwa [<-eF]at this
end
theorem KQ(l:List Nat)(k:Nat):(mI l).take k=mI (l.take k):=by simp[mI,Du]
theorem KR(l:List Nat)(k:Nat):(mI l).drop k=mI (l.drop k):=by simp[mI,List.map_drop]
def Nd.vals(x:Nd):List Uc:=[T2 x.leaf,TY T7 x.num,TY T6 x.place,TY T6 x.lo,TY T6 x.hi]
theorem Nd.Sn(x:Nd):x.vals.length=5:=rfl
def jP(l:List Nd):List Uc:=l.flatMap Nd.vals
theorem zZ(a b:List Nd):jP (a++b)=jP a++jP b:=by unfold jP;rw[bX]
theorem G7(l:List Nd):∀v∈jP l,v.oneCell'=true:=fun v hv=>by
 obtain⟨i,_,h⟩:=db.1 hv;simp only[Nd.vals,aP,bQ,eW]at h;rcases h with rfl|rfl|rfl|rfl|rfl<;>rfl
structure G8(w:Ub)(B g:Nat)(t:List Nd):Prop where
 at_:∃v,bK w g 291 #[v]/\w.ownsRow B 295 5 v t.length (jP t)
 le:B<=g
structure Ga(B g:Nat)(w w':Ub):Prop where
 below:Below B w w'
 keep:∀i,i<w.heap.size->i≠g->(∀cs fr,w.heap[i]? ≠some (Ua cs 295 fr))->w'.heap[i]? =w.heap[i]?
theorem Ga.trans{B g:Nat}{a b c:Ub}(h:Ga B g a b)(k:Ga B g b c):Ga B g a c:=
 ⟨h.below.trans k.below,fun i j d f=>by
   have e:=h.keep i j d f;exact(k.keep i (bn j h.below.size) d (fun cs fr e2=>f cs fr (e.symm.trans e2))).trans e⟩
theorem Ga.grows{B g:Nat}{a b:Ub}(h:Below a.heap.size a b)(c:B<=a.heap.size):Ga B g a b:=⟨h.mono c,fun i d _ _=>h.block i d⟩
theorem Ga.blk{B g:Nat}{w w':Ub}(h:Ga B g w w'){i:Nat}{t:TypeId}{cs:Array Uc}(a:bK w i t cs)(d:t≠295)(b:i≠g):bK w' i t cs:=by
 refine(h.keep i a.lt b fun c fr e=>?_).trans a;unfold bK at a;rw[a]at e;injection e with e
 injection e with _ e;exact d e
theorem G8.grows{w w':Ub}{B g:Nat}{t:List Nd}(h:G8 w B g t)(b:Below w.heap.size w w'):G8 w' B g t:=by
 obtain⟨v,a,c⟩:=h.at_;exact⟨⟨v,a.below b a.lt,cC b c⟩,h.le⟩
theorem G8.lt{w:Ub}{B g:Nat}{t:List Nd}(h:G8 w B g t):g<w.heap.size:=by
 obtain⟨v,a,b⟩:=h.at_;exact a.lt
theorem G8.Tg{w w':Ub}{B g:Nat}{t:List Nd}{v v':Uc}{xs:List Nd}(h:G8 w B g t)(o:bK w g 291 #[v])(s:w.ownsRow B 295 5 v t.length (jP t))(b:w.grownBy w' v.ownBlock)
  (f:w'.ownsRow B 295 5 v' (t.length+xs.length) (jP t++jP xs)):G8 (w'.setCell ⟨g,0,none⟩ v') B g (t++xs)/\Ga B g w (w'.setCell ⟨g,0,none⟩ v'):=by
 have c:=cY s o (by decide);have j:bK w' g 291 #[v]:=o.grown b (fun e=>c e.symm);have m:=cY f j (by decide);have d:w'.grownBy (w'.setCell ⟨g,0,none⟩ v') (some g):=⟨rfl,rfl,rfl,by simp[World.setCell],fun k x c=>cK w' ⟨g,0,none⟩ _ k (fun e=>c (by rw[e]))⟩;have a:∀i,v.ownBlock=some i->B<=i/\∃cs fr,w.heap[i]? =some (Ua cs 295 fr):=fun i e=>by
  rcases s.2 with⟨rfl,_⟩|⟨z,cap,C,rfl,o,r,_⟩
  ·simp[Value.ownBlock]at e
  obtain rfl:z=i:=by simpa[Value.ownBlock]using e
  exact⟨o,_,_,r⟩
 refine⟨⟨⟨v',j.set_ 0 _,?_⟩,h.le⟩,⟨?_,fun i u y D=>?_⟩⟩
 ·have:=f.kept d (.inr m);rw[bw,zZ];exact this
 ·have l:Below B w w':=⟨b.os,b.tape,b.output,b.size,fun k x=>by
    by_cases q:k<w.heap.size
    ·exact b.block k q fun e=>by have:=(a k e.symm).1;omega
    have:=h.lt;have:=h.le;omega⟩
  exact l.setCell (p:=⟨g,0,none⟩) h.le _
 have e1:=b.block i u fun e=>by
  obtain⟨_,cs,fr,r⟩:=a i e.symm;exact D cs fr r
 exact(d.block i (bn u b.size) (fun e=>y (by injection e))).trans e1
theorem CU.new(w:Ub)(t:TypeId)(v:Int):CU (w.alloc (Ua #[TY T6 v] t)) w.heap.size:=
 ⟨v,by rw[World.cell?_alloc_at _ _ _ _ rfl];rfl,by unfold World.frozen?;rw[cq];rfl⟩
theorem KC.out{g n:Nat}{w W:Ub}{o:Obj}(h:KC g n w.heap.size (w.alloc o) W):w.grownBy W (some g):=
 ⟨h.2.2.os,h.2.2.tape,h.2.2.output,ax (by simp) h.2.2.size,fun k a _=>(h.2.2.block k (by simp;omega) (fun e=>by cases e;omega)).trans (iN w o k a)⟩
theorem wW(g n cap a b:Nat)(w:Ub)(S:UB w g n)(V:n<=1000000)(N:a+8<=b)(hb:b<=n):
  Calls prog 249 #[T0 (some ⟨g,0,none⟩) n cap,TY T6 a,TY T6 b] w fun e w'=>
   (∃m h:Nat,e=.returned (T4 #[TY T6 m,TY T6 h])/\a<=m/\m<b/\h<=2)/\UB w' g n/\w.grownBy w' (some g):=by
 obtain⟨l,hl⟩:∃l:Nat,(b:Int) - (a:Int)=(l:Nat):=⟨b - a,by omega⟩;obtain⟨q,R⟩:∃q:Nat,q=l / 4:=⟨_,rfl⟩;have hq:(l:Int).tdiv 4=(q:Nat):=by rw[iX (by omega)];omega
 have E:g≠w.heap.size:=Ru S.lt;have y:KC g n w.heap.size (w.alloc (Ua #[TY T6 0] 3)) (w.alloc (Ua #[TY T6 0] 3)):=⟨S.alloc _,CU.new w _ 0,cj _ _⟩;have D:=fun(i:Nat) (O:1<=i) (J:i+1<n) (W:Ub) (h:KC g n w.heap.size (w.alloc (Ua #[TY T6 0] 3)) W)=>tj g n cap w.heap.size i W h.1 h.2.1 E V O J
 have G:=fun(i j k:Nat) (O:i<n) (J:j<n) (h3:k<n) (W:Ub) (h:KC g n w.heap.size (w.alloc (Ua #[TY T6 0] 3)) W)=>zq g n cap w.heap.size i j k W h.1 h.2.1 E V O J h3
 have ab:8<=l:=by omega
 have e2:(q:Int)*2=((q*2:Nat):Int):=by omega
 obtain⟨i,hi⟩:∃i:Nat,(a:Int)+(q:Int)=(i:Nat):=⟨a+q,by omega⟩;obtain⟨j,hj⟩:∃j:Nat,(a:Int)+(q:Int)*2=(j:Nat):=⟨a+q*2,by omega⟩;obtain⟨k,hk⟩:∃k:Nat,(a:Int)+(q:Int)*3=(k:Nat):=⟨a+q*3,by omega⟩;have C:a<=i/\i<j/\j<k/\k+1<b/\b<=n/\(50<=l->a+1<=i):=by omega
 have o:=Lib.hid C;have b1:l<=1000000:=by omega
 have b2:a<=1000000:=by omega
 have b3:q<=1000000:=by omega
 have b4:i<=1000000:=by omega
 have b5:j<=1000000:=by omega
 have b6:k<=1000000:=by omega
 have b7:b<=1000000:=by omega
 clear S C R e2 N hb;go_enter func249,ntmps249;go_wp2_with fail
 ·have X:50<=l:=by omega
  refine(D i (by have:=o.out;omega) (by have:=o.out;omega) _ y).mono ?_;rintro e w1 ⟨⟨i1,rfl,z,B⟩,t⟩;replace t:=KC.trans y t;have HI:=Lib.hid (And.intro z B);clear z B;go_wp2_with fail;refine(D j (by have:=o.out;omega) (by have:=o.out;omega) _ t).mono ?_;rintro e w2 ⟨⟨L,rfl,A,F⟩,r⟩;replace r:=KC.trans t r;have Z:=Lib.hid (And.intro A F);clear A F t;go_wp2_with fail;refine(D k (by have:=o.out;omega) (by have:=o.out;omega) _ r).mono ?_;rintro e w3 ⟨⟨H,rfl,M,U⟩,u⟩;replace u:=KC.trans r u;have s:a<=i1/\i1<b/\a<=L/\L<b/\a<=H/\H<b/\b<=n:=by have:=o.out;have:=HI.out;have:=Z.out;omega
  have o:=Lib.hid s;clear M U r s;go_wp2_with fail;refine(G i1 L H (by have:=o.out;omega) (by have:=o.out;omega) (by have:=o.out;omega) _ u).mono ?_;rintro e Y ⟨⟨m,rfl,T⟩,d⟩;replace d:=KC.trans u d;have c:a<=m/\m<b:=by have:=o.out;omega
  have f:=KC.out d;have p:=d.1;obtain⟨v,hv,fv⟩:=d.2.1;have x:=Lib.hid c;clear c T D G d y;go_wp2_with fail;all_goals
   go_ret2;have c:=x.out;first
    |exact⟨⟨m,0,rfl,c.1,c.2,by omega⟩,p,f⟩
    |exact⟨⟨m,1,rfl,c.1,c.2,by omega⟩,p,f⟩
    |exact⟨⟨m,2,rfl,c.1,c.2,by omega⟩,p,f⟩
 have s:a<=i/\i<b/\a<=j/\j<b/\a<=k/\k<b/\b<=n:=by have:=o.out;omega
 have o:=Lib.hid s;clear s;refine(G i j k (by have:=o.out;omega) (by have:=o.out;omega) (by have:=o.out;omega) _ y).mono ?_;rintro e Y ⟨⟨m,rfl,T⟩,d⟩;replace d:=KC.trans y d;have c:a<=m/\m<b:=by have:=o.out;omega
 have f:=KC.out d;have p:=d.1;obtain⟨v,hv,fv⟩:=d.2.1;have x:=Lib.hid c;clear c T D G d y;go_wp2_with fail;all_goals
  go_ret2;have c:=x.out;first
   |exact⟨⟨m,0,rfl,c.1,c.2,by omega⟩,p,f⟩
   |exact⟨⟨m,1,rfl,c.1,c.2,by omega⟩,p,f⟩
   |exact⟨⟨m,2,rfl,c.1,c.2,by omega⟩,p,f⟩
end
end Go.Proofs.YtfammloeljmplaaGreatDoor
