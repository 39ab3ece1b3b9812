/- Contracts of the vm's loads and deeds; conditions: each lemma's own. -/
import Derived.Deep.RegionLaw
import Derived.Test.YtfammloeljmplaaGreatDoorZ10
import Derived.Test.YtfammloeljmplaaGreatDoorZ8
open Go.Value renaming int->TY,pointer->TZ,slice->T0,agg->T1,bool->T2,tuple->T4
open Go.IntKind renaming i64->T6,u32->T7,u16->T9
open Go.Obj renaming cells->Ua
open Go renaming World->Ub,Value->Uc
namespace Go.Proofs.YtfammloeljmplaaGreatDoor
open Go.Proofs.Tryz
set_option maxRecDepth 100000
set_option maxHeartbeats 8000000
set_option linter.unusedVariables false
set_option linter.unusedSimpArgs false
section
open Go.RowKit
theorem Nk:(prog.info? 3).map (fun i=>(i.zero,i.size,i.bytes))=some (some (TY T6 0),1,8):=by kernel_rfl
theorem sT{W b:Ub}{base:Nat}{e:TypeId}{size n:Nat}{v:Uc}{xs:List Uc}(h:W.ownsRow base e size v n xs)(a:Below W.heap.size W b):b.ownsRow base e size v n xs:=by
 refine h.kept (row:=none) ⟨a.os,a.tape,a.output,a.size,fun k c _=>a.block k c⟩ ?_;cases v.ownBlock with
 |none=>exact .inl rfl
 |some g=>exact .inr (fun e=>by cases e)
theorem qA{W:Ub}{B:Nat}{e:TypeId}{size n:Nat}{xs:List Uc}{v:Uc}(h:W.ownsRow B e size v n xs){p:Addr}(j:p.block<B)(u:Uc):(W.setCell p u).ownsRow B e size v n xs:=by
 refine⟨h.1,?_⟩;rcases h.2 with c|⟨g,cap,a,f,b,i,d⟩
 ·exact .inl c
 subst f;exact .inr ⟨g,cap,a,rfl,b,(cK _ _ _ _ (by omega)).trans i,d⟩
theorem Qx{W:Ub}{B:Nat}{e:TypeId}{size n:Nat}{xs:List Uc}{v:Uc}(h:W.ownsRow B e size v n xs){k:Nat}(a:v.ownBlock=some k):k<W.heap.size:=by
 rcases h.2 with⟨b,_⟩|⟨g,cap,d,c,i,f,j⟩
 ·subst b;cases a
 subst c;have:g=k:=by simpa[Value.ownBlock]using a
 subst this;exact(aL.1 f).1
theorem JG{W c:Ub}{g B:Nat}{e:TypeId}{size n:Nat}{xs:List Uc}{v:Uc}(h:W.ownsRow B e size v n xs)(l:gN g W c)(m:g<B):c.ownsRow B e size v n xs:=by
 refine⟨h.1,?_⟩;rcases h.2 with f|⟨k,cap,a,j,d,b,i⟩
 ·exact .inl f
 subst j;exact .inr ⟨k,cap,a,rfl,d,(l.block k (aL.1 b).1 (by omega)).trans b,i⟩
theorem KF{g:Nat}{w w':Ub}(h:gN g w w'){size b a n:Nat}{xs:List Uc}(i:b≠g)(d:bh w w.heap.size size (some ⟨b,a,none⟩) n xs):bh w' w'.heap.size size (some ⟨b,a,none⟩) n xs:=by
 refine⟨d.1,fun f=>?_⟩;obtain⟨m,e,c,l⟩:=d.2 f;cases e;refine⟨_,rfl,bn c h.size,fun j u k=>?_⟩;rw[<-l j u k];refine lS ?_;have:(Addr.add ⟨b,a,none⟩ j).block=b:=by unfold Addr.add;split<;>rfl
 rw[this];exact h.block b c i
structure nR(g:Nat)(w w':Ub):Prop where
 os:w'.os=w.os
 tape:w'.tape=w.tape
 output:w'.output=w.output
 size:w.heap.size<=w'.heap.size
 block:∀k,k<w.heap.size->k<g+2->k≠g->w'.heap[k]? =w.heap[k]?
theorem nR.SF{g:Nat}{w w':Ub}(h:gN g w w'):nR g w w':=⟨h.os,h.tape,h.output,h.size,fun k a _ b=>h.block k a b⟩
theorem nR.refl(g:Nat)(w:Ub):nR g w w:=.SF (.refl g w)
theorem nR.trans{g:Nat}{a b c:Ub}(h:nR g a b)(k:nR g b c):nR g a c:=⟨k.os.trans h.os,k.tape.trans h.tape,k.output.trans h.output,ax h.size k.size,fun j d e f=>(k.block j (bn d h.size) e f).trans (h.block j d e f)⟩
theorem nR.setCell{g:Nat}{a w:Ub}(h:nR g a w){b:Nat}(v:Uc):nR g a (w.setCell ⟨g,b,none⟩ v):=
 h.trans (.SF ((gN.refl g w).setCell rfl v))
theorem nR.grown{g:Nat}{a w w':Ub}(h:nR g a w){row:Option Nat}(b:w.grownBy w' row)(d:∀k,row=some k->g+2<=k):nR g a w':=
 h.trans ⟨b.os,b.tape,b.output,b.size,fun k c f _=>b.block k c (fun e=>by have:=d k e.symm;omega)⟩
theorem nR.below{g B:Nat}{w w':Ub}(h:nR g w w')(c:B<=g)(b:B<=w.heap.size):Below B w w':=⟨h.os,h.tape,h.output,h.size,fun k a=>h.block k (bn a b) (by omega) (by omega)⟩
theorem GU{g:Nat}{w w':Ub}(h:nR g w w'){size b a n:Nat}{xs:List Uc}(l:b<g)(d:bh w w.heap.size size (some ⟨b,a,none⟩) n xs):bh w' w'.heap.size size (some ⟨b,a,none⟩) n xs:=by
 refine⟨d.1,fun f=>?_⟩;obtain⟨m,e,c,k⟩:=d.2 f;cases e;refine⟨_,rfl,bn c h.size,fun j u i=>?_⟩;rw[<-k j u i];refine lS ?_;have:(Addr.add ⟨b,a,none⟩ j).block=b:=by unfold Addr.add;split<;>rfl
 rw[this];exact h.block b c (by omega) (by omega)
theorem Nl(i:I)(hi:i.Ok)(bm:i.k<=60)(f d:Nat)(x:Bool)(g:Nat)(A:List Nat)(ap:∀b∈A,b<256)(F n cb:Nat)(cg:F≠g)(s:Vs)(hs:s.Ok)(st:Nat)(ld:Uc)(q:Nat)(xs:List Uc)(hq:q<=1000000)(w:Ub)
  (hr:dx w g 246 23 (jB (T0 (some ⟨F,n,none⟩) 64 cb) s st ld))(G:bh w w.heap.size 1 (some ⟨F,n,none⟩) 64 (dN A))(j:w.ownsRow (g+2) 3 1 ld q xs)(hy:getN A i.k 4 false<4294967296):
  Calls prog 184 #[TZ (some ⟨g,0,none⟩),F9 i f d x] w fun e w'=>e=.returned (T4 #[])/\(∃av bp,dx w' g 246 23 (jB (T0 (some ⟨F,n,none⟩) 64 cb) {s with a:=getN A i.k 4 false} st av)/\w'.ownsRow (g+2) 3 1 av (q+1) bp)/\nR g w w':=by
 obtain⟨i0,bv,bo,bB,bq⟩:=cZ Nk;have am:64=A.length:=by have:=G.1;rw[fP]at this;omega
 obtain⟨V,O,T,l⟩:=i;simp only at bm hy;have al:wrongN 64 l (4:Nat)=0:=by unfold wrongN;rw[af (by omega),af (by omega)]
 have Y:wrongN A.length l (4:Nat)=0:=by rw[<-am];exact al
 have m:=fun W h=>JI A ap (some ⟨F,n,none⟩) 64 cb l 4 false W h am (by omega) al (by omega) (by omega) (by omega)
 unfold uc at m;rw[Y]at m;have ba:getN A (l:Int) ((4:Nat):Int) false=getN A l 4 false:=rfl;rw[ba]at m;generalize getN A l 4 false=y at*;have c0:=hr.cell (k:=0) rfl;have b9:=hr.lt;obtain⟨R,bb,HR,r⟩:=aB hs.len m hr j;have ab:ld.ownBlock≠some w.heap.size:=fun e=>by have:=Qx j e;omega
 have bA:=Lib.hid ab;clear m hr j ba al Y ab;unfold F9;simp only;go_enter func184,ntmps184;go_wp2_with fail;have Z:=dx.new w 243 #[TY T9 V,TY .u8 O,TY .u8 T,TY T7 l,.func (.func f) #[] #[],TY T6 d,T2 x] [TY T9 V,TY .u8 O,TY .u8 T,TY T7 l,.func (.func f) #[] #[],TY T6 d,T2 x] rfl;have E:=HR.out.alloc (Ua #[TY T9 V,TY .u8 O,TY .u8 T,TY T7 l,.func (.func f) #[] #[],TY T6 d,T2 x] 243);have a1:=(gN.refl g w).alloc (Ua #[TY T9 V,TY .u8 O,TY .u8 T,TY T7 l,.func (.func f) #[] #[],TY T6 d,T2 x] 243);have U:=r.out.alloc (Ua #[TY T9 V,TY .u8 O,TY .u8 T,TY T7 l,.func (.func f) #[] #[],TY T6 d,T2 x] 243);have M:bh (w.alloc (Ua #[TY T9 V,TY .u8 O,TY .u8 T,TY T7 l,.func (.func f) #[] #[],TY T6 d,T2 x] 243)) (w.alloc (Ua #[TY T9 V,TY .u8 O,TY .u8 T,TY T7 l,.func (.func f) #[] #[],TY T6 d,T2 x] 243)).heap.size 1 (some ⟨F,n,none⟩) 64 (dN A):=(G.alloc (ae _) _).more (by simp);have N:(w.alloc (Ua #[TY T9 V,TY .u8 O,TY .u8 T,TY T7 l,.func (.func f) #[] #[],TY T6 d,T2 x] 243)).heap.size=w.heap.size+1:=by simp
 generalize w.alloc (Ua _ 243)=W0 at*;have c0:=E.cell (k:=0) rfl;have g3:=Z.cell (k:=3) rfl;have b4:=E.lt;have a0:=eY c0;have a3:=eY g3;obtain⟨ai,a5,ar,H,L,b5,a6⟩:=az E Z a1 U M G N;clear E Z a1 U M G c0 g3 HR r N ap hs am;refine dO (by kernel_rfl) (by kernel_rfl) ?_;repeat(first
  |go_big_quiet_skip
  |(go_big_quiet_want
    first
     |(go_big_quiet_op
       first
        |go_big_quiet_on
        |go_big_quiet_call (first
          |(go_at_call 59;exact gi (bb.out _ (Nc L.out _)))))))
 refine wpQuiet_nil ?_;intro w5 D;have B:=ai.out.below D ai.out.lt;have J:=a5.out.below D (by rw[a6.out];omega);have S:=sT H.out D;have aE:=ar.out.trans (.SC D);have c2:=B.cell (k:=2) rfl;have f2:=B.frozen 2;have bW:=B.lt;have hw:IntKind.u32.wrap (y:Int)=(y:Int):=by simp[IntKind.wrap,IntKind.bits,IntKind.signed];omega
 have ad:=B.set_ 2 (TY T7 y);have u:=J.far (p:=⟨g,2,none⟩) (by show w.heap.size≠g;omega) (TY T7 y);have X:=qA S (p:=⟨g,2,none⟩) (by show g<g+2;omega) (TY T7 y);have a4:=aE.setCell (p:=⟨g,2,none⟩) rfl (TY T7 y);have bO:=ad.lt;have b2:w.heap.size<(w5.setCell ⟨g,2,none⟩ (TY T7 y)).heap.size:=by have:=u.lt;exact this
 obtain⟨v,a2,a7,bk⟩:=aB ad u X a4;clear B J S aE ad u X a4 ai a5 H ar L a0 a3 D;go_wp2_with fail;generalize w5.setCell ⟨g,2,none⟩ (TY T7 y)=w6 at*;have z:(jB (T0 (some ⟨F,n,none⟩) 64 cb) {s with a:=y} st ld)[22]? =some ld:=yx R.out;have ca:=v.out.cell (k:=22) z;have cd:=v.out.frozen 22;have g3:=a2.out.cell (k:=3) rfl;have j:=a7.out;have ag:ld.ownBlock≠some g:=fun e=>by have:=(j.lt g e).1;omega
 have ab:=bA.out;clear c2 f2;have b7:IntKind.i64.wrap (l:Int)=(l:Int):=by simp[IntKind.wrap,IntKind.bits,IntKind.signed];omega
 have C:∀(o:Obj) (w1:Ub),((w6.alloc o).drew).grownBy w1 ld.ownBlock->w1.cell? ⟨g,22,none⟩=some ld/\w1.frozen? ⟨g,22,none⟩=false:=fun o w1 c=>
  ⟨(c.cell_far ⟨g,22,none⟩ (by simp;omega) (kn ag)).trans ((v.out.alloc o).cell (k:=22) z),(c.frozen_far ⟨g,22,none⟩ (by simp;omega) (kn ag)).trans ((v.out.alloc o).frozen 22)⟩
 obtain⟨bl,r⟩:=aA C j;clear C j z;go_region_law ((refine p6 _ (by rfl) _ _ _ (by rfl) (g+2) 3 i0 _ 1 8 underlying86 bv bo bB bq rfl (by omega) ld q xs (by rfl) ((r.out.alloc _).drew) ⟨w6.heap.size,0,none⟩ 1 1 [TY T6 l] (by rfl) (by rfl) (mz (cs:=#[TY T6 l]) (t:=3) (fr:=(0,0)) (cq w6 _)) (by simp[Value.oneCell']) (by omega) (by simp only[maxLen];omega) (by omega) (by simp;omega) (w6.heap.size+1) (by simp) ?_;intro gg cap w1 ak c cf bR;obtain⟨C,b0⟩:=bl.out _ _ c))
 all_goals
  go_end0;refine⟨rfl,⟨T0 (some ⟨gg,0,none⟩) (q+1) cap,_,?_,qA ak (p:=⟨g,22,none⟩) (by show g<g+2;omega) _⟩,?_⟩
  ·have r1:=((v.out.alloc _).drew.grown c (kn ag)).set_ 22 (T0 (some ⟨gg,0,none⟩) (q+1) cap);have e:=zX (b:=T0 (some ⟨F,n,none⟩) 64 cb) (s:={s with a:=y}) (st:=st) (ld:=ld) R.out (T0 (some ⟨gg,0,none⟩) (q+1) cap);have r2:dx _ g _ 23 ((jB (T0 (some ⟨F,n,none⟩) 64 cb) {s with a:=y} st ld).set 22 (T0 (some ⟨gg,0,none⟩) (q+1) cap)):=r1;rw[e]at r2;exact r2
  exact((nR.SF ((bk.out.alloc _).drew)).grown c (fun k e=>(r.out.lt k e).1)).setCell _
def Rg:List Nat:=[184,185,186,187,188,189,190,191,192,193,194,195,196,197,198]
def yu(d:Nat):Nat:=if 25<=d then 115 else if 16<=d then 116 else Rg.getD (d - 1) 0
def kc(f:Nat):Uc:=.func (.func f) #[] #[]
def jh:List (Int×Uc):=[(1,kc 184),(2,kc 185),(3,kc 186),(4,kc 187),(5,kc 188),(6,kc 189),(7,kc 190),(8,kc 191),(9,kc 192),(10,kc 193),(11,kc 194),(12,kc 195),(13,kc 196),(14,kc 197),(15,kc 198)]
theorem nz{P:Program}{b:Array Oper}{rest:List Oper}{o:Oper}{a:Act}{Q:Exit->Act->Ub->Prop}(c:o.guard=none)(t:TypeId)(m x:Operand)(q:IntKind)(k:Int)(v:Uc)
  (n:o.op=.insert t m (.const (TY q k)) x)(d e:TypeId)(f:P.underlying t=some (.map d e))(g:P.underlying d=some (.int q))(w:Ub)(l:List (Int×Uc))
  (r:a.eval x=v)(j:(Lit.int q k).wf=true)(u:a.eval m=.map (some w.heap.size))(s:IntMaps.look l k=none)
  (h:wpList P b Q rest (a.put o.dst undef) (w.alloc (.map (IntMaps.lit q (l++[(k,v)])) (l++[(k,v)]).length))):
  wpList P b Q (o::rest) a (w.alloc (.map (IntMaps.lit q l) l.length)):=by
 refine jG c fun K i=>?_
 have p:=IntMaps.run_insert (P:=P) t d e q f g w l k v j s;have y:a.eval (.const (TY q k))=TY q k:=rfl;unfold Oper.wp execOp;simp only[n,u,r,y,aY,p,Result.andThen];exact i _ _ h
theorem KE(w:Ub):Calls prog 114 #[] w fun e w'=>e=.returned (.map (some w.heap.size))/\w'=w.alloc (.map (IntMaps.lit T6 jh) jh.length):=by
 go_enter func114,ntmps114;go_wp2_with (first|refine IntMaps.wpList_make rfl 237 rfl T6 w ?_|refine nz rfl 237 (.tmp 1) _ T6 _ _ rfl _ _ underlying237 underlying153 w _ rfl rfl rfl rfl ?_);go_ret;exact⟨rfl,rfl⟩
def Rh(i:I):List Uc:=[TY T9 i.code,TY .u8 i.jt,TY .u8 i.jf,TY T7 i.k,kc (yu (kd i)),TY T6 (kd i:Nat),T2 (kx i)]
def j4(l:List I):List Uc:=l.flatMap Rh
theorem zU(a b:List I):j4 (a++b)=j4 a++j4 b:=by unfold j4;rw[bX]
theorem zV(l:List I):(j4 l).length=l.length*7:=by
 induction l with
 |nil=>rfl
 |cons i l ih=>unfold j4 at ih⊢;rw[cB,bw,ih,aM];show 7+_=_;omega
theorem Pd:(prog.info? 243).map (fun i=>(i.zero,i.size,i.bytes))=some (some (T1 #[TY T9 0,TY .u8 0,TY .u8 0,TY T7 0,.nilFunc,TY T6 0,T2 false]),7,32):=by kernel_rfl
theorem Ni(l:List I)(k:Nat)(a:k<l.length):j4 (l.take (k+1))=j4 (l.take k)++Rh (l.getD k default):=by
 rw[xQ l k a,zU];simp[j4]
theorem GS(d:Nat)(b:1<=d)(a:d<=15):IntMaps.look jh (d:Int)=some (kc (yu d)):=by
 match d,b,a with
 |1,_,_=>rfl
 |2,_,_=>rfl
 |3,_,_=>rfl
 |4,_,_=>rfl
 |5,_,_=>rfl
 |6,_,_=>rfl
 |7,_,_=>rfl
 |8,_,_=>rfl
 |9,_,_=>rfl
 |10,_,_=>rfl
 |11,_,_=>rfl
 |12,_,_=>rfl
 |13,_,_=>rfl
 |14,_,_=>rfl
 |15,_,_=>rfl
theorem look_none(d:Nat)(c:16<=d)(b:d<=28):IntMaps.look jh (d:Int)=none:=by
 have a:d=16\/d=17\/d=18\/d=19\/d=20\/d=21\/d=22\/d=23\/d=24\/d=25\/d=26\/d=27\/d=28:=by omega
 rcases a with rfl|rfl|rfl|rfl|rfl|rfl|rfl|rfl|rfl|rfl|rfl|rfl|rfl<;>rfl
theorem ua(w:Ub):(zeroValue 239).run prog w=.ok .nilFunc w:=by kernel_rfl
def Nj(p:List I)(w:Ub)(e:Ending)(w':Ub):Prop:=
 (∃(gm:Nat) (A:Option Addr) (c:Nat),(fK p).2=0/\e=.returned (T4 #[TZ (some ⟨gm,0,none⟩),TY T6 0])/\w.heap.size<=gm/\gm<w'.heap.size/\w'.cell? ⟨gm,0,none⟩=some (T0 A p.length c)/\bh w' w'.heap.size 7 A p.length (j4 p)/\Below w.heap.size w w')\/
 ((fK p).2≠0/\e=.returned (T4 #[TZ none,TY T6 ((fK p).2:Nat)])/\Below w.heap.size w w')
theorem Pe(p:List I)(bi:∀i∈p,i.Ok)(A:Option Addr)(n c:Nat)(w:Ub)(hr:bh w w.heap.size 4 A n (gx p))(hn:n<=100000):
  Calls prog 60 #[T0 A n c] w (Nj p w):=by
 obtain⟨i0,a5,av,a7,a1⟩:=cZ Pd;have hl:n=p.length:=by have:=hr.1;rw[jq]at this;omega
 have HL:=Lib.hid hl;clear hl;go_enter func60,ntmps60;go_wp2_with fail;refine(Bt p bi A n c w hr (by omega)).mono ?_;rintro e b ⟨rfl,B⟩;by_cases hc:(fK p).2=0
 ·have HC:=Lib.hid hc;rw[hc];clear hc;have bf:=(hr.below B).more B.size;go_wp2_with fail;refine(KE _).mono ?_;rintro e w2 ⟨rfl,rfl⟩;have a2:(b.alloc (Ua #[T0 none 0 0] 236)).heap.size=b.heap.size+1:=by simp
  have aE:((b.alloc (Ua #[T0 none 0 0] 236)).alloc (.map (IntMaps.lit T6 jh) jh.length)).heap[b.heap.size+1]? =some (.map (IntMaps.lit T6 jh) jh.length):=by
   have:=cq (b.alloc (Ua #[T0 none 0 0] 236)) (.map (IntMaps.lit T6 jh) jh.length);rwa [a2]at this
  have G:=(dx.new b 236 #[T0 none 0 0] [T0 none 0 0] rfl).alloc (.map (IntMaps.lit T6 jh) jh.length);have a0:=(B.alloc B.size (Ua #[T0 none 0 0] 236)).alloc (by rw[a2];have:=B.size;omega) (.map (IntMaps.lit T6 jh) jh.length);have b4:((b.alloc (Ua #[T0 none 0 0] 236)).alloc (.map (IntMaps.lit T6 jh) jh.length)).heap.size=b.heap.size+2:=by simp
  generalize (b.alloc (Ua _ 236)).alloc (.map (IntMaps.lit T6 jh) jh.length)=w2 at*;go_wp2_with fail;have bm:=B.size;go_loopw [27] (fun i wr=>∃(k:Nat) (v:Uc),k<=n/\i=TY T6 k/\dx wr b.heap.size 236 1 [v]/\wr.ownsRow (b.heap.size+2) 243 7 v k (j4 (p.take k))/\ep wr (b.heap.size+1) jh/\Below w.heap.size w wr) (fun i _=>n - (intOf i).toNat)
  case atStart=>exact⟨0,T0 none 0 0,by omega,rfl,G,aX _ _ _ _,aE,a0⟩
  case round=>
   obtain⟨k,v,hk,rfl,D,E,L,hB⟩:=hrel;have z0:(0:Int)<=(k:Int):=by omega
   by_cases b6:k<n
   ·have a6:k<p.length:=by have:=HL.out;omega
    obtain⟨b2,cf,rfl,cm,c0,c1,c2,c3⟩:=(hr.below hB).Th b6;have bA:=oc bi a6;have S:=mO (l:=p) (by
     have h:=HC.out;unfold fK at h;by_cases hf:(eA p).2=0
     ·exact hf
     rw[aj hf]at h;exact h)
    have cc:=S.TQ a6;have ca:=Jr (p.getD k default);have s:=Ni p k a6;have ab:Rh (p.getD k default)=[TY T9 (p.getD k default).code,TY .u8 (p.getD k default).jt,TY .u8 (p.getD k default).jf,TY T7 (p.getD k default).k,kc (yu (kd (p.getD k default))),TY T6 (kd (p.getD k default):Nat),T2 (kx (p.getD k default))]:=rfl;rw[ab]at s;have a4:∀W,TV 105 #[TY T9 (p.getD k default).code] W (T4 #[TY T6 (kd (p.getD k default):Nat),T2 (kx (p.getD k default)),T2 (kd (p.getD k default) != 0)]):=fun W=>yz _ bA.1 W
    clear S ab;generalize kd (p.getD k default)=d at*;generalize kx (p.getD k default)=x at*;generalize p.getD k default=i at*;obtain⟨O,M,N,R⟩:=i;simp only at c0 c1 c2 c3 a4 s;obtain⟨bb,X,ai,ak,am,HB⟩:=aF a4 s D E L hB;have z1:(k:Int)<(n:Int):=by omega
    have ch:b.heap.size+1<wr.heap.size:=L.lt;clear a4 s D E L hB G aE a0 B bf a2 b4;go_wp2_with fail;refine(bb.out _).mono ?_;rintro e J ⟨rfl,F⟩;have U:=(dx.new wr 157 #[TY T9 O,TY .u8 M,TY .u8 N,TY T7 R] [TY T9 O,TY .u8 M,TY .u8 N,TY T7 R] rfl).below F (by simp);have r:=(ai.out.alloc (Ua #[TY T9 O,TY .u8 M,TY .u8 N,TY T7 R] 157)).below F (by simp;omega);have T:=(am.out.alloc (Ua #[TY T9 O,TY .u8 M,TY .u8 N,TY T7 R] 157)).below F (by simp;omega);have H:=sT (ak.out.alloc (Ua #[TY T9 O,TY .u8 M,TY .u8 N,TY T7 R] 157)) F;have bp:=(HB.out.alloc HB.out.size (Ua #[TY T9 O,TY .u8 M,TY .u8 N,TY T7 R] 157)).trans (F.mono (by simp;have:=HB.out.size;omega));have ci:wr.heap.size<J.heap.size:=by have:=F.size;simp at this;omega
    have ag:v.ownBlock≠some b.heap.size:=fun e=>by have:=(H.lt _ e).1;omega
    have be:v.ownBlock≠some (b.heap.size+1):=fun e=>by have:=(H.lt _ e).1;omega
    have bq:=fun(o:Obj) (w4:Ub) (a:((J.alloc o).drew).grownBy w4 v.ownBlock)=>(show w4.cell? ⟨b.heap.size,0,none⟩=some v/\w4.frozen? ⟨b.heap.size,0,none⟩=false from
     ⟨(a.cell_far ⟨b.heap.size,0,none⟩ (by simp;omega) (kn ag)).trans ((r.alloc o).cell (k:=0) rfl),(a.frozen_far ⟨b.heap.size,0,none⟩ (by simp;omega) (kn ag)).trans ((r.alloc o).frozen 0)⟩)
    have Y:=fun(o:Obj)=>cq J o
    have ap:(Lit.int T6 (d:Int)).wf=true:=by go_wf
    have an:=fun(h1:d<=15)=>gy T 237 _ _ underlying237 underlying153 (d:Int) .nilFunc ap (ua J)
    have d0:=U.cell (k:=0) rfl;have d1:=U.cell (k:=1) rfl;have d2:=U.cell (k:=2) rfl;have d3:=U.cell (k:=3) rfl;have m0:=r.cell (k:=0) rfl;have co:b.heap.size<J.heap.size:=r.lt;obtain⟨C0,V,Z,j,m,u,AG,a3,LK⟩:=ay bq Y r T H bp ag be an;clear U r T H bp F ag be bq Y bb ai ak am HB c0 c1 c2 c3 ap an;by_cases bv:25<=d
    ·have b5:(25:Int)<=(d:Int):=by omega
     have y:kc (yu d)=.func (.func 115) #[] #[]:=by unfold yu;rw[aj bv];rfl
     have C:=gy j.out 237 _ _ underlying237 underlying153 (d:Int) .nilFunc (by go_wf) (ua J);rw[look_none d (by omega) (by omega)]at C;simp only[Option.getD_none]at C;have g:=X.out;rw[y]at g;have TK:=Lib.hid g;clear g y;go_wp2_with fail;go_region_law ((refine p6 _ (by rfl) _ _ _ (by rfl) (b.heap.size+2) 243 i0 _ 7 32 underlying234 a5 av a7 a1 rfl (by omega) v k (j4 (p.take k)) (by rfl) ((m.out.alloc _).drew) ⟨J.heap.size,0,none⟩ 1 1 [TY T9 O,TY .u8 M,TY .u8 N,TY T7 R,.func (.func 115) #[] #[],TY T6 d,T2 x] (by rfl) (by rfl) (mz (cs:=#[TY T9 O,TY .u8 M,TY .u8 N,TY T7 R,.func (.func 115) #[] #[],TY T6 d,T2 x]) (t:=243) (fr:=(0,0)) (V.out _)) (by simp[Value.oneCell']) (by omega) (by simp only[maxLen];omega) (by omega) (by simp;omega) (J.heap.size+1) (by simp) ?_;intro gg cap w4 f a bx ad;obtain⟨bl,bo⟩:=C0.out _ _ a))
     all_goals
      go_wp2_with fail;go_roundw
      case rel=>
       refine⟨k+1,T0 (some ⟨gg,0,none⟩) (k+1) cap,by omega,by go_num,?_,?_,?_,?_⟩
       ·exact((Z.out.alloc _).drew.grown a (kn AG.out)).set_ 0 _
       ·rw[TK.out];exact qA f (p:=⟨b.heap.size,0,none⟩) (by show b.heap.size<b.heap.size+2;omega) _
       ·exact(((j.out.alloc _).drew.grown a (kn a3.out))).setCell (p:=⟨b.heap.size,0,none⟩) (by show b.heap.size+1≠b.heap.size;omega) _
       exact((((u.out.alloc u.out.size _).drew).grown a (by simp;have:=u.out.size;omega) (fun q e=>by have:=(m.out.lt q e).1;omega)).setCell (p:=⟨b.heap.size,0,none⟩) (by show w.heap.size<=b.heap.size;omega) _)
      case measure=>simp[intOf]<;>omega
    have b5:¬(25:Int)<=(d:Int):=by omega
    by_cases b3:16<=d
    ·have b8:(16:Int)<=(d:Int):=by omega
     have y:kc (yu d)=.func (.func 116) #[] #[]:=by unfold yu;rw[af bv,aj b3];rfl
     have C:=gy j.out 237 _ _ underlying237 underlying153 (d:Int) .nilFunc (by go_wf) (ua J);rw[look_none d (by omega) (by omega)]at C;simp only[Option.getD_none]at C;have g:=X.out;rw[y]at g;have TK:=Lib.hid g;clear g y;go_wp2_with fail;go_region_law ((refine p6 _ (by rfl) _ _ _ (by rfl) (b.heap.size+2) 243 i0 _ 7 32 underlying234 a5 av a7 a1 rfl (by omega) v k (j4 (p.take k)) (by rfl) ((m.out.alloc _).drew) ⟨J.heap.size,0,none⟩ 1 1 [TY T9 O,TY .u8 M,TY .u8 N,TY T7 R,.func (.func 116) #[] #[],TY T6 d,T2 x] (by rfl) (by rfl) (mz (cs:=#[TY T9 O,TY .u8 M,TY .u8 N,TY T7 R,.func (.func 116) #[] #[],TY T6 d,T2 x]) (t:=243) (fr:=(0,0)) (V.out _)) (by simp[Value.oneCell']) (by omega) (by simp only[maxLen];omega) (by omega) (by simp;omega) (J.heap.size+1) (by simp) ?_;intro gg cap w4 f a bx ad;obtain⟨bl,bo⟩:=C0.out _ _ a))
     all_goals
      go_wp2_with fail;go_roundw
      case rel=>
       refine⟨k+1,T0 (some ⟨gg,0,none⟩) (k+1) cap,by omega,by go_num,?_,?_,?_,?_⟩
       ·exact((Z.out.alloc _).drew.grown a (kn AG.out)).set_ 0 _
       ·rw[TK.out];exact qA f (p:=⟨b.heap.size,0,none⟩) (by show b.heap.size<b.heap.size+2;omega) _
       ·exact(((j.out.alloc _).drew.grown a (kn a3.out))).setCell (p:=⟨b.heap.size,0,none⟩) (by show b.heap.size+1≠b.heap.size;omega) _
       exact((((u.out.alloc u.out.size _).drew).grown a (by simp;have:=u.out.size;omega) (fun q e=>by have:=(m.out.lt q e).1;omega)).setCell (p:=⟨b.heap.size,0,none⟩) (by show w.heap.size<=b.heap.size;omega) _)
      case measure=>simp[intOf]<;>omega
    have b8:¬(16:Int)<=(d:Int):=by omega
    have y:kc (yu d)=.func (.func (yu d)) #[] #[]:=rfl;have C:=gy j.out 237 _ _ underlying237 underlying153 (d:Int) .nilFunc (by go_wf) (ua J);rw[GS d (by omega) (by omega)]at C;simp only[jX,y]at C;have g:=X.out;rw[y]at g;generalize yu d=ff at*;have TK:=Lib.hid g;clear g y;go_wp2_with fail;go_region_law ((refine p6 _ (by rfl) _ _ _ (by rfl) (b.heap.size+2) 243 i0 _ 7 32 underlying234 a5 av a7 a1 rfl (by omega) v k (j4 (p.take k)) (by rfl) ((m.out.alloc _).drew) ⟨J.heap.size,0,none⟩ 1 1 [TY T9 O,TY .u8 M,TY .u8 N,TY T7 R,.func (.func ff) #[] #[],TY T6 d,T2 x] (by rfl) (by rfl) (mz (cs:=#[TY T9 O,TY .u8 M,TY .u8 N,TY T7 R,.func (.func ff) #[] #[],TY T6 d,T2 x]) (t:=243) (fr:=(0,0)) (V.out _)) (by simp[Value.oneCell']) (by omega) (by simp only[maxLen];omega) (by omega) (by simp;omega) (J.heap.size+1) (by simp) ?_;intro gg cap w4 f a bx ad;obtain⟨bl,bo⟩:=C0.out _ _ a))
    all_goals
     go_wp2_with fail;go_roundw
     case rel=>
      refine⟨k+1,T0 (some ⟨gg,0,none⟩) (k+1) cap,by omega,by go_num,?_,?_,?_,?_⟩
      ·exact((Z.out.alloc _).drew.grown a (kn AG.out)).set_ 0 _
      ·rw[TK.out];exact qA f (p:=⟨b.heap.size,0,none⟩) (by show b.heap.size<b.heap.size+2;omega) _
      ·exact(((j.out.alloc _).drew.grown a (kn a3.out))).setCell (p:=⟨b.heap.size,0,none⟩) (by show b.heap.size+1≠b.heap.size;omega) _
      exact((((u.out.alloc u.out.size _).drew).grown a (by simp;have:=u.out.size;omega) (fun q e=>by have:=(m.out.lt q e).1;omega)).setCell (p:=⟨b.heap.size,0,none⟩) (by show w.heap.size<=b.heap.size;omega) _)
     case measure=>simp[intOf]<;>omega
   obtain rfl:n=k:=by omega
   have z1:¬(n:Int)<(n:Int):=by omega
   have al:p.take n=p:=bI (by have:=HL.out;omega);rw[al]at E;obtain⟨A2,c2,rfl,ar⟩:=cX E;have c0:=D.cell (k:=0) rfl;have bN:=D.lt;rw[HL.out]at ar c0;obtain⟨b7,C0⟩:=aA ar c0;clear ar c0 E D L al hr bf G aE a0;go_wp2_with fail;go_ret2;exact .inl ⟨b.heap.size,A2,c2,HC.out,rfl,bm,bN,C0.out,b7.out,hB⟩
 have HC:=Lib.hid hc;have z:((((fK p).2:Nat):Int) != 0)=true:=by simp;omega
 clear hc;go_wp2_with fail;go_ret2;exact .inr ⟨HC.out,rfl,B⟩
end
end Go.Proofs.YtfammloeljmplaaGreatDoor
