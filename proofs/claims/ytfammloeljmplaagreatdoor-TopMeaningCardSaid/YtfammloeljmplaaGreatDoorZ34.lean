/- Contracts of texts of conditions and of trees; conditions: each lemma's own. -/
import Derived.Test.YtfammloeljmplaaGreatDoorZ25
import Derived.Test.YtfammloeljmplaaGreatDoorZ27
import Derived.Test.YtfammloeljmplaaGreatDoorZ33
open Go.Value renaming int->TY,pointer->TZ,slice->T0,agg->T1,bool->T2,tuple->T4
open Go.IntKind renaming i64->T6,u32->T7,u64->T8
open Go.Obj renaming cells->Ua
open Go renaming World->Ub,Value->Uc
namespace Go.Proofs.YtfammloeljmplaaGreatDoor
open Go.Proofs.Tryz
set_option maxRecDepth 100000
set_option maxHeartbeats 8000000
set_option linter.unusedVariables false
set_option linter.unusedSimpArgs false
section
open Go.RowKit Go.Sort
theorem uy:(prog.info? 9).map (fun i=>(i.zero,i.size,i.bytes))=some (some (.string ⟨#[]⟩),1,16):=by kernel_rfl
def mg(B n m:Nat)(v:Uc)(w:Ub):Prop:=∃a:List ByteArray,a.length=n/\(∀s∈a,s.size<=m)/\w.ownsRow B 9 1 v n (a.map Value.string)
def Kd.strs(B n m:Nat):Kd:=⟨mg B n m,fun _ _ _ d ⟨b,c,a,e⟩=>⟨b,c,a,cC d e⟩⟩
def PI(k:Nat)(v:Uc)(w:Ub):Prop:=∃g,v=TZ (some ⟨g,k*2,none⟩)/\g<w.heap.size/\w.rangeAt g 0 xq
def Kd.Ta(k:Nat):Kd:=⟨PI k,fun _ _ _ b ⟨g,c,a,d⟩=>⟨g,c,bn a b.size,od d b a⟩⟩
def Ro(v:Uc)(w:Ub):Prop:=∃g,v=T0 (some ⟨g,0,none⟩) 7 7/\g<w.heap.size/\w.rangeAt g 0 xq
def Kd.ops:Kd:=⟨Ro,fun _ _ _ b ⟨g,c,a,d⟩=>⟨g,c,bn a b.size,od d b a⟩⟩
theorem Ip(k:Nat)(a:k<7):∃s:ByteArray,xq[k*2]? =some (.string s)/\s.size<=2:=by
 match k,a with
 |0,_=>exact⟨_,rfl,by decide⟩
 |1,_=>exact⟨_,rfl,by decide⟩
 |2,_=>exact⟨_,rfl,by decide⟩
 |3,_=>exact⟨_,rfl,by decide⟩
 |4,_=>exact⟨_,rfl,by decide⟩
 |5,_=>exact⟨_,rfl,by decide⟩
 |6,_=>exact⟨_,rfl,by decide⟩
theorem N7(w:Ub)(B:Nat)(b:B<=w.heap.size)(e:TypeId)(size n:Nat)(l:List Uc)(a:l.length=n*size)(c:n<=maxLen):(w.alloc (Ua l.toArray e)).ownsRow B e size (T0 (some ⟨w.heap.size,0,none⟩) n n) n l:=
 ⟨a,.inr ⟨w.heap.size,n,l.toArray,rfl,b,cq w _,ae _,c,by simp[a],by rw[<-a];simp⟩⟩
theorem pG{W a:Ub}{base:Nat}{e:TypeId}{size n:Nat}{v:Uc}{xs:List Uc}(h:W.ownsRow base e size v n xs)(b:Below W.heap.size W a):a.ownsRow base e size v n xs:=cC b h
theorem N8(a:Nat)(b:a<100)(w:Ub):Calls prog 208 #[TY T6 a] w fun e w'=>∃v,e=.returned v/\(∃s:ByteArray,v=.string s/\s.size<=20)/\aS w w':=by
 refine(p8 a b w).mono ?_;rintro e w' ⟨rfl,rfl⟩;refine⟨_,rfl,⟨_,rfl,?_⟩,aS.refl _⟩;show(Lib.decDigits a).toArray.size<=20
 rw[dr,Lib.decDigits_length];exact Lib.nDigits_le20 a (by omega)
theorem Iq{W:Ub}{B n m:Nat}{v:Uc}(h:mg B n m v W):∃A c,v=T0 A n c/\n<=c/\(0<n->∃b o,A=some ⟨b,o,none⟩/\b<W.heap.size/\∀j,j<n->∃s:ByteArray,W.cell? ⟨b,o+j,none⟩=some (.string s)/\s.size<=m):=by
 obtain⟨a,t,i,q⟩:=h;rcases q.2 with⟨rfl,k⟩|⟨g,cap,e,rfl,r,f,l,x,u,p⟩
 ·subst k;exact⟨none,0,rfl,ae _,fun h=>absurd h (by simp)⟩
 refine⟨_,cap,rfl,l,fun _=>⟨g,0,rfl,(aL.1 f).1,fun j y=>?_⟩⟩;have d:j<a.length:=by omega
 refine⟨a[j],?_,i _ (bj _)⟩;have e1:(e.toList.take (n*1))[j]? =some (.string a[j]):=by rw[p,cO,ah d];rfl
 rw[eS,aj (by omega)]at e1;rw[cV];simp only[World.cell?,f];simpa using e1
theorem LM{W:Ub}{B n m:Nat}{v:Uc}(h:mg B n m v W)(f:n<=100000)(d:m<=1000000)(b:UInt8):Calls prog 130 #[v,.string ⟨#[b]⟩] W (gz (n*(m+1)) W):=by
 obtain⟨A,c,rfl,e,a⟩:=Iq h;exact zf m n c A b W f d e a
theorem N9(c:Cd)(hc:c.Ok)(hr:fS c=true)(w:Ub)(ht:kC w):Calls prog 128 #[T1 c.vals.toArray] w (gz 110 w):=by
 unfold gz;obtain⟨i0,Z,S,ag,V⟩:=cZ uy;have B:=fun W=>oG c W
 rw[hr]at B;obtain⟨ca,co,cm,cv⟩:=c;unfold fS at hr;obtain⟨h1,h2,h3,h4,h5⟩:=aN hr;have hm:=hc.mask;have hv:=hc.val;simp only at h1 h2 h3 h4 hm hv;obtain⟨a,rfl⟩:∃a:Nat,ca=(a:Int):=⟨ca.toNat,by omega⟩;obtain⟨k,rfl⟩:∃k:Nat,co=(k:Int)+1:=⟨(co - 1).toNat,by omega⟩;have bp:k<7:=by omega
 have U:=fun W hW=>wv cm hm W hW
 have Y:=fun W hW=>wv cv hv W hW
 unfold gz at U Y;have bb:=(aw w.heap.size w).alloc (ae _) (Ua #[TY T6 a,TY T6 ((k:Int)+1),TY T8 cm,TY T8 cv] 162);have b0:=bK.new w 162 #[TY T6 a,TY T6 ((k:Int)+1),TY T8 cm,TY T8 cv];have aE:(w.alloc (Ua #[TY T6 a,TY T6 ((k:Int)+1),TY T8 cm,TY T8 cv] 162)).heap.size=w.heap.size+1:=by simp
 replace B:∀W,TV 203 #[T1 #[TY T6 a,TY T6 ((k:Int)+1),TY T8 cm,TY T8 cv]] W (T2 true):=B;show Calls prog _ #[T1 #[TY T6 a,TY T6 ((k:Int)+1),TY T8 cm,TY T8 cv]] w _
 have a1:=fun W=>N8 a (by omega) W
 obtain⟨b2,B0,bv,HT,a3,b8,bk⟩:=az bb b0 aE ht a1 U Y;clear bb b0 aE ht a1 U Y;clear hr hc hm hv h5;go_enter func128,ntmps128;go_wp2_with fail;refine(B _).mono ?_;rintro e w1 ⟨rfl,L⟩;have hz:=L.size;have ci:=bv.out;have b1:=B0.out.below L (by omega);have a4:=b2.out.trans (L.mono (by omega));have c0:=b1.cell 0;have c1:=b1.cell 1;have c2:=b1.cell 2;have T:=b1.cell 3;simp only[ao]at c0 c1 c2 T;have c0:w1.drew.cell? ⟨w.heap.size,0,none⟩=some (TY T6 a):=c0;have c1:w1.drew.cell? ⟨w.heap.size,1,none⟩=some (TY T6 ((k:Int)+1)):=c1;have cy:IntKind.i64.wrap (k:Int)=(k:Int):=IntWalk.i64_in _ (by omega);have de:w.heap.size<=w1.heap.size:=by omega
 obtain⟨B1,cd⟩:=aA b1 a4;clear b1 a4;clear L B;go_wp2_with fail;refine Any.wp_region_kinds eL (nQ [(7,.eq (TZ (some ⟨w.heap.size,0,none⟩))),(8,.eq (TY T6 a)),(9,.str 20),(10,.str 21),(11,.ops),(12,.eq (TZ (some ⟨w.heap.size,1,none⟩))),(13,.eq (TY T6 ((k:Int)+1))),(14,.eq (TY T6 k)),(15,.Ta k),(16,.Ta k),(17,.str 20),(18,.strs (w.heap.size+1) 2 21),(3,.strs (w.heap.size+1) 2 21)]) [7,8,9,10,11,12,13,14,15,16,17,18,3] (by kernel_rfl) (by kernel_rfl) (by kernel_rfl) ⟨?_,?_,?_,?_,?_,?_,?_,?_,?_,?_,?_,?_,?_,trivial⟩ ?_
 ·exact Any.st_old1 7 1 _ _ (.plain rfl) rfl (by decide) rfl (fun a w h=>by unfold execOp;simp only[h];first|(simp[go_sem];done)|(simp[go_sem];omega)|(simp[go_sem, *];done)) (fun _ _=>rfl)
 ·exact Any.sx_load_at 8 7 _ _ _ (.plain rfl) rfl rfl (by decide) rfl (by assumption) (fun w h=>by simp[go_sem,h]) rfl
 ·exact Any.st_callv 9 _ (.plain rfl) rfl rfl func208 (by kernel_rfl) rfl (fun a w h=>by have e8:a.eval (.tmp 8)=_:=h.eqv 8 (by decide) rfl;simp only[aQ,aJ,a8,e8]<;>rfl) (fun W hW=>a3.out W)
 ·exact Any.sx_fit 10 (.plain rfl) rfl (fun a w h=>by obtain⟨s,e,hs⟩:=h.at 9 (by decide);refine⟨.string (⟨#[97]⟩++s),?_,_,rfl,by rw[zK];show 1+s.size<=21;omega⟩;unfold execOp;simp only[e];simp[go_sem]<;>omega)
 ·exact Any.st_callv 11 _ (.plain rfl) rfl rfl func209 (by kernel_rfl) rfl (fun a w h=>by simp only[aQ,aJ,a8]<;>rfl) (fun W hW=>(Fj W).mono (fun e w' h=>by obtain⟨rfl,rfl⟩:=h;exact⟨_,rfl,⟨_,rfl,by simp,fun j v hv=>by rw[cV,World.cell?_alloc_at _ _ _ _ rfl];simpa using hv⟩,(aS.refl W).alloc _⟩))
 ·exact Any.st_old1 12 1 _ _ (.plain rfl) rfl (by decide) rfl (fun a w h=>by unfold execOp;simp only[h];first|(simp[go_sem];done)|(simp[go_sem];omega)|(simp[go_sem, *];done)) (fun _ _=>rfl)
 ·exact Any.sx_load_at 13 12 _ _ _ (.plain rfl) rfl rfl (by decide) rfl (by assumption) (fun w h=>by simp[go_sem,h]) rfl
 ·exact Any.sx_one 14 13 _ _ (.plain rfl) rfl (by decide) rfl (fun a w h=>by unfold execOp;simp only[h];first|(simp[go_sem];done)|(simp[go_sem];omega)|(simp[go_sem, *];done)) rfl
 ·exact Any.sx_fit 15 (.plain rfl) rfl (fun a w h=>by obtain⟨g,e,hs⟩:=h.at 11 (by decide);have e2:a.eval (.tmp 14)=_:=h.eqv 14 (by decide) rfl;refine⟨TZ (some ⟨g,k*2,none⟩),?_,_,rfl,hs⟩;unfold execOp;simp only[e,e2];simp[go_sem];omega)
 ·exact Any.sx_fit 16 (.plain rfl) rfl (fun a w h=>by obtain⟨g,e,hs⟩:=h.at 15 (by decide);refine⟨TZ (some ⟨g,k*2,none⟩),?_,_,rfl,hs⟩;unfold execOp;simp only[e];simp[go_sem])
 ·exact Any.sx_fit 17 (.plain rfl) rfl (fun a w h=>by obtain⟨g,e,_,hs⟩:=h.at 16 (by decide);obtain⟨s,X,bx⟩:=Ip k bp;have E:=hs _ _ X;rw[cV]at E;refine⟨.string s,?_,_,rfl,by omega⟩;unfold execOp;simp only[e];simp[go_sem,E])
 ·refine Any.st_run (.plain rfl) fun a W h=>?_
  obtain⟨s1,e1,X⟩:∃s:ByteArray,a.eval (.tmp 10)=.string s/\s.size<=21:=h.at 10 (by decide);obtain⟨s2,e2,bx⟩:∃s:ByteArray,a.eval (.tmp 17)=.string s/\s.size<=20:=h.at 17 (by decide);have ba:(Instr.buildSlice 196 2 #[(0,.string s1),(1,.string s2)]).run prog W=.ok (T0 (some ⟨W.heap.size,0,none⟩) 2 2) (W.alloc (Ua #[.string s1,.string s2] 9)):=by kernel_rfl
  have bi:w1.heap.size<=W.heap.size:=h.grows.size;unfold Oper.wp execOp;simp only[aQ,aJ,a8,e1,e2,aY,ba,bd];refine⟨_,rfl,fun d' bB=>?_,(aS.refl W).alloc _⟩;cases bB;exact⟨[s1,s2],rfl,fun s hs=>by rcases aP.1 hs with rfl|hs;(exact X);rcases aP.1 hs with rfl|hs;(omega);simp at hs,N7 W _ (by omega) _ 1 2 [.string s1,.string s2] rfl (by simp[maxLen])⟩
 ·exact Any.st_copy 3 18 (.plain rfl) (by first|exact .inl rfl|exact .inr rfl) rfl (by decide) rfl
 intro f w5 x r;have h7:f 7=TZ (some ⟨w.heap.size,0,none⟩):=r 7 rfl;have h8:f 8=TY T6 a:=r 8 rfl;have h9:=r 9 rfl;have bO:=r 10 rfl;have cc:=r 11 rfl;have a9:f 12=TZ (some ⟨w.heap.size,1,none⟩):=r 12 rfl;have an:f 13=TY T6 ((k:Int)+1):=r 13 rfl;have ap:f 14=TY T6 k:=r 14 rfl;have bq:=r 15 rfl;have br:=r 16 rfl;have b3:=r 17 rfl;have b4:=r 18 rfl;have h3:=r 3 rfl;simp only[Any.fill,bC,bL,aq,aI,aH,bg,bZ,h7,h8,a9,an,ap];have h3:mg (w.heap.size+1) 2 21 (f 3) w5:=h3;have bi:w1.heap.size<=w5.heap.size:=x.size;have R:w.heap.size<w1.heap.size:=by omega
 have c1:=(x.cell (p:=⟨w.heap.size,1,none⟩) R).trans c1;have c2:=(x.cell (p:=⟨w.heap.size,2,none⟩) R).trans c2;have T:=(x.cell (p:=⟨w.heap.size,3,none⟩) R).trans T;have N:Below w.heap.size w w5:=cd.out.drew.trans (x.mono (show w.heap.size<=w1.heap.size by omega));have ds:w.heap.size<w5.heap.size:=by omega
 obtain⟨ss,a0,a5,t⟩:=h3;generalize f 3=v3 at*;generalize f 9=f9,f 10=dp,f 11=c5,f 15=c9,f 16=ct,f 17=c4,f 18=dg at*;have av:∀(n:Nat) (v:Uc) (W:Ub),n<=5->mg (w.heap.size+1) n 21 v W->Calls prog 130 #[v,.string ⟨#[32]⟩] W fun e w'=>(∃s:ByteArray,e=.returned (.string s)/\s.size<=110)/\Below W.heap.size W w':=by
  intro n v W hn h;refine(LM h (by omega) (by omega) 32).mono ?_;rintro e w' ⟨⟨s,rfl,hs⟩,hB⟩;exact⟨⟨s,rfl,ax hs (Qa hn (ae 22))⟩,hB⟩
 obtain⟨bf,u,a7⟩:=aC a5 N av;clear a5 N av;clear r h7 h8 h9 bO cc a9 an ap bq br b3 b4 x hz bi a3 h1 h2 h3 h4;by_cases h6:k=6
 ·subst h6;go_wp2_with fail;refine(b8.out _ (HT.out.below u.out (ae _))).mono ?_;rintro e w6 ⟨⟨s6,rfl,ar⟩,G⟩;have z:=pG t G;have c7:=G.size;have T:=(G.cell (p:=⟨w.heap.size,3,none⟩) (by simp only;omega)).trans T;have M:=u.out.trans (G.mono (by omega));obtain⟨bR,a6⟩:=aA ar M;clear ar M;clear t G;go_wp2_with (at_builtin;refine fo rfl (.tmp 22) (.tmp 26) 196 rfl (w.heap.size+1) 9 i0 _ 1 16 underlying196 Z S ag V rfl (by omega) _ _ 2 _ rfl z _ 2 2 rfl _ rfl rfl (by simp[Value.oneCell']) (by simp only[maxLen];omega) (by omega) (by omega) ?_;intro v1 w7 F ai dl;have T:=(ai.cell (p:=⟨w.heap.size,3,none⟩) (by simp only;omega)).trans T);have H:=a6.out.trans (ai.mono (by omega));refine(bk.out _ (HT.out.below H (ae _))).mono ?_;rintro e w8 ⟨⟨s8,rfl,D⟩,i⟩;have d:=pG F i;have bA:=i.size;have o:=H.trans (i.mono (by omega));obtain⟨ad,A⟩:=aA D o;clear D o;clear F i z H ai;go_wp2_with (at_builtin;refine fo rfl (.tmp 28) (.tmp 32) 196 rfl (w.heap.size+1) 9 i0 _ 1 16 underlying196 Z S ag V rfl (by omega) _ _ (2+2) _ rfl d _ 1 1 rfl _ rfl rfl (by simp[Value.oneCell']) (by simp only[maxLen];omega) (by omega) (by omega) ?_;intro v2 w9 b J cb);have C:mg (w.heap.size+1) 5 21 v2 w9:=⟨ss++[s6,⟨#[61,61]⟩]++[s8],by simp[a0],by
   intro s hs;simp only[bT,aP,bQ,eW]at hs;rcases hs with(hs|rfl|rfl)|rfl
   ·exact bf.out s hs
   ·have:=bR.out;omega
   ·decide
   have:=ad.out;omega,by simpa using b⟩
  have m:=A.out.trans (J.mono (by omega));clear d b;refine(a7.out 5 _ _ (by omega) C).mono ?_;rintro e b6 ⟨⟨O,rfl,y⟩,l⟩;have q:=m.trans (l.mono m.size);clear C J l;go_wp2_with fail;go_ret;exact⟨⟨O,rfl,y⟩,q⟩
 have g6:((k:Int)+1==7)=false:=by simp;omega
 go_wp2_with fail;refine(bk.out _ (HT.out.below u.out (ae _))).mono ?_
 rintro e w8 ⟨⟨s8,rfl,D⟩,i⟩;have d:=pG t i;have bA:=i.size;have o:=u.out.trans (i.mono (by omega));obtain⟨ad,A⟩:=aA D o;clear D o;clear t i;go_wp2_with (at_builtin;refine fo rfl (.tmp 28) (.tmp 32) 196 rfl (w.heap.size+1) 9 i0 _ 1 16 underlying196 Z S ag V rfl (by omega) _ _ 2 _ rfl d _ 1 1 rfl _ rfl rfl (by simp[Value.oneCell']) (by simp only[maxLen];omega) (by omega) (by omega) ?_;intro v2 w9 b J cb);have C:mg (w.heap.size+1) 3 21 v2 w9:=⟨ss++[s8],by simp[a0],by
  intro s hs;simp only[bT,aP,bQ,eW]at hs;rcases hs with hs|rfl
  ·exact bf.out s hs
  have:=ad.out;omega,by simpa using b⟩
 have m:=A.out.trans (J.mono (by omega));clear d b;refine(a7.out 3 _ _ (by omega) C).mono ?_;rintro e b6 ⟨⟨O,rfl,y⟩,l⟩;have q:=m.trans (l.mono m.size);clear C J l;go_wp2_with fail;go_ret;exact⟨⟨O,rfl,y⟩,q⟩
end
section
open Go.RowKit
def iD(l:List Nat):List Nd:=if l=[]then[⟨true,0,-1,0,0⟩]else dD (l.length+1) l 0 []
theorem NM(W:Ub)(l:List Uc)(e:TypeId)(size n:Nat)(a:l.length=n*size):fB (W.alloc (Ua l.toArray e)) e size (some ⟨W.heap.size,0,none⟩) n l:=
 ⟨a,fun _=>⟨W.heap.size,0,l.toArray,(0,0),rfl,cq W _,fun j v hv=>by simpa using hv⟩⟩
def K4(l:List Nat)(w:Ub)(e:Ending)(w':Ub):Prop:=(∃a b,e=.returned (T4 #[T0 a (iD l).length b,TY T6 0])/\fB w' 295 5 a (iD l).length (jP (iD l)))/\Below w.heap.size w w'
theorem K5(W w:Ub)(a:Below w.heap.size w W):(∃b c,Ending.returned (T4 #[T0 (some ⟨W.heap.size,0,none⟩) 1 1,TY T6 0])=.returned (T4 #[T0 b (iD []).length c,TY T6 0])/\fB (W.alloc (Ua #[T2 true,TY T7 0,TY T6 (-1),TY T6 0,TY T6 0] 295)) 295 5 b (iD []).length (jP (iD [])))/\Below w.heap.size w (W.alloc (Ua #[T2 true,TY T7 0,TY T6 (-1),TY T6 0,TY T6 0] 295)):=
 ⟨⟨_,1,rfl,NM W [T2 true,TY T7 0,TY T6 (-1),TY T6 0,TY T6 0] 295 5 1 rfl⟩,a.alloc a.size _⟩
theorem Aa(l:List Nat)(n:Nat)(hl:l.length=n)(hn:n<=4096)(ag:∀i,i+1<n->l.getD i 0<l.getD (i+1) 0)(A:Option Addr)(c:Nat)(bS:n<=c)(hc:c<=9223372036854775807)(w:Ub)(hr:bh w w.heap.size 1 A n (mI l)):
  Calls prog 171 #[T0 A n c] w (K4 l w):=by
 have a6:=BC;obtain⟨HL,ar,HR⟩:=aC hl ag hr;clear hl ag hr;go_enter func171,ntmps171;go_wp2_with fail;go_loopw [4] (fun i wr=>∃k:Nat,1<=k/\(k<=n\/k=1)/\i=TY T6 k/\Below w.heap.size w wr) (fun i _=>n - (intOf i).toNat)
 case atStart=>exact⟨1,by omega,.inr rfl,rfl,aw _ _⟩
 case round=>
  obtain⟨k,a1,hk,rfl,q⟩:=hrel;by_cases F:k<n
  ·have bv:(k:Int)<(n:Int):=by omega
   obtain⟨b,o,rfl,ap,d⟩:=(HR.out.below q).Tr (by omega);obtain⟨j,rfl⟩:∃j,k=j+1:=⟨k - 1,by omega⟩;have hu:=ar.out j F;have cx:wr.drew.cell? ⟨b,o+(j+1),none⟩=some (TY T7 (l.getD (j+1) 0:Nat)):=d (j+1) F;have cy:wr.drew.cell? ⟨b,o+j,none⟩=some (TY T7 (l.getD j 0:Nat)):=d j (by omega);generalize l.getD (j+1) 0=x at*;generalize l.getD j 0=y at*;have bR:¬(x:Int)<=(y:Int):=by omega
   have bA:((j+1:Nat):Int) - 1=(j:Int):=by omega
   have bs:(j:Int)<(n:Int):=by omega
   generalize G:j+1=k at*;have bO:IntKind.i64.wrap (j:Int)=(j:Int):=IntWalk.i64_in _ (by omega);obtain⟨HB,b6⟩:=aA q G;clear q G;clear d hu a1 hk;go_wp2_with fail;refine Any.wp_region_kinds eL (nQ [(14,.eq (T0 (some ⟨b,o,none⟩) n c)),(15,.eq (TY T6 k)),(16,.eq (TZ (some ⟨b,o+k,none⟩))),(17,.eq (TY T7 x)),(18,.eq (T0 (some ⟨b,o,none⟩) n c)),(19,.eq (TY T6 k)),(20,.eq (TY T6 j)),(21,.eq (TZ (some ⟨b,o+j,none⟩))),(22,.eq (TY T7 y)),(23,.eq (T2 false))]) [14,15,16,17,18,19,20,21,22,23] (by kernel_rfl) (by kernel_rfl) (by kernel_rfl) ⟨?_,?_,?_,?_,?_,?_,?_,?_,?_,?_,trivial⟩ ?_
   ·exact Any.st_was 14 0 (.plain rfl) (by first|exact .inl rfl|exact .inr rfl) rfl (by decide) (rfl)
   ·exact Any.st_was 15 4 (.plain rfl) (by first|exact .inl rfl|exact .inr rfl) rfl (by decide) (rfl)
   ·exact Any.sx_two 16 14 15 _ _ _ (.plain rfl) rfl (by decide) (by decide) rfl rfl (fun a w h1 S=>by unfold execOp;simp only[h1,S];first|(simp[go_sem];done)|(simp[go_sem];omega)|(simp[go_sem, *];done)) rfl
   ·exact Any.sx_load_at 17 16 _ _ _ (.plain rfl) rfl rfl (by decide) rfl (by assumption) (fun w h=>by simp[go_sem,h]) rfl
   ·exact Any.st_was 18 0 (.plain rfl) (by first|exact .inl rfl|exact .inr rfl) rfl (by decide) (rfl)
   ·exact Any.st_was 19 4 (.plain rfl) (by first|exact .inl rfl|exact .inr rfl) rfl (by decide) (rfl)
   ·exact Any.sx_one 20 19 _ _ (.plain rfl) rfl (by decide) rfl (fun a w h=>by unfold execOp;simp only[h];first|(simp[go_sem];done)|(simp[go_sem];omega)|(simp[go_sem, *];done)) rfl
   ·exact Any.sx_two 21 18 20 _ _ _ (.plain rfl) rfl (by decide) (by decide) rfl rfl (fun a w h1 S=>by unfold execOp;simp only[h1,S];first|(simp[go_sem];done)|(simp[go_sem];omega)|(simp[go_sem, *];done)) rfl
   ·exact Any.sx_load_at 22 21 _ _ _ (.plain rfl) rfl rfl (by decide) rfl (by assumption) (fun w h=>by simp[go_sem,h]) rfl
   ·exact Any.sx_two 23 17 22 _ _ _ (.plain rfl) rfl (by decide) (by decide) rfl rfl (fun a w h1 S=>by unfold execOp;simp only[h1,S];first|(simp[go_sem];done)|(simp[go_sem];omega)|(simp[go_sem, *];done)) rfl
   intro f w5 ak p;have B:f 14=T0 (some ⟨b,o,none⟩) n c:=p 14 rfl;have C:f 15=TY T6 k:=p 15 rfl;have D:f 16=TZ (some ⟨b,o+k,none⟩):=p 16 rfl;have U:f 17=TY T7 x:=p 17 rfl;have Z:f 18=T0 (some ⟨b,o,none⟩) n c:=p 18 rfl;have R:f 19=TY T6 k:=p 19 rfl;have L:f 20=TY T6 j:=p 20 rfl;have W:f 21=TZ (some ⟨b,o+j,none⟩):=p 21 rfl;have ad:f 22=TY T7 y:=p 22 rfl;have ab:f 23=T2 false:=p 23 rfl;simp only[Any.fill,bC,bL,aq,aI,aH,bg,bZ,B,C,D,U,Z,R,L,W,ad,ab];have V:Below w.heap.size w w5:=HB.out.drew.trans (ak.mono HB.out.size);clear p ak B C D U Z R L W ad ab cx cy;have a2:=Lib.hid V;clear V;go_wp2_with fail;go_roundw;case rel=>exact⟨k+1,by omega,by omega,by go_num,a2.out⟩
   case measure=>simp[intOf];omega
  by_cases h0:n=0
  ·subst h0;have he:l=[]:=cI HL.out;subst he;have s:=K5 wr w q;have X:=Lib.hid s;clear s;clear q;go_wp2_with fail;go_ret2;exact X.out
  have am:k=n:=by omega
  subst am;have v:=HR.out.below q;obtain⟨b,o,rfl,ap,d⟩:=v.Tr (by omega);have z:l≠[]:=fun e=>by have:=HL.out;rw[e]at this;simp at this;omega
  have E:iD l=dD (k+1) l 0 []:=by unfold iD;rw[af z,HL.out]
  have m:∀o1 o2 o3,Below wr.heap.size wr (((wr.alloc o1).alloc o2).alloc o3):=fun o1 o2 o3=>(((aw _ _).alloc (ae _) _).alloc (by simp) _).alloc (by simp;omega) _
  let r:Ub:=((wr.alloc (Ua #[T0 none 0 0] 291)).alloc (Ua #[QC wr.heap.size] 356)).alloc (Ua #[NN (wr.heap.size+1) (wr.heap.size+1+1)] 357);have b0:bK r wr.heap.size 291 #[T0 none 0 0]:=((bK.new wr _ _).alloc _).alloc _;have b1:bK r (wr.heap.size+1) 356 #[QC wr.heap.size]:=bK.alloc (g:=wr.heap.size+1) (dP wr _ _ _) _;have b2:bK r (wr.heap.size+1+1) 357 #[NN (wr.heap.size+1) (wr.heap.size+1+1)]:=rI wr _ _ _ _;have hT:G8 r wr.heap.size wr.heap.size []:=⟨⟨_,b0,aX _ _ _ _⟩,ae _⟩;have t:=mR (k+1) l 0 [] z;have H:=um wr.heap.size wr.heap.size (wr.heap.size+1) (wr.heap.size+1+1) (by omega) (by omega) (k+1) l 0 [] b o c k r HL.out (by omega) (by omega) (by omega) hc (by omega) (by simp;omega) ((v.more q.size).below (m _ _ _)) hT b1 b2;rw[<-E]at H;have Y:Below w.heap.size w r:=q.trans ((m _ _ _).mono q.size);replace H:Calls prog 245 #[T0 (some ⟨b,o,none⟩) k c,TY T6 0,TZ (some ⟨wr.heap.size+1,0,none⟩),TZ (some ⟨wr.heap.size+1+1,0,none⟩)] r (uk wr.heap.size wr.heap.size (iD l) (TY T6 ((iD l).length - 1:Nat)) r):=H;have a0:=q.size;clear m b0 b1 b2 hT v t E d q;obtain⟨aE,HG⟩:=aA Y H;clear Y H;go_wp2_with fail;refine HG.out.mono ?_;rintro e w6 ⟨rfl,M,T⟩;obtain⟨v6,u,O⟩:=M.at_;obtain⟨A6,c6,rfl,J⟩:=fB.Sp O;have k6:w6.cell? ⟨wr.heap.size,0,none⟩=some (T0 A6 (iD l).length c6):=u.cell 0;have N:=aE.out.trans (T.below.mono a0);have b3:=u.lt;generalize hV:(iD l).length=tl at*;obtain⟨an,av,HV⟩:=aC J N hV;clear J N hV;clear M T u O HG;go_wp2_with fail;go_ret2;exact⟨⟨A6,c6,by rw[HV.out];rfl,by rw[HV.out];exact an.out⟩,av.out⟩
end
end Go.Proofs.YtfammloeljmplaaGreatDoor
