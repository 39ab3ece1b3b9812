/- Contracts of the maker's walk; conditions: each lemma's own. -/
import Derived.Test.YtfammloeljmplaaGreatDoorZ34
import Derived.Test.YtfammloeljmplaaGreatDoorZ40
open Go.Value renaming int->TY,pointer->TZ,slice->T0,agg->T1,bool->T2,tuple->T4
open Go.IntKind renaming i64->T6,u32->T7,u16->T9
open Go.Obj renaming cells->Ua
open Go renaming World->Ub,Value->Uc
namespace Go.Proofs.YtfammloeljmplaaGreatDoor
open Go.Proofs.Tryz
set_option maxRecDepth 100000
set_option maxHeartbeats 8000000
set_option linter.unusedVariables false
set_option linter.unusedSimpArgs false
section
open Go.RowKit
theorem yI{α:Type}[Inhabited α]{w:Ub}{B n size:Nat}{A:Option Addr}{f:α->List Uc}(p:0<size)(d:∀x,(f x).length=size){l:List α}(h:bh w B size A n (l.flatMap f))(y:l.length=n)(q:0<n):
  ∃b a,A=some ⟨b,a,none⟩/\b<B/\∀k,k<n->∀j u,(f (l.getD k default))[j]? =some u->w.cell? ⟨b,a+k*size+j,none⟩=some u:=by
 obtain⟨v,rfl,t,r⟩:=h.2 q;have i:=fun k (m:k<n) j (g:j<size)=>jL f size d default l k j (by omega) g
 obtain⟨b,a,spot⟩:=v;have c:0<(f (l.getD 0 default)).length:=by rw[d];exact p
 have s:=r (0*size+0) _ ((i 0 q 0 p).trans (ah c));have e:spot=none:=by simpa[Addr.add]using fL s
 subst e;refine⟨b,a,rfl,t,fun k m j u o=>?_⟩;have g:j<size:=by rw[<-d (l.getD k default)];exact(cF.1 o).1
 have:=r (k*size+j) u ((i k m j g).trans o);rwa [iq,<-eF]at this
def BB(d b e a c:Nat):Uc:=.func (.func 172) #[] #[TZ (some ⟨d,0,none⟩),TZ (some ⟨b,0,none⟩),TZ (some ⟨e,0,none⟩),TZ (some ⟨a,0,none⟩),TZ (some ⟨c,0,none⟩)]
theorem EH(args:Array Uc)(w:Ub):(callFunc 172 args).run prog w=.ok (.enter 172 args) w:=iK func172 (by kernel_rfl) rfl args w
structure EI(w:Ub)(gm r o:Nat)(t:List Nd)(M:List Nat)(At:Option Addr)(ct:Nat)(Am:Option Addr)(cm g1 g2 g3 g4 g5:Nat):Prop where
 b1:bK w g1 291 #[T0 At t.length ct]
 rt:fB w 295 5 At t.length (jP t)
 b2:bK w g2 122 #[TZ (some ⟨gm,0,none⟩)]
 b3:bK w g3 3 #[TY T6 o]
 b4:bK w g4 86 #[T0 Am M.length cm]
 rm:fB w 3 1 Am M.length (sV M)
 b5:bK w g5 141 #[BB g1 g2 g3 g4 g5]
 ne:(g1≠gm/\g2≠gm/\g3≠gm/\g4≠gm/\g5≠gm)/\g1≠r/\g2≠r/\g3≠r/\g4≠r/\g5≠r
theorem EI.fr{w w':Ub}{B gm r o:Nat}{s:Mk}{t:List Nd}{M:List Nat}{e:Option Addr}{k:Nat}{j:Option Addr}{c f b l d i:Nat}(h:EI w gm r o t M e k j c f b l d i)(g:iz w B gm r s)(a:Fr B gm r w w'):EI w' gm r o t M e k j c f b l d i where
 b1:=a.blk h.b1 (by decide) h.ne.1.1 h.ne.2.1
 rt:=h.rt.keep (a.Su g (by decide) (by decide))
 b2:=a.blk h.b2 (by decide) h.ne.1.2.1 h.ne.2.2.1
 b3:=a.blk h.b3 (by decide) h.ne.1.2.2.1 h.ne.2.2.2.1
 b4:=a.blk h.b4 (by decide) h.ne.1.2.2.2.1 h.ne.2.2.2.2.1
 rm:=h.rm.keep (a.Su g (by decide) (by decide))
 b5:=a.blk h.b5 (by decide) h.ne.1.2.2.2.2 h.ne.2.2.2.2.2
 ne:=h.ne
theorem EI.node{w:Ub}{gm r o:Nat}{t:List Nd}{M:List Nat}{c:Option Addr}{u:Nat}{s:Option Addr}{g l e v k q:Nat}(h:EI w gm r o t M c u s g l e v k q){p:Nat}(j:p<t.length){x:Nd}(n:t.getD p default=x):
  ∃b a,c=some ⟨b,a,none⟩/\b<w.heap.size/\w.cell? ⟨b,a+p*5,none⟩=some (T2 x.leaf)/\w.cell? ⟨b,a+p*5+1,none⟩=some (TY T7 x.num)/\w.cell? ⟨b,a+p*5+2,none⟩=some (TY T6 x.place)/\
   w.cell? ⟨b,a+p*5+3,none⟩=some (TY T6 x.lo)/\w.cell? ⟨b,a+p*5+4,none⟩=some (TY T6 x.hi):=by
 obtain⟨b,a,i,d,m⟩:=yI (f:=Nd.vals) (by omega) Nd.Sn h.rt.reads rfl (by omega);have key:=m p j;rw[n]at key;exact⟨b,a,i,d,key 0 _ rfl,key 1 _ rfl,key 2 _ rfl,key 3 _ rfl,key 4 _ rfl⟩
theorem EJ{o f:Nat}{L:List (Nat×Nat)}{s:Mk}(h:2<=L.length):cW o (f+1) L s=cW o f (L.drop (L.length / 2)) ((cW o f (L.take (L.length / 2)) (s.mark.put [bc 53 (L.getD (L.length / 2) default).1 (s.marks+1) 0])).put [du (s.marks+1)]):=by
 match L,h with
 |x::y::t,_=>rfl
theorem Hg{t:List Nd}{f:Nat}{l:List Nat}{a p:Nat}(h:2<=l.length):lH t (f+1) l a p=(p<t.length/\∃b c,t.getD p default=⟨false,l.getD (l.length / 2) 0,0,b,c⟩/\lH t f (l.take (l.length / 2)) a b/\lH t f (l.drop (l.length / 2)) (a+l.length / 2) c):=by
 match l,h with
 |x::y::z,_=>rfl
theorem EK(B gm r o:Nat)(t:List Nd)(M:List Nat)(L:Option Addr)(E:Nat)(R:Option Addr)(H u k y z D p:Nat)(J:p<t.length)(G:t.length<=1000000)(A:t.getD p default=⟨true,0,-1,0,0⟩)(s:Mk)(N:(s.put [bc 5 0 o 0]).mu<=1000000)(w:Ub)(h:EI w gm r o t M L E R H u k y z D)(C:iz w B gm r s):
  Calls prog 172 #[TY T6 p,TZ (some ⟨u,0,none⟩),TZ (some ⟨k,0,none⟩),TZ (some ⟨y,0,none⟩),TZ (some ⟨z,0,none⟩),TZ (some ⟨D,0,none⟩)] w (dZ B gm r (s.put [bc 5 0 o 0]) (T4 #[]) w):=by
 obtain⟨b,d,rfl,T,F,l,S,m,v⟩:=h.node J A;simp only at F l S m v;obtain⟨g,i⟩:=ka C (Ua #[T2 true,TY T7 0,TY T6 (-1),TY T6 0,TY T6 0] 295);have a:=fV (B:=B) (gm:=gm) (r:=r) (s:=s) [bc 5 0 o 0] 1 rfl #[TY T6 0,TY T9 5,TY T7 0,TY T6 o,TY T6 0] (by simp[dq,It.vals,bc]) _ g N;simp only[cE]at a;have V:w.cell? ⟨u,0,none⟩=some (T0 (some ⟨b,d,none⟩) t.length E):=h.b1.cell 0;have X:w.cell? ⟨k,0,none⟩=some (TZ (some ⟨gm,0,none⟩)):=h.b2.cell 0;have Y:w.cell? ⟨y,0,none⟩=some (TY T6 o):=h.b3.cell 0;have Z:=h.b1.lt;have l2:=h.b2.lt;have W:=h.b3.lt;have l:w.cell? ⟨b,d+p*5+1,none⟩=some (TY T7 0):=l;have m:w.cell? ⟨b,d+p*5+3,none⟩=some (TY T6 0):=m;have v:w.cell? ⟨b,d+p*5+4,none⟩=some (TY T6 0):=v;generalize t.length=n at*;have O:(p:Int)<(n:Int):=by omega
 have j:=Lib.hid i;clear i;clear h C g A;go_enter func172,ntmps172;go_wp2_with fail;refine a.mono ?_;rintro e U ⟨rfl,f,c⟩;have c:=j.out.trans c;obtain⟨q,x⟩:=aA f c;clear f c;clear a;go_wp2_with fail;go_end0;exact⟨rfl,q.out,x.out⟩
theorem yJ(B gm r o:Nat)(t:List Nd)(M:List Nat)(At:Option Addr)(ct:Nat)(Am:Option Addr)(cm g1 g2 g3 g4 g5:Nat)(ek:t.length<=1000000)(b3:M.length<=1000000):∀(f:Nat) (L:List (Nat×Nat)) (d p:Nat) (s:Mk) (w:Ub),
  lH t f (L.map (·.1)) d p->(∀i,i<L.length->M.getD (d+i) 0=(L.getD i default).2)->d+L.length<=M.length->(cW o f L s).mu<=1000000->EI w gm r o t M At ct Am cm g1 g2 g3 g4 g5->iz w B gm r s->
  Calls prog 172 #[TY T6 p,TZ (some ⟨g1,0,none⟩),TZ (some ⟨g2,0,none⟩),TZ (some ⟨g3,0,none⟩),TZ (some ⟨g4,0,none⟩),TZ (some ⟨g5,0,none⟩)] w (dZ B gm r (cW o f L s) (T4 #[]) w)
 |0,L,d,p,s,w,hT,_,_,_,_,_=>hT.elim
 |f+1,[],d,p,s,w,hT,_,_,_,_,_=>hT.elim
 |f+1,[x],d,p,s,w,hT,hM,co,hs,h,hm=>by
  obtain⟨hp,hx⟩:p<t.length/\t.getD p default=mw x.1 d:=hT;have Z:=hM 0 (by simp);have Z:M.getD d 0=x.2:=Z;obtain⟨b,q,rfl,hb,q0,q1,q2,q3,q4⟩:=h.node hp hx;obtain⟨g,v⟩:=x;simp only[mw]at q0 q1 q2 q3 q4;have bS:d<M.length:=by simp at co;omega
  obtain⟨bm,om,rfl,ej,cb⟩:=h.rm.reads.TH (by omega);have km:=cb d bS;rw[Z]at km;simp only at km;obtain⟨C,z⟩:=ka hm (Ua #[T2 true,TY T7 g,TY T6 d,TY T6 0,TY T6 0] 295);have bA:=bK.new w 295 #[T2 true,TY T7 g,TY T6 d,TY T6 0,TY T6 0];have Y:=h.fr hm z;have cf:Below w.heap.size w (w.alloc (Ua #[T2 true,TY T7 g,TY T6 d,TY T6 0,TY T6 0] 295)):=(aw _ _).alloc (ae _) _;have d0:=(cf.cell (p:=⟨bm,om+d,none⟩) ej).trans km;have bp:cW o (f+1) [(g,v)] s=s.put [bc 21 g v o]:=rfl;rw[bp]at hs⊢;have l:=fun W (hW:iz W B gm r s) A c hr=>uU B gm r s [bc 21 g v o] hs A 1 c rfl W hW hr
  have de:dq [bc 21 g v o]=[TY T6 0,TY T9 21,TY T7 g,TY T6 v,TY T6 o]:=by simp[dq,It.vals,bc]
  rw[de]at l;have c1:w.cell? ⟨g1,0,none⟩=some (T0 (some ⟨b,q,none⟩) t.length ct):=h.b1.cell 0;have l1:=h.b1.lt;have q3:w.cell? ⟨b,q+p*5+3,none⟩=some (TY T6 0):=q3;have q4:w.cell? ⟨b,q+p*5+4,none⟩=some (TY T6 0):=q4;generalize t.length=n at*;have eo:(p:Int)<(n:Int):=by omega
  have fa:(d:Int)<(M.length:Int):=by omega
  have dp:(w.alloc (Ua #[T2 true,TY T7 g,TY T6 d,TY T6 0,TY T6 0] 295)).heap.size=w.heap.size+1:=by simp
  have c2:(w.alloc (Ua #[T2 true,TY T7 g,TY T6 d,TY T6 0,TY T6 0] 295)).drew.cell? ⟨g2,0,none⟩=some (TZ (some ⟨gm,0,none⟩)):=Y.b2.cell 0;have c3:(w.alloc (Ua #[T2 true,TY T7 g,TY T6 d,TY T6 0,TY T6 0] 295)).drew.cell? ⟨g3,0,none⟩=some (TY T6 o):=Y.b3.cell 0;have c4:(w.alloc (Ua #[T2 true,TY T7 g,TY T6 d,TY T6 0,TY T6 0] 295)).drew.cell? ⟨g4,0,none⟩=some (T0 (some ⟨bm,om,none⟩) M.length cm):=Y.b4.cell 0;have e1:(w.alloc (Ua #[T2 true,TY T7 g,TY T6 d,TY T6 0,TY T6 0] 295)).drew.cell? ⟨w.heap.size,1,none⟩=some (TY T7 g):=bA.cell 1;have e2:(w.alloc (Ua #[T2 true,TY T7 g,TY T6 d,TY T6 0,TY T6 0] 295)).drew.cell? ⟨w.heap.size,2,none⟩=some (TY T6 d):=bA.cell 2;have fu:(w.alloc (Ua #[T2 true,TY T7 g,TY T6 d,TY T6 0,TY T6 0] 295)).drew.cell? ⟨bm,om+d,none⟩=some (TY T6 v):=d0;generalize b2:M.length=ml at*;have e7:ml<=1000000:=b3;obtain⟨a7,E,O,fi⟩:=aB z C l b2;clear z C l b2;clear h hm Y hx hM Z cb cf bp de bA;go_enter func172,ntmps172;go_wp2_with fail;generalize (w.alloc (Ua _ 295))=W1 at*;refine Any.wp_region_tailD 11 eL (nQ [(49,.eq (TZ (some ⟨gm,0,none⟩))),(50,.eq (TZ (some ⟨w.heap.size,1,none⟩))),(51,.eq (TY T7 g)),(52,.eq (T0 (some ⟨bm,om,none⟩) ml cm)),(53,.eq (TZ (some ⟨w.heap.size,2,none⟩))),(54,.eq (TY T6 d)),(55,.eq (TZ (some ⟨bm,om+d,none⟩))),(56,.eq (TY T6 v)),(57,.eq (TY T6 o)),(58,.eq (T1 #[TY T6 0,TY T9 21,TY T7 g,TY T6 v,TY T6 o])),(59,.row 5 1 [TY T6 0,TY T9 21,TY T7 g,TY T6 v,TY T6 o])]) (fun _ _=>True) trivial [49,50,51,52,53,54,55,56,57,58,59,60] [49,50,51,52,53,54,55,56,57,58,59] (by kernel_rfl) (by kernel_rfl) (by kernel_rfl) (by kernel_rfl) (by kernel_rfl) (by decide) ⟨?_,?_,?_,?_,?_,?_,?_,?_,?_,?_,?_,trivial⟩ ?_
  ·refine Any.st_j ?_;exact Any.st_load_was 49 2 _ _ _ (.plain rfl) rfl rfl (by decide) rfl (by first|assumption|exact rfl) (fun w h=>by simp[go_sem,h]) rfl
  ·refine Any.st_j ?_;exact Any.st_old1 50 7 _ _ (.plain rfl) rfl (by decide) rfl (fun a w h=>by unfold execOp;simp only[h];first|(simp[go_sem];done)|(simp[go_sem];omega)|(simp[go_sem, *];done)) (fun _ _=>rfl)
  ·refine Any.st_j ?_;exact Any.sx_load_at 51 50 _ _ _ (.plain rfl) rfl rfl (by decide) rfl (by assumption) (fun w h=>by simp[go_sem,h]) rfl
  ·refine Any.st_j ?_;exact Any.st_load_was 52 4 _ _ _ (.plain rfl) rfl rfl (by decide) rfl (by first|assumption|exact rfl) (fun w h=>by simp[go_sem,h]) rfl
  ·refine Any.st_j ?_;exact Any.st_old1 53 7 _ _ (.plain rfl) rfl (by decide) rfl (fun a w h=>by unfold execOp;simp only[h];first|(simp[go_sem];done)|(simp[go_sem];omega)|(simp[go_sem, *];done)) (fun _ _=>rfl)
  ·refine Any.st_j ?_;exact Any.sx_load_at 54 53 _ _ _ (.plain rfl) rfl rfl (by decide) rfl (by assumption) (fun w h=>by simp[go_sem,h]) rfl
  ·refine Any.st_j ?_;exact Any.sx_two 55 52 54 _ _ _ (.plain rfl) rfl (by decide) (by decide) rfl rfl (fun a w h1 h2=>by unfold execOp;simp only[h1,h2];first|(simp[go_sem];done)|(simp[go_sem];omega)|(simp[go_sem, *];done)) rfl
  ·refine Any.st_j ?_;exact Any.sx_load_at 56 55 _ _ _ (.plain rfl) rfl rfl (by decide) rfl (by assumption) (fun w h=>by simp[go_sem,h]) rfl
  ·refine Any.st_j ?_;exact Any.st_load_was 57 3 _ _ _ (.plain rfl) rfl rfl (by decide) rfl (by first|assumption|exact rfl) (fun w h=>by simp[go_sem,h]) rfl
  ·refine Any.st_j ?_;exact Any.st_built 58 _ _ #[(1,TY T9 21),(2,TY T7 g),(3,TY T6 v),(4,TY T6 o)] (#[TY T6 0,TY T9 21,TY T7 g,TY T6 v,TY T6 o]) (.plain rfl) rfl rfl (fun a w h=>by have d4:a.eval (.tmp 51)=_:=h.eqv 51 (by decide) rfl;have ef:a.eval (.tmp 56)=_:=h.eqv 56 (by decide) rfl;have ec:a.eval (.tmp 57)=_:=h.eqv 57 (by decide) rfl;simp only[aQ,aJ,a8,d4,ef,ec]<;>rfl) (fun w=>by kernel_rfl) rfl
  ·refine Any.st_j ?_;exact Any.st_builtSlice 59 _ 129 1 5 _ #[(0,T1 #[TY T6 0,TY T9 21,TY T7 g,TY T6 v,TY T6 o])] [TY T6 0,TY T9 21,TY T7 g,TY T6 v,TY T6 o] (.plain rfl) rfl rfl (fun a w h=>by have e1:a.eval (.tmp 58)=_:=h.eqv 58 (by decide) rfl;simp only[aQ,aJ,a8,e1]<;>rfl) (fun w=>by kernel_rfl) rfl rfl
  intro f w5 dg J;have ch:f 49=TZ (some ⟨gm,0,none⟩):=J 49 rfl;have c8:f 50=TZ (some ⟨w.heap.size,1,none⟩):=J 50 rfl;have bx:f 51=TY T7 g:=J 51 rfl;have ck:f 52=T0 (some ⟨bm,om,none⟩) ml cm:=J 52 rfl;have cx:f 53=TZ (some ⟨w.heap.size,2,none⟩):=J 53 rfl;have bO:f 54=TY T6 d:=J 54 rfl;have b1:f 55=TZ (some ⟨bm,om+d,none⟩):=J 55 rfl;have bv:f 56=TY T6 v:=J 56 rfl;have bW:f 57=TY T6 o:=J 57 rfl;have b9:f 58=T1 #[TY T6 0,TY T9 21,TY T7 g,TY T6 v,TY T6 o]:=J 58 rfl;have ed:=J 59 rfl;simp only[Any.fill,bC,bL,aq,aI,aH,bg,bZ,ch,c8,bx,ck,cx,bO,b1,bv,bW,b9];obtain⟨A5,c5,cp,ca⟩:=ed;rw[cp];have a3:Below W1.heap.size W1 w5:=(aw W1.heap.size W1).drew.trans dg;have D:=E.out.grows a3;have m:=a7.out.trans (Fr.grows (B:=B) (gm:=gm) (r:=r) a3 (ax E.out.gm (dS E.out.lt.1)));have S:=O.out w5 D A5 c5 ca;clear J dg ch c8 bx ck cx bO b1 bv bW b9 a3 D ca cp;have a4:=Lib.hid m;clear m;go_wp2_with fail;refine S.mono ?_;rintro e w6 ⟨rfl,G,j⟩;have j:=a4.out.trans j;obtain⟨ag,a5⟩:=aA G j;clear G j;clear S;go_wp2_with fail;go_end0;exact⟨rfl,ag.out,a5.out⟩
 |f+1,x::y::L,d,p,s,w,hT,hM,co,hs,h,hm=>by
  have ih:=yJ B gm r o t M At ct Am cm g1 g2 g3 g4 g5 ek b3 f;generalize cn:x::y::L=K at*;have h2:2<=K.length:=by rw[<-cn];simp
  have cg:2<=(K.map (·.1)).length:=by rw[bu];exact h2
  rw[Hg cg,bu]at hT;rw[EJ h2]at hs⊢;obtain⟨hp,lo,T,hx,V,ab⟩:=hT;obtain⟨k,c9⟩:∃k,K.length / 2=k:=⟨_,rfl⟩;have am:(K.map (·.1)).getD (K.length / 2) 0=(K.getD (K.length / 2) default).1:=by
   rw[aa,cO,aa,ah (show K.length / 2<K.length by omega)];rfl
  rw[am]at hx;rw[c9]at hx V ab hs⊢;rw[<-Du]at V;rw[<-List.map_drop]at ab;have bq:∀i,i<(K.take k).length->M.getD (d+i) 0=((K.take k).getD i default).2:=fun i T=>by
   rw[bJ]at T;rw[hM i (by omega),aa,aa,jC (by omega)]
  have c0:∀i,i<(K.drop k).length->M.getD (d+k+i) 0=((K.drop k).getD i default).2:=fun i T=>by
   rw[dt]at T;rw[eF,hM (k+i) (by omega),aa,aa,r8]
  obtain⟨b,q,rfl,hb,q0,q1,q2,q3,q4⟩:=h.node hp hx;simp only at q0 q1 q2 q3 q4;generalize (K.getD k default).1=u at*;have e4:fY ((cW o f (K.take k) (s.mark.put [bc 53 u (s.marks+1) 0])).put [du (s.marks+1)]) (cW o f (K.drop k) ((cW o f (K.take k) (s.mark.put [bc 53 u (s.marks+1) 0])).put [du (s.marks+1)])):=(eK o f _ _).ext;have m4:=eP e4 hs;have m3:(cW o f (K.take k) (s.mark.put [bc 53 u (s.marks+1) 0])).mu<=1000000:=eP (fY.put _ _) m4;have m2:(s.mark.put [bc 53 u (s.marks+1) 0]).mu<=1000000:=eP (eK o f _ _).ext m3;have m1:s.mark.mu<=1000000:=eP (fY.put _ _) m2;have bR:=fun W h1 h2=>ih (K.take k) d lo (s.mark.put [bc 53 u (s.marks+1) 0]) W V bq (by rw[bJ];omega) m3 h1 h2
  have b0:=fun W h1 h2=>ih (K.drop k) (d+k) T _ W ab c0 (by rw[dt];omega) hs h1 h2
  obtain⟨C,z⟩:=ka hm (Ua #[T2 false,TY T7 u,TY T6 0,TY T6 lo,TY T6 T] 295);have bA:=bK.new w 295 #[T2 false,TY T7 u,TY T6 0,TY T6 lo,TY T6 T];have Y:=h.fr hm z;have ff:=hm.lt;have R:=ku B gm r s m1 _ C;have l:=fun W hW=>fV (B:=B) (gm:=gm) (r:=r) (s:=s.mark) [bc 53 u (s.marks+1) 0] 1 rfl #[TY T6 0,TY T9 53,TY T7 u,TY T6 (s.marks+1:Nat),TY T6 0] (by simp[dq,It.vals,bc]) W hW m2
  have N:=fun W hW=>kv B gm r (cW o f (K.take k) (s.mark.put [bc 53 u (s.marks+1) 0])) (s.marks+1) m4 W hW
  generalize (cW o f (K.drop k) ((cW o f (K.take k) (s.mark.put [bc 53 u (s.marks+1) 0])).put [du (s.marks+1)]))=S5 at*;generalize ((cW o f (K.take k) (s.mark.put [bc 53 u (s.marks+1) 0])).put [du (s.marks+1)])=S4 at*;generalize (cW o f (K.take k) (s.mark.put [bc 53 u (s.marks+1) 0]))=S3 at*;generalize (s.mark.put [bc 53 u (s.marks+1) 0])=S2 at*;generalize s.marks+1=mk at*;generalize s.mark=S1 at*;have c1:w.cell? ⟨g1,0,none⟩=some (T0 (some ⟨b,q,none⟩) t.length ct):=h.b1.cell 0;have l1:=h.b1.lt;have c2:(w.alloc (Ua #[T2 false,TY T7 u,TY T6 0,TY T6 lo,TY T6 T] 295)).cell? ⟨g2,0,none⟩=some (TZ (some ⟨gm,0,none⟩)):=Y.b2.cell 0;have fq:=EH;have q2:w.cell? ⟨b,q+p*5+2,none⟩=some (TY T6 0):=q2;generalize bo:t.length=n at*;have eo:(p:Int)<(n:Int):=by omega
  have dp:(w.alloc (Ua #[T2 false,TY T7 u,TY T6 0,TY T6 lo,TY T6 T] 295)).heap.size=w.heap.size+1:=by simp
  have e8:=Y.b2.lt;obtain⟨a7,BA,HA,O,av,d6,eq,fx,E⟩:=ay z bA Y l N bR b0 bo C;clear z bA Y l N bR b0 bo C;clear h hm hx hM bq c0 V ab e4 m4 m3 m2 m1 am c9 h2 cg cn;go_enter func172,ntmps172;go_wp2_with fail;generalize (w.alloc (Ua _ 295))=W1 at*;refine R.mono ?_;rintro e w5 ⟨rfl,D,m⟩;have a9:=HA.out.fr E.out m;have b5:=m.blk BA.out (by decide) (by omega) (by omega);have k1:w5.cell? ⟨w.heap.size,1,none⟩=some (TY T7 u):=b5.cell 1;have c2:w5.cell? ⟨g2,0,none⟩=some (TZ (some ⟨gm,0,none⟩)):=a9.b2.cell 0;have S:=O.out w5 D;have m:=a7.out.trans m;obtain⟨a4,B5,bN,bl⟩:=aB m b5 a9 D;clear m b5 a9 D;clear R HA E BA;go_wp2_with fail;refine S.mono ?_;rintro e w6 ⟨rfl,G,j⟩;have X:=bN.out.fr bl.out j;have b6:=j.blk B5.out (by decide) (by omega) (by omega);have k3:w6.cell? ⟨w.heap.size,3,none⟩=some (TY T6 lo):=b6.cell 3;have c5:w6.cell? ⟨g5,0,none⟩=some (.func (.func 172) #[] #[TZ (some ⟨g1,0,none⟩),TZ (some ⟨g2,0,none⟩),TZ (some ⟨g3,0,none⟩),TZ (some ⟨g4,0,none⟩),TZ (some ⟨g5,0,none⟩)]):=X.b5.cell 0;have cc:=d6.out w6 X G;have j:=a4.out.trans j;obtain⟨a5,B6,c7,ag⟩:=aB j b6 X G;clear j b6 X G;clear S c2 k1 bN bl B5;go_wp2_with fail;refine cc.mono ?_;rintro e w7 ⟨rfl,ap,H⟩;have a1:=c7.out.fr ag.out H;have b7:=H.blk B6.out (by decide) (by omega) (by omega);have c2:w7.cell? ⟨g2,0,none⟩=some (TZ (some ⟨gm,0,none⟩)):=a1.b2.cell 0;have b4:=av.out w7 ap;have H:=a5.out.trans H;obtain⟨d5,B7,c6,cd⟩:=aB H b7 a1 ap;clear H b7 a1 ap;clear cc c5 k3 c7 ag B6;go_wp2_with fail;refine b4.mono ?_;rintro e w8 ⟨rfl,dd,F⟩;have a2:=c6.out.fr cd.out F;have b8:=F.blk B7.out (by decide) (by omega) (by omega);have k4:w8.cell? ⟨w.heap.size,4,none⟩=some (TY T6 T):=b8.cell 4;have c5:w8.cell? ⟨g5,0,none⟩=some (.func (.func 172) #[] #[TZ (some ⟨g1,0,none⟩),TZ (some ⟨g2,0,none⟩),TZ (some ⟨g3,0,none⟩),TZ (some ⟨g4,0,none⟩),TZ (some ⟨g5,0,none⟩)]):=a2.b5.cell 0;have cl:=eq.out w8 a2 dd;have F:=d5.out.trans F;have ea:=Lib.hid F;clear F;clear b4 c2 c6 cd B7 a2 dd b8;go_wp2_with fail;refine cl.mono ?_;rintro e w9 ⟨rfl,bB,U⟩;have U:=ea.out.trans U;obtain⟨d8,en⟩:=aA U bB;clear U bB;clear cl c5 k4;go_wp2_with fail;go_end0;exact⟨rfl,en.out,d8.out⟩
end
end Go.Proofs.YtfammloeljmplaaGreatDoor
