/- Contracts of judge's decision; conditions: each lemma's own. -/
import Derived.Test.YtfammloeljmplaaGreatDoorZ15
open Go.Value renaming int->TY,slice->T0,agg->T1,bool->T2
open Go.IntKind renaming i64->T6,u32->T7,u64->T8
open Go.Obj renaming cells->Ua
open Go renaming World->Ub,Value->Uc
namespace Go.Proofs.YtfammloeljmplaaGreatDoor
open Go.Proofs.Tryz
set_option maxRecDepth 100000
set_option maxHeartbeats 8000000
set_option linter.unusedVariables false
set_option linter.unusedSimpArgs false
section
open Go.RowKit
theorem dP(W:Ub)(a:Obj)(cs:Array Uc)(t:TypeId):((W.alloc a).alloc (Ua cs t)).heap[W.heap.size+1]? =some (Ua cs t (0,0)):=by
 show((W.heap.push a).push (Ua cs t))[W.heap.size+1]? =_
 rw[show W.heap.size+1=(W.heap.push a).size by simp,QT]
theorem NF(l:List Rw)(h5:∀r∈l,r.nums.length=5)(A:Option Addr)(c B:Nat)(r:Rc)(T:r.Ok)(X:l.length<=1000000)(w:Ub)(Z:jv w B A l)(V:B<=w.heap.size):
  TV 25 #[T0 A l.length c,CF r] w (T1 #[TY T6 (uh l r).1,TY T6 (uh l r).2.1,T2 (uh l r).2.2]):=by
 obtain⟨f,n,J,args⟩:=r;obtain⟨F,H,ab,u,k⟩:=T;simp only at F H ab u k;match args,u with
 |[a0,a1,a2,a3,M,L],_=>
 have Y:a0<=eC:=k a0 (by simp);unfold eC at Y;have E:=fun W=>CM n f H F W
 have D:∀(x y:Int) (z:Bool),Below w.heap.size w ((w.alloc (Ua #[TY T7 f,TY T7 n,TY T8 J,TY T8 a0,TY T8 a1,TY T8 a2,TY T8 a3,TY T8 M,TY T8 L] 32)).alloc (Ua #[TY T6 x,TY T6 y,T2 z] 93)):=
  fun x y z=>((aw _ _).alloc (ae _) _).alloc (by simp) _
 have v:∀s q,jv ((w.alloc s).alloc q) B A l:=fun s q=>Z.below (((aw B w).alloc V s).alloc (by simp;omega) q)
 obtain⟨g,j,HR,U⟩:=aB D v Z h5;clear D v Z h5;show Calls prog _ #[_,T1 #[TY T7 f,TY T7 n,TY T8 J,TY T8 a0,TY T8 a1,TY T8 a2,TY T8 a3,TY T8 M,TY T8 L]] w _
 have N:uh l ⟨f,n,J,[a0,a1,a2,a3,M,L]⟩=match ma n f with
  |none=>(-1,-1,false)
  |some a=>((a:Int),He (lB l ⟨f,n,J,[a0,a1,a2,a3,M,L]⟩ a).1,(lB l ⟨f,n,J,[a0,a1,a2,a3,M,L]⟩ a).2):=rfl
 have C:∀a,ma n f=some a->a<5:=fun a e=>by
  unfold ma at e;repeat' (split at e)
  all_goals first|(cases e;done)|(injection e with e;omega)
 unfold QB at E;generalize ma n f=o at*;have b:=Lib.hid N;clear N;rcases o with _|a
 ·simp only at E;go_enter func25,ntmps25;go_wp2_with (go_at_call 64;refine(E _).mono ?_;rintro e m ⟨rfl,rfl⟩);refine aO (eJ (p:=4) (ty:=93) rfl _ _ (w.heap.size+1) _ _ _ _ rfl (dP _ _ _ _) underlying93 rfl (by kernel_rfl)) rfl ⟨by first|(rw[b.out];done)|(rw[b.out];rfl),g.out _ _ _⟩
 simp only at E b;have ha:=C a rfl;clear C;have z0:¬(a:Int)<0:=by omega
 unfold lB at b;simp only[iP]at b;by_cases S:a=2/\f=102
 ·obtain⟨rfl,rfl⟩:=S;rw[aj ⟨rfl,rfl⟩]at b;have i:=fun s q=>Bx l U.out A c B 1 (a0 % 4294967296:Nat) (.inl rfl) X _ (j.out s q)
  have d:((a0 % 4294967296:Nat):Int)=(a0:Int) % 4294967296:=by omega
  rw[d]at i b;clear d;have O:IntKind.i64.wrap ((a0:Int) % 4294967296)=(a0:Int) % 4294967296:=IntWalk.i64_in _ (by omega);go_enter func25,ntmps25;go_wp2_with (first|(go_at_call 64;refine(E _).mono ?_;rintro e m ⟨rfl,rfl⟩)|(go_at_call 65;(with_reducible refine(i _ _).mono ?_);rintro e m ⟨rfl,rfl⟩));refine aO (eJ (p:=4) (ty:=93) rfl _ _ (w.heap.size+1) _ _ _ _ rfl (dP _ _ _ _) underlying93 rfl (by kernel_rfl)) rfl ⟨by first|(rw[b.out];done)|(rw[b.out];rfl),g.out _ _ _⟩
 by_cases R:a=2/\f=117
 ·obtain⟨rfl,rfl⟩:=R;rw[af (by omega),aj ⟨rfl,rfl⟩]at b;have i:=fun s q=>Bx l U.out A c B 2 (a0 % 4294967296:Nat) (.inr rfl) X _ (j.out s q)
  have d:((a0 % 4294967296:Nat):Int)=(a0:Int) % 4294967296:=by omega
  rw[d]at i b;clear d;have O:IntKind.i64.wrap ((a0:Int) % 4294967296)=(a0:Int) % 4294967296:=IntWalk.i64_in _ (by omega);go_enter func25,ntmps25;go_wp2_with (first|(go_at_call 64;refine(E _).mono ?_;rintro e m ⟨rfl,rfl⟩)|(go_at_call 65;(with_reducible refine(i _ _).mono ?_);rintro e m ⟨rfl,rfl⟩));refine aO (eJ (p:=4) (ty:=93) rfl _ _ (w.heap.size+1) _ _ _ _ rfl (dP _ _ _ _) underlying93 rfl (by kernel_rfl)) rfl ⟨by first|(rw[b.out];done)|(rw[b.out];rfl),g.out _ _ _⟩
 rw[af S,af R]at b;have G:=fun s q=>NI l U.out A c B a (ownN a f:Nat) ha (F4 _) X _ (j.out s q)
 have t:=fun W=>K3 a f F W
 have ag:ownN a f<4294967296:=by unfold ownN;split<;>omega
 have O:IntKind.i64.wrap ((ownN a f:Nat):Int)=((ownN a f:Nat):Int):=IntWalk.i64_in _ (by omega);generalize ownN a f=ow at*;by_cases ea:a=2
 ·subst ea;have q1:((f:Int)==102)=false:=by simp;omega
  have q2:((f:Int)==117)=false:=by simp;omega
  clear S R;go_enter func25,ntmps25;go_wp2_with (first|(go_at_call 64;refine(E _).mono ?_;rintro e m ⟨rfl,rfl⟩)|(go_at_call 67;refine(t _).mono ?_;rintro e m ⟨rfl,rfl⟩)|(go_at_call 66;refine(G _ _).mono ?_;rintro e m ⟨rfl,rfl⟩));refine aO (eJ (p:=4) (ty:=93) rfl _ _ (w.heap.size+1) _ _ _ _ rfl (dP _ _ _ _) underlying93 rfl (by kernel_rfl)) rfl ⟨by first|(rw[b.out];done)|(rw[b.out];rfl),g.out _ _ _⟩
 have q0:((a:Int)==2)=false:=by simp;omega
 clear S R;go_enter func25,ntmps25;go_wp2_with (first|(go_at_call 64;refine(E _).mono ?_;rintro e m ⟨rfl,rfl⟩)|(go_at_call 67;refine(t _).mono ?_;rintro e m ⟨rfl,rfl⟩)|(go_at_call 66;(with_reducible refine(G _ _).mono ?_);rintro e m ⟨rfl,rfl⟩));refine aO (eJ (p:=4) (ty:=93) rfl _ _ (w.heap.size+1) _ _ _ _ rfl (dP _ _ _ _) underlying93 rfl (by kernel_rfl)) rfl ⟨by first|(rw[b.out];done)|(rw[b.out];rfl),g.out _ _ _⟩
theorem ve{a b:ByteArray}(h:¬a=b):(a.toList==b.toList)=false:=by
 have:¬a.toList=b.toList:=fun e=>h (by
  rw[ByteArray.toList_eq,ByteArray.toList_eq]at e;cases a;cases b;congr 1;exact vF.1 e)
 simpa using this
theorem NG(l:List Rl)(d:Int×Int)(name:ByteArray):∀k,k<=l.length->(∀j,j<k->¬(l.getD j default).name=name)->
  (match l.find? fun r=>decide (r.name=name)with|some r=>if r.conds=[]then(r.kind,r.num)else d|none=>d)=(match(l.drop k).find? fun r=>decide (r.name=name)with|some r=>if r.conds=[]then(r.kind,r.num)else d|none=>d)
 |0,_,_=>rfl
 |k+1,a,h=>by
  rw[NG l d name k (by omega) fun j b=>h j (by omega)];rw[dm (show k<l.length by omega),kh];have:=h k (by omega);rw[aa,ah (show k<l.length by omega)]at this;simpa using this
theorem EE(p:Po)(A:Option Addr)(c B:Nat)(name:ByteArray)(hl:p.rules.length<=1000000)(d:∀r∈p.rules,r.conds.length<=1000000)(w:Ub)(V:eI w B A p.rules)(O:B<=w.heap.size):
  TV 27 #[T1 #[TY T6 p.kind,TY T6 p.num,T2 p.x32,T0 A p.rules.length c],.string name] w (T1 #[TY T6 (ig p name).1,TY T6 (ig p name).2]):=by
 obtain⟨o,g,G,rs⟩:=p;simp only at hl d V⊢;have m:∀(x y:Int),Below w.heap.size w ((w.alloc (Ua #[TY T6 o,TY T6 g,T2 G,T0 A rs.length c] 26)).alloc (Ua #[TY T6 x,TY T6 y] 23)):=
  fun x y=>((aw _ _).alloc (ae _) _).alloc (by simp) _
 have z:∀M J,eI ((w.alloc M).alloc J) B A rs:=fun M J=>V.below (((aw B w).alloc O M).alloc (by simp;omega) J)
 have t:∀k,k<=rs.length->_:=NG rs (o,g) name;have l:ig ⟨o,g,G,rs⟩ name=match rs.find? fun r=>decide (r.name=name)with|some r=>if r.conds=[]then(r.kind,r.num)else(o,g)|none=>(o,g):=rfl
 rw[l];generalize W:rs.length=n at*;generalize hv:(match rs.find? fun r=>decide (r.name=name)with|some r=>if r.conds=[]then(r.kind,r.num)else(o,g)|none=>(o,g))=v at*;obtain⟨a,S,N,E,T⟩:=aG m z t W d;clear m z t W d;clear l hv;go_enter func27,ntmps27;go_wp2_with fail;go_loop [5] (fun i=>∃k:Nat,k<=n/\i=TY T6 k/\∀j,j<k->¬(rs.getD j default).name=name) (fun i=>n - (intOf i).toNat)
 case atStart=>exact⟨0,by omega,rfl,fun j X=>absurd X (by omega)⟩
 case round=>
  obtain⟨k,hk,rfl,q⟩:=hrel;have hv:=N.out k hk q;have H:=Lib.hid q;clear q;by_cases s:k<n
  ·obtain⟨b,ai,A',c',rfl,hb,h0,h1,Y,h3,_⟩:=(S.out (Ua #[TY T6 o,TY T6 g,T2 G,T0 A n c] 26) (Ua #[TY T6 0,TY T6 0] 23)).at_ (k:=k) (by rw[E.out];exact s);have C:=dm (show k<rs.length by rw[E.out];exact s);have u:rs.getD k default=rs[k]'(by rw[E.out];exact s):=by rw[aa,ah];rfl
   have F:rs.getD k default∈rs:=by rw[u];exact bj _
   have d:=T.out _ F;rw[<-u]at C;generalize f:rs.getD k default=x at*;obtain⟨Z,xk,xm,L⟩:=x;simp only at h0 h1 Y h3 d;rw[C]at hv;by_cases e1:Z=name
   ·subst e1;rw[ki (by simp)]at hv;simp only at hv;by_cases e2:L=[]
    ·subst e2;rw[aj rfl]at hv;clear C f u F;have D:=Lib.hid hv;clear hv;go_wp2_with fail;refine aO (eJ (p:=4) (ty:=23) rfl _ _ (w.heap.size+1) _ _ _ _ rfl (dP _ _ _ _) underlying23 rfl (by kernel_rfl)) rfl ⟨by rw[D.out],a.out _ _⟩
    rw[af e2]at hv;have U:0<L.length:=fh.2 e2;have e3:((L.length:Int)==0)=false:=by simp;omega
    clear C f u F;obtain⟨D,E2⟩:=aA hv e2;clear hv e2;go_wp2_with fail;refine aO (eJ (p:=4) (ty:=23) rfl _ _ (w.heap.size+1) _ _ _ _ rfl (dP _ _ _ _) underlying23 rfl (by kernel_rfl)) rfl ⟨by rw[D.out],a.out _ _⟩
   have e2:=ve e1;clear hv C u F;obtain⟨R,E1⟩:=aA f e1;clear f e1;go_wp2_with fail;go_round;case rel=>exact⟨k+1,by omega,by go_num,fun j X=>if e:j=k then by rw[e,R.out];exact E1.out else H.out j (by omega)⟩
   case measure=>simp[intOf];omega
  obtain rfl:n=k:=by omega
  rw[iQ (by rw[E.out];exact ae _)]at hv;have D:=Lib.hid hv;clear hv;go_wp2_with fail;refine aO (eJ (p:=4) (ty:=23) rfl _ _ (w.heap.size+1) _ _ _ _ rfl (dP _ _ _ _) underlying23 rfl (by kernel_rfl)) rfl ⟨by rw[D.out];rfl,a.out _ _⟩
theorem JO(l:List Rl)(d:Int×Int)(f:Rl->Bool):∀k,k<=l.length->(∀j,j<k->f (l.getD j default)=false)->
  (match l.find? f with|some r=>(r.kind,r.num)|none=>d)=(match(l.drop k).find? f with|some r=>(r.kind,r.num)|none=>d)
 |0,_,_=>rfl
 |k+1,a,h=>by
  rw[JO l d f k (by omega) fun j b=>h j (by omega)];rw[dm (show k<l.length by omega),kh];have:=h k (by omega);rw[aa,ah (show k<l.length by omega)]at this;simpa using this
theorem rJ{α:Type}[Inhabited α]{l:List α}{k:Nat}(a:k<l.length):l.drop k=l.getD k default::l.drop (k+1):=by
 rw[dm a,aa,ah a];rfl
theorem gu{α:Type}[Inhabited α]{l:List α}{k:Nat}(a:k<l.length):l.getD k default∈l:=by
 rw[aa,ah a];exact bj a
theorem nA{α:Type}[Inhabited α](l:List α)(k:Nat)(a:k<l.length):l.take (k+1)=l.take k++[l.getD k default]:=by
 rw[dy a,aa,ah a];rfl
theorem Hd(a b:ByteArray):(a.toList==b.toList)=decide (a=b):=by
 by_cases h:a=b
 ·subst h;simp
 rw[ve h];simp[h]
def Ri(l:List Nat):Uc:=T1 (l.map fun n:Nat=>Value.int T8 (n:Int)).toArray
theorem CK(p:Po)(A:Option Addr)(c B:Nat)(name:ByteArray)(a:Nat)(args:List Nat)(h6:args.length=6)(O:∀n∈args,n<=eC)(hl:p.rules.length<=1000000)
  (av:∀r∈p.rules,r.conds.length<=1000000/\∀x∈r.conds,fS x=true/\x.Ok)(w:Ub)(hr:eI w B A p.rules)(cg:B<=w.heap.size):
  Calls prog 28 #[T1 #[TY T6 p.kind,TY T6 p.num,T2 p.x32,T0 A p.rules.length c],.string name,TY T6 a,Ri args] w
   fun e w'=>e=.returned (T1 #[TY T6 (fC p name a args).1,TY T6 (fC p name a args).2])/\Below w.heap.size w w':=by
 obtain⟨F,C,U,rs⟩:=p;simp only at hl av hr⊢;match args,h6 with
 |[a0,a1,a2,a3,f,d],_=>
 have bi:∀j,j<6->[a0,a1,a2,a3,f,d].getD j 0<=eC:=fun j hj=>O _ (by
  rw[aa,ah (by simpa using hj)];exact bj _)
 have bp:=JO rs (F,C) (fun r=>decide (r.name=name)&&uQ a [a0,a1,a2,a3,f,d] r.conds);have ag:fC ⟨F,C,U,rs⟩ name a [a0,a1,a2,a3,f,d]=match rs.find? fun r=>decide (r.name=name)&&uQ a [a0,a1,a2,a3,f,d] r.conds with|some r=>(r.kind,r.num)|none=>(F,C):=rfl
 rw[ag];clear ag O;generalize hV:(match rs.find? fun r=>decide (r.name=name)&&uQ a [a0,a1,a2,a3,f,d] r.conds with|some r=>(r.kind,r.num)|none=>(F,C))=V at*;generalize hn:rs.length=n at*;have N:Below w.heap.size w (((w.alloc (Ua #[TY T6 F,TY T6 C,T2 U,T0 A n c] 26)).alloc (Ua #[TY T8 a0,TY T8 a1,TY T8 a2,TY T8 a3,TY T8 f,TY T8 d] 30)).alloc (Ua #[TY T6 0,TY T6 0] 23)):=(((aw _ _).alloc (ae _) _).alloc (by simp) _).alloc (by simp;omega) _;have ba:(((w.alloc (Ua #[TY T6 F,TY T6 C,T2 U,T0 A n c] 26)).alloc (Ua #[TY T8 a0,TY T8 a1,TY T8 a2,TY T8 a3,TY T8 f,TY T8 d] 30)).alloc (Ua #[TY T6 0,TY T6 0] 23)).heap.size=w.heap.size+3:=by simp
 have b0:bK (((w.alloc (Ua #[TY T6 F,TY T6 C,T2 U,T0 A n c] 26)).alloc (Ua #[TY T8 a0,TY T8 a1,TY T8 a2,TY T8 a3,TY T8 f,TY T8 d] 30)).alloc (Ua #[TY T6 0,TY T6 0] 23)) w.heap.size 26 #[TY T6 F,TY T6 C,T2 U,T0 A n c]:=((bK.new w _ _).alloc _).alloc _;have b1:bK (((w.alloc (Ua #[TY T6 F,TY T6 C,T2 U,T0 A n c] 26)).alloc (Ua #[TY T8 a0,TY T8 a1,TY T8 a2,TY T8 a3,TY T8 f,TY T8 d] 30)).alloc (Ua #[TY T6 0,TY T6 0] 23)) (w.heap.size+1) 30 #[TY T8 a0,TY T8 a1,TY T8 a2,TY T8 a3,TY T8 f,TY T8 d]:=bK.alloc (g:=w.heap.size+1) (dP w _ _ _) _;have b2:bK (((w.alloc (Ua #[TY T6 F,TY T6 C,T2 U,T0 A n c] 26)).alloc (Ua #[TY T8 a0,TY T8 a1,TY T8 a2,TY T8 a3,TY T8 f,TY T8 d] 30)).alloc (Ua #[TY T6 0,TY T6 0] 23)) (w.heap.size+1+1) 23 #[TY T6 0,TY T6 0]:=by
  have:=bK.new ((w.alloc (Ua #[TY T6 F,TY T6 C,T2 U,T0 A n c] 26)).alloc (Ua #[TY T8 a0,TY T8 a1,TY T8 a2,TY T8 a3,TY T8 f,TY T8 d] 30)) 23 #[TY T6 0,TY T6 0];rwa [show((w.alloc (Ua #[TY T6 F,TY T6 C,T2 U,T0 A n c] 26)).alloc (Ua #[TY T8 a0,TY T8 a1,TY T8 a2,TY T8 a3,TY T8 f,TY T8 d] 30)).heap.size=w.heap.size+1+1 by simp]at this
 have bR:=hr.below (N.mono cg);unfold Ri;simp only[aJ,a8];obtain⟨c7,ck,HN,c6,ab,cx,B0,B1,B2⟩:=ay bi bp hn av N ba b0 b1 b2;have cc:=Lib.hid bR;clear bi bp hn av N ba b0 b1 b2 bR;clear hr hV;go_enter func28,ntmps28;go_wp2_with fail;generalize ((w.alloc (Ua _ 26)).alloc (Ua _ 30)).alloc (Ua _ 23)=W0 at*;have hz:=cx.out;go_loopw [9] (fun i wr=>∃k:Nat,k<=n/\i=TY T6 k/\(∀j,j<k->(decide ((rs.getD j default).name=name)&&uQ a [a0,a1,a2,a3,f,d] (rs.getD j default).conds)=false)/\Below W0.heap.size W0 wr) (fun i _=>n - (intOf i).toNat)
 case atStart=>exact⟨0,by omega,rfl,fun j hj=>absurd hj (by omega),aw _ _⟩
 case round=>
  obtain⟨k,hk,rfl,ai,hB⟩:=hrel;obtain⟨Y,rfl⟩:∃Y:Ub,Y=wr:=⟨_,rfl⟩;have H:=ck.out k hk ai;have ek:=hB.size;have d0:=(B0.out.below hB (by omega)).cell 3;simp only[ao]at d0;have bm:=Lib.hid ai;clear ai;have o:=Lib.hid hB;clear hB;by_cases ak:k<n
  ·obtain⟨b,el,A',c',rfl,hb,h0,h1,h2,h3,ap⟩:=(cc.out.below (o.out.mono (by omega))).at_ (k:=k) (by rw[HN.out];exact ak);have hx:=rJ (l:=rs) (k:=k) (by rw[HN.out];exact ak);have hm:rs.getD k default∈rs:=gu (by rw[HN.out];exact ak);obtain⟨bo,M⟩:=c6.out _ hm;generalize a9:rs.getD k default=x at*;obtain⟨Z,xk,xm,z⟩:=x;simp only at h0 h1 h2 h3 ap bo M;rw[hx]at H;generalize bk:z.length=m at*;obtain⟨al,HX,bS,bB,X,dd⟩:=aF bk hx a9 M H ap;clear bk hx a9 M H ap;clear hm;go_wp2_with fail;have b3:=(aw Y.heap.size Y).alloc (ae _) (Ua #[.string Z,TY T6 xk,TY T6 xm,T0 A' m c'] 58);have bv:(Y.alloc (Ua #[.string Z,TY T6 xk,TY T6 xm,T0 A' m c'] 58)).heap.size=Y.heap.size+1:=by simp
   have c1:=bK.new Y 58 #[.string Z,TY T6 xk,TY T6 xm,T0 A' m c'];obtain⟨L,b9,C1⟩:=aC b3 bv c1;clear b3 bv c1;generalize Y.alloc (Ua _ 58)=W1 at*;generalize hg:Y.heap.size=g at*;have ed:=b9.out;go_loopw [11,12] (fun bb j w2=>∃t:Nat,t<=m/\j=TY T6 t/\bb=T2 (decide (Z=name)&&(z.take t).all (eO a [a0,a1,a2,a3,f,d]))/\Below W1.heap.size W1 w2) (fun _ j _=>m - (intOf j).toNat)
   case atStart=>exact⟨0,by omega,rfl,by simp[Hd],aw _ _⟩
   case round=>
    obtain⟨t,ht,rfl,rfl,J⟩:=hrel;have er:=J.size;have d3:=(C1.out.below J (by omega)).cell 3;have d1:=(C1.out.below J (by omega)).cell 1;have d2:=(C1.out.below J (by omega)).cell 2;simp only[ao]at d3 d1 d2;have D:=Lib.hid J;clear J;generalize G:(decide (Z=name)&&(z.take t).all (eO a [a0,a1,a2,a3,f,d]))=bb at*;have bl:bb=false->(decide (Z=name)&&uQ a [a0,a1,a2,a3,f,d] z)=false:=fun h=>by
     rw[h]at G;rcases RB.1 G with h1|h1
     ·rw[h1];rfl
     have:uQ a [a0,a1,a2,a3,f,d] z=false:=by
      unfold uQ;cases e:z.all (fun c=>ee c (argN a ([a0,a1,a2,a3,f,d].getD c.arg.toNat 0)))with
      |false=>rfl
      |true=>
       have h2:(z.take t).all (eO a [a0,a1,a2,a3,f,d])=true:=cL.2 fun y hy=>cL.1 e y (gj hy)
       rw[h2]at h1;cases h1
     rw[this,P7]
    by_cases an:t<m
    ·cases bb with
     |true=>
      obtain⟨b',a7,c5,en,S⟩:=(((dd.out.below (L.out.mono (by omega))).below (D.out.mono (by omega))):bh wr B 4 A' m (cR z)).SG (k:=t) an;have cr:z.getD t default∈z:=gu (by rw[al.out];exact an);obtain⟨bs,ce⟩:=bB.out _ cr;have bA:=nA z t (by rw[al.out];exact an);unfold fS at bs;obtain⟨q1,q2,_⟩:=aN bs;generalize c0:z.getD t default=ct at*;obtain⟨ca,co,cm,cv⟩:=ct;simp only at q1 q2;obtain⟨R,rfl⟩:∃R:Nat,ca=(R:Int):=⟨ca.toNat,by omega⟩;subst c5;have cn:∃xv:Nat,[a0,a1,a2,a3,f,d].getD R 0=xv/\xv<=eC/\wr.cell? ⟨w.heap.size+1,R,none⟩=some (TY T8 xv):=by
       refine⟨_,rfl,c7.out R (by omega),?_⟩;rw[(((B1.out.below o.out (by omega)).below L.out (by omega)).below D.out (by omega)).cell];have ci:R<6:=by omega
       match R,ci with
       |0,_=>rfl
       |1,_=>rfl
       |2,_=>rfl
       |3,_=>rfl
       |4,_=>rfl
       |5,_=>rfl
      obtain⟨xv,cs,bq,b4⟩:=cn;have f0:=eY d3;have f1:=eY b4;have f2:=kZ S (by omega);have f3:=eY (show wr.cell? ⟨b',a7+t*4,none⟩=some (TY T6 R) from nt S (j:=0) rfl);have q6:(R:Int)<6:=by omega
      have cl:=fun W=>K0 a xv bq W
      have ch:=fun W=>EF ⟨(R:Int),co,cm,cv⟩ ce (argN a xv) (ax (by unfold argN;split;exact Nat.mod_le _ _;exact ae _) bq) W
      have ad:(decide (Z=name)&&(z.take (t+1)).all (eO a [a0,a1,a2,a3,f,d]))=ee ⟨(R:Int),co,cm,cv⟩ (argN a xv):=by
       rw[bA,List.all_append,<-Bool.and_assoc,G,il,fg,Ji,QV];unfold eO;rw[dI,cs]
      obtain⟨bf,F2⟩:=aA ad f2;clear ad f2;clear bA c0 G S b4;go_wp2_with fail;refine dO (by kernel_rfl) (by kernel_rfl) ?_;repeat(first
       |go_big_quiet_skip
       |(go_big_quiet_want
         first
          |(refine ik 164 (.tmp 42) rfl _ _ rfl _ _ (F2.out) underlying164 rfl (by kernel_rfl) ?_;simp only[Act.put,aq,aI,aH];go_big_quiet_on)
          |(go_big_quiet_op
            first
             |go_big_quiet_on
             |go_big_quiet_call (first
               |(go_at_call 70;exact wO (cl _))
               |(go_at_call 69;exact gi (ch _))))))
      refine wpQuiet_nil ?_;intro w5 c9;go_wp2_with fail;go_roundw;case rel=>exact⟨t+1,by omega,by go_num,by rw[bf.out],D.out.trans (c9.mono (by omega))⟩
      case measure=>simp[intOf];omega
     |false=>
      have hf:=bl rfl;have q:=X.out;rw[kh (by rw[hf];simp)]at q;go_wp2_with fail;go_roundw;case rel=>
       refine⟨k+1,by omega,by go_num,fun j hj=>if e:j=k then by rw[e,bS.out];exact hf else bm.out j (by omega),?_⟩;exact o.out.trans ((L.out.mono (by omega)).trans (D.out.mono (by omega)))
      case measure=>simp[intOf];omega
    obtain rfl:m=t:=by omega
    have br:z.take m=z:=bI (by rw[al.out];exact ae _);cases bb with
    |true=>
     have bx:(decide (Z=name)&&uQ a [a0,a1,a2,a3,f,d] z)=true:=by rw[br]at G;exact G
     have q:=X.out;rw[ki (by exact bx)]at q;have u:=(((B2.out.below o.out (by omega)).below L.out (by omega)).below D.out (by omega));have s0:=u.cell 0;have s1:=u.cell 1;have s2:=u.frozen 0;have s3:=u.frozen 1;simp only[ao]at s0 s1;have s4:=u.lt;have r4:=(u.set_ 0 (TY T6 xk)).set_ 1 (TY T6 xm);have E:=(ab.out.trans (o.out.mono (by omega))).trans ((L.out.mono (by omega)).trans (D.out.mono (by omega)));have s:=(E.setCell (p:=⟨w.heap.size+1+1,0,none⟩) (by simp only;omega) (TY T6 xk)).setCell (p:=⟨w.heap.size+1+1,1,none⟩) (by simp only;omega) (TY T6 xm);obtain⟨bW,R2,R4,c2,T⟩:=aG q u r4 E s;clear q u r4 E s;go_wp2_with fail;refine aO (v:=T1 #[TY T6 xk,TY T6 xm]) (eJ (p:=8) (ty:=23) rfl _ _ (w.heap.size+1+1) _ _ _ _ rfl R4.out underlying23 rfl (by kernel_rfl)) rfl ⟨by rw[bW.out],T.out⟩
    |false=>
     have hf:=bl rfl;go_wp2_with fail;go_roundw;case rel=>
      refine⟨k+1,by omega,by go_num,fun j hj=>if e:j=k then by rw[e,bS.out];exact hf else bm.out j (by omega),?_⟩;exact o.out.trans ((L.out.mono (by omega)).trans (D.out.mono (by omega)))
     case measure=>simp[intOf];omega
  obtain rfl:n=k:=by omega
  rw[iQ (by rw[HN.out];exact ae _)]at H;have u:=B2.out.below o.out (by omega);have s0:=u.cell 0;have s1:=u.cell 1;have s2:=u.frozen 0;have s3:=u.frozen 1;have e0:=(B0.out.below o.out (by omega)).cell 0;have e1:=(B0.out.below o.out (by omega)).cell 1;simp only[ao]at s0 s1 e0 e1;have s4:=u.lt;have r4:=(u.set_ 0 (TY T6 F)).set_ 1 (TY T6 C);have E:=ab.out.trans (o.out.mono (by omega));have s:=(E.setCell (p:=⟨w.heap.size+1+1,0,none⟩) (by simp only;omega) (TY T6 F)).setCell (p:=⟨w.heap.size+1+1,1,none⟩) (by simp only;omega) (TY T6 C);obtain⟨X,R2,R4,c2,T⟩:=aG H u r4 E s;clear H u r4 E s;go_wp2_with fail;refine aO (v:=T1 #[TY T6 F,TY T6 C]) (eJ (p:=8) (ty:=23) rfl _ _ (w.heap.size+1+1) _ _ _ _ rfl R4.out underlying23 rfl (by kernel_rfl)) rfl ⟨by rw[X.out];rfl,T.out⟩
end
end Go.Proofs.YtfammloeljmplaaGreatDoor
