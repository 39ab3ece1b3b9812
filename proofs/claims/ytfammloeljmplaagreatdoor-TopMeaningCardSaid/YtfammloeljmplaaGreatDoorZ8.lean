/- The contract of check; laws of plans; conditions: each lemma's own. -/
import Derived.Test.YtfammloeljmplaaGreatDoorZ5
import Derived.Test.YtfammloeljmplaaGreatDoorZ7
open Go.Value renaming int->TY,slice->T0,bool->T2,tuple->T4
open Go.IntKind renaming i64->T6,u16->T9
open Go renaming World->Ub,Value->Uc
namespace Go.Proofs.YtfammloeljmplaaGreatDoor
open Go.Proofs.Tryz
set_option maxRecDepth 100000
set_option maxHeartbeats 8000000
set_option linter.unusedVariables false
set_option linter.unusedSimpArgs false
section
open Go.RowKit
theorem yA{w w':Ub}{p:Addr}{v:Uc}(h:Below w.heap.size w w')(a:w.cell? p=some v)(b:True\/p.block<w.heap.size):w'.cell? p=some v:=(h.cell (fM a)).trans a
theorem Pm{w:Ub}{B n:Nat}{A:Option Addr}{l:List Nat}(h:bh w B 1 A n (kV l)){k:Nat}(i:k<n):∃b a,A=some ⟨b,a,none⟩/\b<B/\w.cell? ⟨b,a+k,none⟩=some (TY T9 (l.getD k 0:Nat)):=by
 obtain⟨g,rfl,f,e⟩:=h.2 (by omega);have j:n=l.length:=by have:=h.1;rw[mC]at this;omega
 obtain⟨b,a,spot⟩:=g;have c:=e 0 _ (mP l 0 (by omega));have d:spot=none:=by simpa[Addr.add]using fL c
 subst d;refine⟨b,a,rfl,f,?_⟩;rw[<-e k _ (mP l k (by omega))];unfold Addr.add;by_cases c:k=0
 ·subst c;simp
 rw[af c]
theorem Pn(s k:Nat)(h:s<65536):(bits .and T9 ((s:Int) / (2:Int) ^ k) 1==0)= !(s.testBit k):=by
 have e1:((s:Int) / (2:Int) ^ k)=((s / 2 ^ k:Nat):Int):=by simp
 have b:s / 2 ^ k<65536:=fF (xw _ _) h;have e2:bits .and T9 ((s / 2 ^ k:Nat):Int) ((1:Nat):Int)=((s / 2 ^ k&&&1:Nat):Int):=u16_and_nat _ 1 b (by omega);have a:bits .and T9 ((s / 2 ^ k:Nat):Int) 1=((s / 2 ^ k&&&1:Nat):Int):=e2;rw[e1,a,Nat.and_one_is_mod,Nat.testBit_eq_decide_div_mod_eq];have h3:s / 2 ^ k % 2=0\/s / 2 ^ k % 2=1:=by omega
 rcases h3 with h3|h3<;>rw[h3]<;>rfl
theorem Bt(l:List I)(J:∀i∈l,i.Ok)(A:Option Addr)(n c:Nat)(w:Ub)(T:bh w w.heap.size 4 A n (gx l))(hn:n<=1000000):
  Calls prog 56 #[T0 A n c] w (yB (fK l) w):=by
 have hl:n=l.length:=by have:=T.1;rw[jq]at this;omega
 have HL:=Lib.hid hl;have hf:=fun W h=>sU l J A n c W h hn
 have hs:=fun W h=>G5 l J A n c W h hn
 obtain⟨HF,HS⟩:=aA hf hs;clear hf hs hl;by_cases a:(eA l).2=0
 ·have e0:=vK l a;have L:=xI l a;rw[<-HL.out]at L;obtain⟨E0,av,C⟩:=aC e0 L a;have HP:=Lib.hid (mO a);clear e0 L a;go_enter func56,ntmps56;go_wp2_with fail;refine(HF.out _ T).mono ?_;rintro e w1 ⟨rfl,o⟩;rw[E0.out];have G:=(T.below o).more o.size;go_wp2_with fail;refine(HS.out _ G).mono ?_;rintro e w2 ⟨v,rfl,F,y⟩;rw[av.out]at F;obtain⟨As,cs,rfl,ag⟩:=cX F;have U:=(G.below y).more y.size;have q:=o.trans (y.mono o.size);clear F o y G;go_wp2_with fail;go_loopw [23] (fun i wr=>∃k:Nat,k<=n/\i=TY T6 k/\Hid (∀j,j<k->oL l j=0)/\Below w2.heap.size w2 wr) (fun i _=>n - (intOf i).toNat)
  case atStart=>exact⟨0,by omega,rfl,fun j X=>absurd X (by omega),aw _ _⟩
  case round=>
   obtain⟨k,hk,rfl,H,S⟩:=hrel;by_cases Y:k<n
   ·obtain⟨b,bf,rfl,hb,ab,ai,Z,N⟩:=(U.below S).Th Y;obtain⟨b2,a0,rfl,bi,hu⟩:=Pm (ag.below S) Y;have D:=oc J (k:=k) (by have:=HL.out;omega);have ad:k<l.length:=by have:=HL.out;omega
    have pc:=fun h=>(HP.out).cell ad h
    have O:∀W,TV 105 #[TY T9 (l.getD k default).code] W (T4 #[TY T6 (kd (l.getD k default):Nat),T2 (kx (l.getD k default)),T2 (((kd (l.getD k default):Nat):Int) != 0)]):=fun W=>ub _ D.1 W
    have R:oL l k=if Gt (kd (l.getD k default))/\((ko l).getD k 0).testBit (l.getD k default).k=false then 12 else 0:=rfl
    have al:=Cp (by omega) (Gw l) k;generalize (ko l).getD k 0=sv at*;generalize kd (l.getD k default)=d at*;generalize kx (l.getD k default)=x at*;generalize l.getD k default=i at*;obtain⟨xc,xt,xf,xk⟩:=i;obtain⟨o1,o2,o3,o4⟩:=D;simp only at ab ai Z N o1 o2 o3 o4 O R pc;obtain⟨V,z,PC⟩:=aC O R pc;have z0:(0:Int)<=(k:Int):=by omega
    clear O R pc ai Z;go_wp2_with fail;refine(V.out _).mono ?_;rintro e w4 ⟨rfl,M⟩;have t:=S.trans (M.mono S.size);have k3:=yA M N (.inl trivial);clear M ab N V hu S;by_cases f:Gt d
    ·have a3:=PC.out f;have r:=z.out;have B:=Pn sv xk al;clear z PC;cases u:sv.testBit xk
     ·rw[u]at B r;have E:oL l k≠0:=by rw[r,aj ⟨f,rfl⟩];omega
      have m:=Gu l C.out k ad H.out E;have s:=Lib.hid m;clear m r E u;rcases f with rfl|rfl
      all_goals
       go_wp2_with fail;go_ret2
       exact⟨by rw[s.out];rfl,q.trans (t.mono q.size)⟩
     rw[u]at B r;rw[af (fun g=>by cases g.2)]at r;have H2:Hid (∀j,j<k+1->oL l j=0):=fun j X=>by
      rcases hZ (iB X)with h|h
      ·exact H.out j h
      rw[h];exact r
     clear r u;rcases f with rfl|rfl
     all_goals
      go_wp2_with fail;go_roundw
      case rel=>exact⟨k+1,by omega,by go_num,H2,t⟩
      case measure=>simp[intOf]<;>omega
    have r:=z.out;rw[af (fun g=>f g.1)]at r;have n3:((d:Int)==3)=false:=by unfold Gt at f;simp;omega
    have n6:((d:Int)==6)=false:=by unfold Gt at f;simp;omega
    have H2:Hid (∀j,j<k+1->oL l j=0):=fun j X=>by
     rcases hZ (iB X)with h|h
     ·exact H.out j h
     rw[h];exact r
    clear r f z PC k3;go_wp2_with fail;go_roundw;case rel=>exact⟨k+1,by omega,by go_num,H2,t⟩
    case measure=>simp[intOf]<;>omega
   obtain rfl:k=n:=by omega
   have m:=Gv l C.out (fun i r=>H.out i (by have:=HL.out;omega));have s:=Lib.hid m;clear m ag U T;go_wp2_with fail;go_ret2;exact⟨by rw[s.out];rfl,q.trans (S.mono q.size)⟩
 have e:fK l=eA l:=aj a;have E:((((eA l).2:Nat):Int) != 0)=true:=by simp;omega
 have HE:=Lib.hid e;clear e a HS;go_enter func56,ntmps56;go_wp2_with fail;refine(HF.out _ T).mono ?_;rintro e w1 ⟨rfl,o⟩;clear HF T;generalize eA l=p at*;go_wp2_with fail;go_ret2;exact⟨by rw[HE.out];rfl,o⟩
end
section
section
variable {p:Po} {l:List Rw} {pl:Pl} (ht:tT l) (hp:AY p l) (hpl:sK p l pl)
include ht hp hpl
theorem np{a:Nat}(B:a<5){e:PE}(A:e∈pl.entries.getD a []):∃k i,i<l.length/\0<=(l.getD i default).nums.getD a (-1)/\e=⟨wholeN a ((l.getD i default).nums.getD a (-1)).toNat,jZ a ((fU p (cN p.rules k)).map mF) (codeA p.kind p.num)⟩:=by
 obtain⟨C,s,f,c,_⟩:=hpl.names;obtain⟨k,m,b⟩:=db.1 ((c a B).mem_iff.1 A);have d:=(f k).1 m;have g:∃x∈l,x.name=k:=by
  obtain⟨x,t,e⟩:=fD d;obtain⟨y,r,v,_⟩:=iI (iA (show x∈fU p (cN p.rules k)by rw[e];simp));obtain⟨z,o,q⟩:=hp.named y r;exact⟨z,o,q.trans v⟩
 obtain⟨i,u,n,_⟩:=js ht g;unfold gH at b;rw[n]at b;split at b
 ·simp at b
 rename_i j;split at b
 ·simp at b
 rw[bz]at b;refine⟨k,i,u,?_,b⟩;rcases Je ((l.getD i default).nums.getD a (-1)) 0 with h|h
 ·exact absurd (.inl h) j
 exact h
theorem GJ:Rb pl where
 erise:=hpl.erise
 srise:=hpl.srise
 e0:=fun e b=>by
  obtain⟨k,i,d,j,rfl⟩:=np ht hp hpl (by omega) b;have:=ht.hi _ (qq d) 0 (by omega);show((l.getD i default).nums.getD 0 (-1)).toNat≠4294967295
  omega
 e2:=fun e b=>by
  obtain⟨k,i,d,j,rfl⟩:=np ht hp hpl (by omega) b;have:=ht.own _ (qq d);show((l.getD i default).nums.getD 2 (-1)).toNat≠102/\((l.getD i default).nums.getD 2 (-1)).toNat≠117
  omega
 conds:=fun a m e b r f c g=>by
  obtain⟨k,i,d,j,rfl⟩:=np ht hp hpl m b;exact Kp a _ (tQ (fun r f c g=>hp.conds r f c g) k) r f c g
end
theorem Be{α:Type}(f:α->List Nat):∀l:List α,(l.flatMap f).sum=(l.map fun k=>(f k).sum).sum
 |[]=>rfl
 |a::t=>by rw[cB,Sb,Be f t];rfl
theorem rz(f:Cd->Nf):∀(l m:List Cd),dT f l=some m->m.length<=l.length
 |[],m,h=>by
  injection h with h;subst h;exact ae _
 |c::t,m,h=>by
  unfold dT at h;cases e:f c with
  |never=>rw[e]at h;cases h
  |always=>
   rw[e]at h;have:=rz f t m h;simp;omega
  |asks n=>
   rw[e]at h;simp only at h;cases e2:dT f t with
   |none=>rw[e2]at h;cases h
   |some q=>
    rw[e2]at h;injection h with h
    subst h;have:=rz f t q e2;simp;omega
theorem tW:∀l:List Cd,(dE l).length<=l.length
 |[]=>ae _
 |[a]=>ae _
 |a::b::t=>by
  unfold dE;have:=tW (b::t);split
  ·simp only[aM]at this⊢;omega
  simp only[aM]at this⊢;omega
theorem rA{r n:Rl}(h:iT r=some n):n.conds.length<=r.conds.length:=by
 unfold iT at h;cases e:dT gd r.conds with
 |none=>rw[e]at h;cases h
 |some q=>
  rw[e]at h;injection h with h
  subst h;have b:=tW (j9 q);have a:(j9 q).length=q.length:=by unfold j9;exact kP _
  have c:=rz _ _ _ e;show(dE (j9 q)).length<=_
  omega
theorem rB{α:Type}(f:α->Bool)(l:List α):(lD f l).length<=l.length:=by
 obtain⟨t,e,_⟩:=qp f l;have:=eQ List.length e;rw[bw]at this;omega
theorem sN(a:Nat):∀l:List PR,(gR a l).length<=l.length
 |[]=>ae _
 |r::t=>by
  have ih:=sN a t;unfold gR;cases (if a=2 then gG r else some r)with
  |none=>simp only[aM];omega
  |some n=>
   simp only;split
   ·simp
   simp only[aM];omega
theorem Kr(a:Nat)(l:List PR)(d:Nat):(jZ a l d).length<=l.length:=ax (rB _ _) (sN a l)
theorem tX(a C:Nat):∀l:List PR,(∀r∈l,r.conds.length<=C)->∀r∈gR a l,r.conds.length<=C
 |[],_,r,hr=>by cases hr
 |x::t,h,r,hr=>by
  have ih:=tX a C t fun y d=>h y (by simp[d])
  have key:∀n,(if a=2 then gG x else some x)=some n->n.conds.length<=C:=fun n e=>by
   have c:=h x (by simp);by_cases b:a=2
   ·rw[aj b]at e;unfold gG at e;cases e2:dT gq x.conds with
    |none=>rw[e2]at e;cases e
    |some q=>
     rw[e2]at e;injection e with e
     subst e;exact ax (rz _ _ _ e2) c
   rw[af b]at e;injection e with e
   subst e;exact c
  unfold gR at hr;cases e:(if a=2 then gG x else some x)with
  |none=>rw[e]at hr;exact ih r hr
  |some n=>
   rw[e]at hr;simp only at hr;split at hr
   ·rw[bz]at hr;subst hr;exact key _ e
   rcases aP.1 hr with rfl|hr
   ·exact key _ e
   exact ih r hr
theorem Ks(g:List Rl)(r:Rl):(mr g r).length<=g.length+1:=by
 unfold mr;cases iT r with
 |none=>simp
 |some n=>
  simp only;split<;>simp
theorem x9:∀(rs g:List Rl),(rs.foldl mr g).length<=g.length+rs.length
 |[],g=>by simp
 |r::t,g=>by
  have:=x9 t (mr g r);have:=Ks g r;simp only[bC,aM];omega
theorem yb(rs:List Rl)(k:ByteArray):(cN rs k).length<=(rs.filter fun r=>decide (r.name=k)).length:=by
 have:=x9 (rs.filter fun r=>decide (r.name=k)) [];simpa[cN]using this
theorem JA(n:ByteArray):∀b:List ByteArray,b.Nodup->(b.map fun k=>if n=k then 1 else 0).sum<=1
 |[],_=>by simp
 |k::t,h=>by
  rw[iG]at h;rw[aJ,gC];by_cases e:n=k
  ·rw[aj e];have c:(t.map fun k=>if n=k then 1 else 0).sum=0:=by
    have:∀s:List ByteArray,k∉s->(s.map fun k=>if n=k then 1 else 0).sum=0:=by
     intro s;induction s with
     |nil=>intro _;rfl
     |cons x s ih=>
      intro a;rw[aP,not_or]at a;rw[aJ,gC,af (fun e2=>a.1 (e.symm.trans e2)),ih a.2]
    exact this t h.1
   omega
  rw[af e];have:=JA n t h.2;omega
theorem O5(f g:ByteArray->Nat)(a:List ByteArray):(a.map fun k=>f k+g k).sum=(a.map f).sum+(a.map g).sum:=by
 induction a with
 |nil=>rfl
 |cons k t ih=>simp only[aJ,gC,ih];omega
theorem uT{α:Type}(f g:α->Nat):∀a:List α,(∀k∈a,f k<=g k)->(a.map f).sum<=(a.map g).sum
 |[],_=>ae _
 |k::t,h=>by
  have:=uT f g t fun x b=>h x (by simp[b])
  have:=h k (by simp);simp only[aJ,gC];omega
theorem yf{a:List ByteArray}(h:a.Nodup):∀rs:List Rl,(a.map fun k=>(rs.filter fun r=>decide (r.name=k)).length).sum<=rs.length
 |[]=>by
  have:(a.map fun k=>(([]:List Rl).filter fun r=>decide (r.name=k)).length).sum=(a.map fun _=>0).sum:=rfl;rw[this];clear this h;induction a with
  |nil=>simp
  |cons k t ih=>simpa using ih
 |r::t=>by
  have ih:=yf h t;have b:=JA r.name a h;have:(a.map fun k=>((r::t).filter fun r=>decide (r.name=k)).length)=a.map fun k=>(t.filter fun r=>decide (r.name=k)).length+if r.name=k then 1 else 0:=by
   apply fN
   intro k _;rw[fe];by_cases e:r.name=k<;>simp[e]
  rw[this,O5,aM];omega
section
variable {p:Po} {l:List Rw} {pl:Pl} (hpl:sK p l pl)
include hpl
theorem Ea{N:Nat}(s:p.rules.length<=N):(∀a,a<5->(pl.entries.getD a []).length<=N/\((pl.entries.getD a []).map fun e=>e.rules.length).sum<=N)/\∀m,m<2->(pl.subs.getD m []).length<=N:=by
 obtain⟨f,j,g,c,d⟩:=hpl.names;have b:(f.map fun k=>(fU p (cN p.rules k)).length).sum<=N:=by
  refine ax (uT _ (fun k=>(p.rules.filter fun r=>decide (r.name=k)).length) f fun k _=>?_) (ax (yf j p.rules) s);exact ax (rB _ _) (yb _ _)
 have i:f.length<=N:=by
  refine ax ?_ b;have n:=uT (fun _=>1) (fun k=>(fU p (cN p.rules k)).length) f fun k i=>fh.2 ((g k).1 i)
  have u:(f.map fun _=>1).sum=f.length:=by
   clear n b c d g j;induction f with
   |nil=>rfl
   |cons k t ih=>simp only[aJ,gC,ih,aM];omega
  omega
 refine⟨fun a q=>?_,fun m o=>?_⟩
 ·have hp:=c a q;constructor
  ·rw[hp.length_eq,Sc];refine ax (uT _ (fun k=>(fU p (cN p.rules k)).length) f fun k i=>?_) b;have:=fh.2 ((g k).1 i);unfold gH;split
   ·simp
   split
   ·simp
   show 1<=_
   exact this
  have n:=(hp.map fun e:PE=>e.rules.length).sum_nat;rw[n,List.map_flatMap,Be];refine ax (uT _ (fun k=>(fU p (cN p.rules k)).length) f fun k i=>?_) b;unfold gH;split
  ·simp
  split
  ·simp
  simp only[aJ,a8,gC,List.sum_nil,cP];refine ax (Kr _ _ _) ?_;rw[bu];exact ae _
 rw[(d m o).length_eq,Sc];refine ax (uT _ (fun k=>(fU p (cN p.rules k)).length) f fun k i=>?_) b;have:=fh.2 ((g k).1 i);unfold lV;split
 ·show 1<=_
  exact this
 simp
theorem GK{C:Nat}(f:∀r∈p.rules,r.conds.length<=C){a:Nat}(t:a<5):∀e∈pl.entries.getD a [],∀r∈e.rules,r.conds.length<=C:=fun e s r m=>by
 obtain⟨u,n,g,c,d⟩:=hpl.names;obtain⟨k,v,b⟩:=db.1 ((c a t).mem_iff.1 s);have key:∀q∈(fU p (cN p.rules k)).map mF,q.conds.length<=C:=fun q i=>by
  obtain⟨x,o,rfl⟩:=bt.1 i;obtain⟨y,j,_,e⟩:=iI (iA o);exact ax (rA e) (f y j)
 unfold gH at b;split at b
 ·simp at b
 split at b
 ·simp at b
 rw[bz]at b;subst b;exact tX a C _ key r (iA m)
end
def Mk.mu(s:Mk):Nat:=s.l.length+s.marks
theorem ij(s:Mk)(xs:List It):(s.put xs).mu=s.mu+xs.length:=by unfold Mk.mu;rw[jd];show s.l.length+xs.length+s.marks=_;omega
theorem rC(s:Mk):s.mark.mu=s.mu+1:=rfl
theorem rD(s:Mk)(c:Nat):(s.goes c).mu<=s.mu+1:=by
 unfold Mk.goes Mk.mu;split
 ·simp only;omega
 omega
theorem Kt(c:Cd)(wide:Bool)(a b:Nat):(jY c wide a b).length<=6:=by
 unfold jY mX j3 jc;cases wide<;>(repeat' split)<;>simp
theorem Eb(wide:Bool)(next:Nat):∀(l:List Cd) (s:Mk),(gL wide next l s).mu<=s.mu+8*l.length
 |[],s=>by simp[gL]
 |c::t,s=>by
  have h:=Eb wide next t ((s.mark.put (jY c wide (s.marks+1) next)).put [du (s.marks+1)])
  have a:=Kt c wide (s.marks+1) next
  rw[ij,ij,rC]at h;simp only[aM,bD]at h⊢;show(gL wide next t _).mu<=_
  omega
theorem O6(wide:Bool)(r:PR)(s:Mk):(lz wide r s).mu<=s.mu+8*r.conds.length+4:=by
 unfold lz;rw[ij,ij];have b:=rD (gL wide (s.marks+1) r.conds s.mark) r.code;have a:=Eb wide (s.marks+1) r.conds s.mark;rw[rC]at a;simp only[aM,bD];omega
theorem Ec(wide:Bool)(o C:Nat):∀(l:List PR) (s:Mk),(∀r∈l,r.conds.length<=C)->(jH wide o l s).mu<=s.mu+(8*C+4)*l.length+1
 |[],s,_=>by show(s.put _).mu<=_;rw[ij];simp
 |r::t,s,h=>by
  have c:=Ec wide o C t (lz wide r s) fun x a=>h x (by simp[a])
  have b:=O6 wide r s;have d:=h r (by simp);show(jH wide o t (lz wide r s)).mu<=_
  rw[aM,Nat.mul_succ];omega
theorem O7{α:Type}{l:List α}{h:Nat}(b:2<=l.length)(c:l.length / 2=h)(e:l.drop h=[]):False:=by
 have a:(l.drop h).length=0:=by rw[e];rfl
 rw[dt]at a;omega
theorem O8{α:Type}{l:List α}{h:Nat}(b:2<=l.length)(c:l.length / 2=h)(e:l.take h=[]):False:=by
 have a:(l.take h).length=0:=by rw[e];rfl
 rw[bJ]at a;omega
theorem rE(o:Nat):∀(f:Nat) (l:List (Nat×Nat)) (s:Mk),((cW o f l s).mu<=s.mu+4*l.length+1)/\(l≠[]->(cW o f l s).mu+3<=s.mu+4*l.length)
 |0,l,s=>⟨by show s.mu<=_;omega,fun h=>by have:=fh.2 h;show s.mu+3<=_;omega⟩
 |f+1,[],s=>⟨by show(s.put _).mu<=_;rw[ij];simp,fun h=>absurd rfl h⟩
 |f+1,[x],s=>by
  have:(cW o (f+1) [x] s).mu=s.mu+1:=by show(s.put _).mu=_;rw[ij];rfl
  simp only[aM,bD];omega
 |f+1,x::y::t,s=>by
  generalize b:x::y::t=l at*;have a:2<=l.length:=by rw[<-b];simp
  generalize d:l.length / 2=h at*;have e:cW o (f+1) l s=cW o f (l.drop h) ((cW o f (l.take h) (s.mark.put [bc 53 (l.getD h default).1 (s.marks+1) 0])).put [du (s.marks+1)]):=by
   subst b;subst d;rfl
  rw[e];have g:=(rE o f (l.drop h) ((cW o f (l.take h) (s.mark.put [bc 53 (l.getD h default).1 (s.marks+1) 0])).put [du (s.marks+1)])).2 (fun e=>O7 a d e);have c:=(rE o f (l.take h) (s.mark.put [bc 53 (l.getD h default).1 (s.marks+1) 0])).2 (fun e=>O8 a d e);rw[ij]at g;rw[ij,rC]at c;rw[dt]at g;rw[bJ]at c;simp only[aM,bD]at g c;omega
theorem vU:∀(l:List PS) (s:Mk),(bV l s).1.mu<=s.mu+l.length/\(bV l s).2.length=l.length
 |[],s=>⟨ae _,rfl⟩
 |x::t,s=>by
  have a:=vU t (s.goes x.code);have b:=rD s x.code;refine⟨?_,?_⟩
  ·show(bV t (s.goes x.code)).1.mu<=_
   rw[aM];omega
  show(bV t (s.goes x.code)).2.length+1=_
  rw[a.2];rfl
theorem O9(o:Nat)(l:List PS)(s:Mk):(kR o l s).mu<=s.mu+5*l.length+2:=by
 unfold kR;have b:=(rE o (l.length+1) (bV l (s.put [bc 32 16 0 0])).2 (bV l (s.put [bc 32 16 0 0])).1).1;have a:=vU l (s.put [bc 32 16 0 0]);rw[ij]at a;rw[a.2]at b;simp only[aM,bD]at a;omega
def dX.cost(C:Nat):dX->Nat
 | .rules _ l=>(8*C+4)*l.length+1
 | .subs _ l=>5*l.length+2
def dX.Few(C:Nat):dX->Prop
 | .rules _ l=>∀r∈l,r.conds.length<=C
 | .subs _ _=>True
theorem Pa(wide:Bool)(o C:Nat)(x:dX)(s:Mk)(h:x.Few C):(x.Sw wide o s).mu<=s.mu+x.cost C:=by
 cases x with
 |rules n l=>exact Ec wide o C l s h
 |subs n l=>exact O9 o l s
theorem Ed:∀(l:List dX) (s:Mk),(cM l s).1.mu=s.mu+l.length
 |[],s=>rfl
 |x::t,s=>by
  show(cM t s.mark).1.mu=_
  rw[Ed t,rC,aM];omega
theorem Qg(wide:Bool)(o C:Nat):∀(l:List (dX×Nat)) (s:Mk),(∀x∈l,x.1.Few C)->(F6 wide o l s).mu<=s.mu+(l.map fun x=>1+x.1.cost C).sum
 |[],s,_=>by simp[F6]
 |x::t,s,h=>by
  have c:=Qg wide o C t (x.1.Sw wide o (s.put [du x.2])) fun y b=>h y (by simp[b])
  have a:=Pa wide o C x.1 (s.put [du x.2]) (h x (by simp));rw[ij]at a;simp only[aJ,gC,aM,bD]at c a⊢;show(F6 wide o t _).mu<=_
  omega
structure Qu(pl:Pl):Prop where
 entries:∀a,a<5->(pl.entries.getD a []).length<=40/\((pl.entries.getD a []).map fun e=>e.rules.length).sum<=40
 subs:∀m,m<2->(pl.subs.getD m []).length<=40
 conds:∀a,a<5->∀e∈pl.entries.getD a [],∀r∈e.rules,r.conds.length<=12
theorem vV(g:dX->Nat):∀(l:List dX) (m:List Nat),m.length=l.length->((l.zip m).map fun x=>g x.1).sum=(l.map g).sum
 |[],_,_=>rfl
 |x::t,[],h=>by simp at h
 |x::t,y::m,h=>by
  simp only[Sg,aJ,gC];rw[vV g t m (by simpa using h)]
theorem JB(A B:Nat):∀l:List PE,(l.map fun e=>A*e.rules.length+B).sum=A*(l.map fun e=>e.rules.length).sum+B*l.length
 |[]=>by simp
 |e::t=>by
  simp only[aJ,gC,aM,JB A B t,Nat.mul_add,Mw];omega
theorem qx{pl:Pl}(h:Qu pl){a:Nat}(f:a<5)(s:Mk):(fA pl a s).mu<=s.mu+5000:=by
 have b:(cH pl a).Perm (dM pl a):=gK _ _;have c:∀x∈dM pl a,x.Few 12:=fun x hx=>by
  unfold dM at hx;rcases bT.1 hx with hx|hx
  ·obtain⟨e,n,rfl⟩:=bt.1 hx;exact h.conds a f e n
  split at hx
  ·simp only[aP,bQ,eW]at hx;rcases hx with rfl|rfl<;>trivial
  cases hx
 have i:((dM pl a).map fun x=>1+x.cost 12).sum<=4600:=by
  unfold dM;rw[ew,Sb,cT];have e1:((pl.entries.getD a []).map ((fun x:dX=>1+x.cost 12)∘fun e=>dX.rules e.number e.rules))=(pl.entries.getD a []).map fun e=>100*e.rules.length+2:=by
   apply fN
   intro e _;show 1+((8*12+4)*e.rules.length+1)=_
   omega
  rw[e1,JB];have m:=h.entries a f;have o:=h.subs 0 (by omega);have q:=h.subs 1 (by omega);have e2:((if a=2 then[dX.subs 102 (pl.subs.getD 0 []),dX.subs 117 (pl.subs.getD 1 [])]else[]).map fun x=>1+x.cost 12).sum<=406:=by
   split
   ·simp only[aJ,a8,gC,List.sum_nil,dX.cost];omega
   simp
  omega
 have j:(dM pl a).length<=42:=by
  have m:=(h.entries a f).1;unfold dM;rw[bw,bu];split
  ·simp only[aM,bD];omega
  simp only[bD];omega
 unfold fA;have d:=Qg (decide (a≠2)) (s.to pl.dflt) 12 ((cH pl a).zip ((cM (cH pl a) (s.goes pl.dflt)).2.map (·.2)))
  (cW (s.to pl.dflt) ((cH pl a).length+1) (cM (cH pl a) (s.goes pl.dflt)).2 (cM (cH pl a) (s.goes pl.dflt)).1)
  (fun x hx=>c x.1 (nh.1 (mA (show(x.1,x.2)∈_ from hx)).1))
 rw[vV (fun x=>1+x.cost 12) _ _ (by rw[bu,mY]),(b.map fun x=>1+x.cost 12).sum_nat]at d;have k:=(rE (s.to pl.dflt) ((cH pl a).length+1) (cM (cH pl a) (s.goes pl.dflt)).2 (cM (cH pl a) (s.goes pl.dflt)).1).1;rw[mY,Ed]at k;have g:=rD s pl.dflt;have e:=b.length_eq;omega
theorem Qv{pl:Pl}(h:Qu pl){a:Nat}(j:a<5)(m:Nat)(s:Mk):(gM pl a m s).mu<=s.mu+10010:=by
 unfold gM;simp only;split
 ·unfold nP;simp only;generalize e:(s.put [du m]).put [bc 32 0 0 0]=d;have e1:d.mu=s.mu+2:=by rw[<-e,ij,ij];rfl
  generalize f:(d.goes pl.dflt).put [bc 21 4294967295 (d.to pl.dflt) 0]=b;have e2:b.mu<=d.mu+2:=by rw[<-f,ij];have:=rD d pl.dflt;simp only[aM,bD];omega
  split
  ·have c:=qx h (a:=0) (by omega) ((b.goes 2147483648).put [bc 69 1073741824 (b.to 2147483648) 0]);rw[ij]at c;have:=rD b 2147483648;simp only[aM,bD]at c;omega
  have i:=qx h (a:=1) (by omega) ((fA pl 0 (b.mark.put [bc 69 1073741824 (b.marks+1) 0])).put [du (b.marks+1)]);have g:=qx h (a:=0) (by omega) (b.mark.put [bc 69 1073741824 (b.marks+1) 0]);rw[ij]at i;rw[ij,rC]at g;simp only[aM,bD]at g i;omega
 have c:=qx h j ((s.put [du m]).put [bc 32 0 0 0]);rw[ij,ij]at c;simp only[aM,bD]at c;omega
theorem Cy{pl:Pl}(h:Qu pl){a:Nat}(b:a<5)(d:a≠0)(m:Nat)(s:Mk):(gM pl a m s).mu<=s.mu+5002:=by
 unfold gM;simp only;rw[af d];have c:=qx h b ((s.put [du m]).put [bc 32 0 0 0]);rw[ij,ij]at c;simp only[aM,bD]at c;omega
theorem Cz{pl:Pl}(h:Qu pl):(jI pl).mu<=25100:=by
 rw[D5];have c:=Cy h (a:=4) (by omega) (by omega) 4 (gM pl 3 3 (gM pl 2 2 (gM pl 0 1 xg)));have g:=Cy h (a:=3) (by omega) (by omega) 3 (gM pl 2 2 (gM pl 0 1 xg));have b:=Cy h (a:=2) (by omega) (by omega) 2 (gM pl 0 1 xg);have d:=Qv h (a:=0) (by omega) 1 xg;have f:xg.mu<=Jw.mu+2:=by
  unfold xg;rw[ij];have:=rD Jw 2147483648;simp only[aM,bD];omega
 have e:Jw.mu=9:=rfl;omega
end
end Go.Proofs.YtfammloeljmplaaGreatDoor
