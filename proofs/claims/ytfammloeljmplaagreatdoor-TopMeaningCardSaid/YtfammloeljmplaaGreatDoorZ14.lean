/- The contract of asm's form; conditions: each lemma's own. -/
import Derived.Test.YtfammloeljmplaaGreatDoorZ4
open Go.Value renaming int->TY,slice->T0,bool->T2
open Go.IntKind renaming i64->T6,u32->T7,u16->T9
open Go.Obj renaming cells->Ua
open Go renaming World->Ub,Value->Uc
namespace Go.Proofs.YtfammloeljmplaaGreatDoor
open Go.Proofs.Tryz
set_option maxRecDepth 100000
set_option maxHeartbeats 8000000
set_option linter.unusedVariables false
set_option linter.unusedSimpArgs false
section
open Go.RowKit
def pY(l:List It)(m:Nat):List (Int×Uc):=(((l.drop m).reverse).filter fun x=>decide (x.mark≠0)).map fun x=>(x.mark,T2 true)
def pZ(l:List It)(m:Nat)(q:Int):Bool:=(l.drop m).any fun x=>decide (x.mark≠0)&&decide (x.mark=q)
theorem I1(l:List It)(m:Nat)(h:m<l.length):l.drop m=l.getD m default::l.drop (m+1):=by
 rw[dm h];simp[h]
theorem I2(l:List It)(m:Nat)(h:m<l.length):pY l m=if(l.getD m default).mark≠0 then pY l (m+1)++[((l.getD m default).mark,T2 true)]else pY l (m+1):=by
 unfold pY;rw[I1 l m h,List.reverse_cons,r7,ew];by_cases e:(l.getD m default).mark≠0
 ·rw[aj e];simp only[fe,aV,aj e];rfl
 rw[af e];simp only[fe,aV,af e];simp
theorem Mc(l:List It)(m:Nat)(q:Int):IntMaps.look (pY l m) q=if pZ l m q=true then some (T2 true)else none:=by
 have key:∀L:List It,IntMaps.look ((L.filter fun x=>decide (x.mark≠0)).map fun x=>(x.mark,Value.bool true)) q=if(L.any fun x=>decide (x.mark≠0)&&decide (x.mark=q))=true then some (T2 true)else none:=by
  intro L;induction L with
  |nil=>rfl
  |cons x L ih=>
   by_cases e:x.mark≠0
   ·rw[fe,aj (by simpa using e),aJ];unfold IntMaps.look at ih⊢;rw[cG];by_cases e2:x.mark=q
    ·subst e2;simp[e]
    have:(x.mark==q)=false:=by simpa using e2
    simp only[this];rw[ih];simp[e2]
   rw[fe,af (by simpa using e),ih];simp[e]
 unfold pY pZ;rw[key,List.any_reverse]
theorem oW(l:List It)(m:Nat)(q:Int)(c:q≠0):pZ l m q=true↔MN l m q:=by
 unfold pZ MN;rw[vE];constructor
 ·rintro⟨x,e,h⟩;obtain⟨j,a,rfl⟩:=RZ.1 e;simp only[bG,aV]at h;rw[dt]at a;refine⟨m+j,by omega,by omega,?_⟩;have:l.getD (m+j) default=(l.drop m)[j]'(by rw[dt];exact a):=by simp[show m+j<l.length by omega]
  rw[this];exact h.2
 rintro⟨j,f,d,b⟩;have:l.getD j default=l[j]:=by simp[d]
 rw[this]at b;refine⟨l[j],?_,by simp[b,c]⟩;rw[RZ];exact⟨j - m,by rw[dt];omega,by simp[show m+(j - m)=j by omega]⟩
theorem OH{l:List It}{k:Nat}(h:(l.getD k default).mark≠0):Gr l k↔(0<(l.getD k default).mark/\pZ l (k+1) (l.getD k default).mark=false/\(l.getD k default).code=0/\(l.getD k default).k=0/\(l.getD k default).tr=0/\(l.getD k default).fa=0):=by
 unfold Gr;rw[aj h,<-oW l (k+1) _ h];simp
theorem PX{l:List It}{k:Nat}(h:¬(l.getD k default).mark≠0):Gr l k↔((l.getD k default).kd≠0/\((l.getD k default).tr≠0->((l.getD k default).kd=13\/25<=(l.getD k default).kd)/\pZ l (k+1) (l.getD k default).tr=true)/\
  ((l.getD k default).fa≠0->25<=(l.getD k default).kd/\pZ l (k+1) (l.getD k default).fa=true)):=by
 unfold Gr;rw[af h];constructor
 ·rintro⟨a,b,c⟩;exact⟨a,fun e=>⟨(b e).1,(oW _ _ _ e).2 (b e).2⟩,fun e=>⟨(c e).1,(oW _ _ _ e).2 (c e).2⟩⟩
 rintro⟨a,b,c⟩;exact⟨a,fun e=>⟨(b e).1,(oW _ _ _ e).1 (b e).2⟩,fun e=>⟨(c e).1,(oW _ _ _ e).1 (c e).2⟩⟩
theorem wI(l:List It)(an:∀x∈l,x.Ok)(A:Option Addr)(n c:Nat)(w:Ub)(hr:bh w w.heap.size 5 A n (dq l))(hn:n<=1000000):
  Calls prog 53 #[T0 A n c] w (Rp (fZ l) w):=by
 have hl:n=l.length:=by have:=hr.1;rw[jr]at this;omega
 have HL:=Lib.hid hl;clear hl;have cm:=@run_makeMap (prog);go_enter func53,ntmps53;go_wp2_with fail;have bm:ep (w.alloc (.map #[] 0)) w.heap.size (pY l n):=by
  have e:pY l n=[]:=by unfold pY;rw[kj (by have:=HL.out;omega)];rfl
  rw[e];exact ep.new w
 have bs:Below w.heap.size w (w.alloc (.map #[] 0)):=(aw _ w).alloc (ae _) _;generalize w.alloc (.map _ 0)=w0 at*;go_loopw [4] (fun i wr=>∃m:Nat,m<=n/\i=TY T6 ((m:Int) - 1)/\(∀p,m<=p->p<n->Gr l p)/\ep wr w.heap.size (pY l m)/\Below w.heap.size w wr) (fun i _=>(intOf i+1).toNat)
 case atStart=>exact⟨n,by omega,rfl,fun p hp a9=>by omega,bm,bs⟩
 case round=>
  obtain⟨m,hm,rfl,hA,hM,v⟩:=hrel;rcases m with _|k
  ·rw[show(((0:Nat):Int) - 1)=(-1:Int) from rfl];have R:AO l->fZ l:=fun h=>(xH l).1 ⟨fun i hi=>hA i (by omega) (by have:=HL.out;omega),h⟩
   have S:fZ l->AO l:=fun h=>h.2
   obtain⟨a0,L⟩:=aA R S;clear R S hA hM hm;obtain⟨k,rfl⟩:∃k,k=n:=⟨n,rfl⟩;rcases fG k with h0|h0
   ·subst h0;have G:¬fZ l:=fun h=>(L.out h).1 (cI HL.out.symm)
    have HN:=Lib.hid G;clear G;go_wp2_with fail;go_ret;exact rN HN.out v
   obtain⟨b,bp,rfl,hb,hc⟩:=(hr.below v).TB (k:=k - 1) (by omega);obtain⟨g0,g1,g2,g3,g4⟩:=hc (k - 1) (by omega);have C:k - 1<l.length:=by have:=HL.out;omega
   have s:=oM an C;have f:AO l↔(l.getD (k - 1) default).mark=0/\fH (l.getD (k - 1) default).kd:=by
    unfold AO;rw[<-HL.out];exact⟨fun h=>h.2,fun h=>⟨fun e=>by rw[e]at C;simp at C,h⟩⟩
   have t:=fun W=>yz (l.getD (k - 1) default).code s.2.1 W
   have J:(l.getD (k - 1) default).kd=(oy (l.getD (k - 1) default).code).1:=rfl;rw[J]at f;unfold fH at f;obtain⟨j,rfl⟩:∃j,k=j+1:=⟨k - 1,by omega⟩;rw[F5]at*;generalize hx:l.getD j default=x at*;generalize (oy x.code).1=d at*;generalize (oy x.code).2=xx at*;obtain⟨HC,a⟩:=aA t f;clear hx t f J hc hr;obtain⟨xm,xc,xk,O,V⟩:=x;simp only at*;clear s;by_cases hm:xm=0
   ·subst hm;go_wp2_with (go_at_call 105;refine(HC.out _).mono ?_;rintro e U ⟨rfl,B⟩;have y:=v.trans (B.mono v.size));all_goals
     go_ret;refine⟨_,rfl,?_,y⟩;have Z:fZ l↔(d=14\/d=15):=⟨fun h=>(a.out.1 (L.out h)).2,fun h=>a0.out (a.out.2 ⟨by trivial,h⟩)⟩;rw[Z];simp;try omega
   have G:¬fZ l:=fun h=>by
    have:=a.out.1 (L.out h);exact hm this.1
   have HN:=Lib.hid G;have q0:(xm != 0)=true:=by simpa using hm
   clear G;go_wp2_with fail;go_ret;exact rN HN.out v
  rw[show(((k+1:Nat):Int) - 1)=(k:Int) from by omega];have ar:k<n:=by omega
  obtain⟨b,bp,rfl,hb,hc⟩:=(hr.below v).TB ar;obtain⟨h0,h1,h2,h3,h4⟩:=hc k ar;have z0:(0:Int)<=(k:Int):=by omega
  have z1:(k:Int)<(n:Int):=by omega
  have C:k<l.length:=by have:=HL.out;omega
  have s:=oM an C;have T:¬Gr l k->¬fZ l:=fun h hF=>h ((xH l).2 hF |>.1 k C)
  have M:Gr l k->∀p,k<=p->p<n->Gr l p:=fun h p hp a9=>by
   by_cases e:p=k
   ·subst e;exact h
   exact hA p (by omega) a9
  have o:=I2 l k C;have z:=Mc l (k+1);have cb:b<wr.heap.size:=by have:=v.size;omega
  have al:∀(q:Int) (W:Ub),-9223372036854775808<=q/\q<=9223372036854775807->ep W w.heap.size (pY l (k+1))->(Instr.lookup 223 (.map (some w.heap.size)) (TY T6 q) false).run prog W=.ok (T2 (pZ l (k+1) q)) W:=fun q W hq h=>by
   rw[gy h 223 3 4 underlying223 underlying3 q (T2 false) (WalkArith.wf_i64 hq) (by kernel_rfl),z];cases pZ l (k+1) q<;>rfl
  obtain⟨D,H,ad⟩:=aC T M al;clear hc T M hA al;by_cases E:(l.getD k default).mark≠0
  ·have u:=OH E;rw[aj E]at o;have X:=z (l.getD k default).mark;generalize hx:l.getD k default=x at*;have q0:(x.mark != 0)=true:=by simpa using E
   have bR:=ad.out x.mark (wr.alloc (Ua #[TY T6 x.mark,TY T9 x.code,TY T7 x.k,TY T6 x.tr,TY T6 x.fa] 129)) s.1 (hM.alloc _);generalize hy:pZ l (k+1) x.mark=r at*;obtain⟨HY,a,a7,ag⟩:=aB hy u X o;clear hx u hy X o z;obtain⟨xm,xc,xk,O,V⟩:=x;have bq:(Lit.int T6 xm).wf=true:=WalkArith.wf_i64 s.1;obtain⟨_,o1,o2,_⟩:=s;simp only at*;cases r with
   |true=>
    go_wp2_with fail;all_goals
     go_ret;refine rN (D.out (fun h=>?_)) (v.alloc v.size _);obtain⟨a1,a2,a3,a4,a5,a6⟩:=a.out.1 h;cases a2
   |false=>
    have F:IntMaps.look (pY l (k+1)) xm=none:=by rw[a7.out];rfl
    have bl:=Lib.hid F;clear F;go_wp2_with (at_mapUpdate;refine qC rfl 223 (.tmp 44) (.tmp 46) (.const (T2 true)) rfl 3 4 underlying223 underlying3 w.heap.size _ xm _ rfl rfl rfl (hM.alloc _) bq bl.out ?_;intro W2 bx bv);all_goals first
     |(go_roundw
       case rel=>
        refine⟨k,by omega,rfl,H.out (a.out.2 ⟨by omega,rfl,by omega,by omega,by omega,by omega⟩),by rw[ag.out];exact bx,(v.alloc v.size _).grown bv (by have:=v.size;simp;omega) (fun g e=>by cases e;exact ae _)⟩
       case measure=>simp[intOf]<;>omega)
     |(go_ret
       refine rN (D.out (fun h=>?_)) (v.alloc v.size _);obtain⟨a1,a2,a3,a4,a5,a6⟩:=a.out.1 h;first|omega|(simp_all;done)|(simp_all;omega))
  have u:=PX E;have Y:(l.getD k default).mark=0:=by omega
  rw[af E]at o;have t:=fun W=>yz (l.getD k default).code s.2.1 W
  have J:(l.getD k default).kd=(oy (l.getD k default).code).1:=rfl;have b9:=Gy (l.getD k default).code;rw[J]at u;rw[Y]at h0;generalize hx:l.getD k default=x at*;generalize (oy x.code).1=d at*;generalize (oy x.code).2=xx at*;generalize ak:pZ l (k+1) x.tr=rt at*;generalize ba:pZ l (k+1) x.fa=rf at*;obtain⟨bo,bB,a,HC,ag⟩:=aG ak ba u t o;clear hx u ak ba t J Y E o z;obtain⟨xm,xc,xk,O,V⟩:=x;obtain⟨_,o1,o2,o3,o4⟩:=s;obtain⟨O3,O4⟩:=aA o3 o4;simp only at*;clear o3 o4;by_cases hd:d=0
  ·subst hd;go_wp2_with (go_at_call 105;refine(HC.out _).mono ?_;rintro e U ⟨rfl,B⟩;have y:=(v.alloc v.size _).trans (B.mono (by have:=v.size;simp;omega));have b1:=(bK.new wr 129 #[TY T6 0,TY T9 xc,TY T7 xk,TY T6 O,TY T6 V]).below B (by simp);have k3:U.cell? ⟨wr.heap.size,3,none⟩=some (TY T6 O):=(by rw[b1.cell];rfl);have k4:U.cell? ⟨wr.heap.size,4,none⟩=some (TY T6 V):=(by rw[b1.cell];rfl);clear b1);go_ret;refine rN (D.out (fun h=>?_)) y;exact(a.out.1 h).1 rfl
  have b4:(d != 0)=true:=by simpa using hd
  go_wp2_with (go_at_call 105;refine(HC.out _).mono ?_;rintro e U ⟨rfl,B⟩;have y:=(v.alloc v.size _).trans (B.mono (by have:=v.size;simp;omega));have b1:=(bK.new wr 129 #[TY T6 0,TY T9 xc,TY T7 xk,TY T6 O,TY T6 V]).below B (by simp);have k3:U.cell? ⟨wr.heap.size,3,none⟩=some (TY T6 O):=(by rw[b1.cell];rfl);have k4:U.cell? ⟨wr.heap.size,4,none⟩=some (TY T6 V):=(by rw[b1.cell];rfl);clear b1;have N:=(hM.alloc (Ua #[TY T6 0,TY T9 xc,TY T7 xk,TY T6 O,TY T6 V] 129)).below B (by have:=hM.lt;simp;omega);have lt:=ad.out O U O3.out N;have lf:=ad.out V U O4.out N;rw[bo.out]at lt;rw[bB.out]at lf;have bA:=Lib.hid N;clear N)
  all_goals(try simp only[bne_iff_ne,ne_eq,bne_eq_false_iff_eq,fm,Bool.not_eq_false',aV,dh,Bool.not_eq_true]at*)
  all_goals first
   |(go_roundw
     case rel=>
      refine⟨k,by omega,rfl,H.out (a.out.2 ?_),by rw[ag.out];exact bA.out,y⟩;refine⟨by omega,fun h=>⟨by omega,by first|assumption|omega|simp_all⟩,fun h=>⟨by omega,by first|assumption|omega|simp_all⟩⟩
     case measure=>simp[intOf]<;>omega)
   |(go_ret
     refine rN (D.out (fun h=>?_)) y;obtain⟨a1,a2,a3⟩:=a.out.1 h;have b3:=fun e=>(a2 e).1
     have ca:=fun e=>(a3 e).1
     first|omega|(simp_all;done))
end
end Go.Proofs.YtfammloeljmplaaGreatDoor
