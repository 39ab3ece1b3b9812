/- Contracts of norm, valid and puts; conditions: each lemma's own. -/
import Derived.Test.YtfammloeljmplaaGreatDoorZ37
open Go.Value renaming int->TY,pointer->TZ,slice->T0,agg->T1,bool->T2,tuple->T4
open Go.IntKind renaming i64->T6,u32->T7
open Go.Obj renaming cells->Ua
open Go renaming World->Ub,Value->Uc
namespace Go.Proofs.YtfammloeljmplaaGreatDoor
open Go.Proofs.Tryz
set_option maxRecDepth 100000
set_option maxHeartbeats 8000000
set_option linter.unusedVariables false
set_option linter.unusedSimpArgs false
section
open Go.RowKit Go.Maps Go.Shelf
theorem Px{W:Ub}{r:Nat}{l:List (Int×Uc)}(h:GMap.Row W r (Value.int T6) l)(C:(l.map (·.1)).Nodup)(z:∀p∈l,(Lit.int T6 p.1).wf=true)(y:l.length<=1000000):
  ∃D:DataW Unit,W.ownsMap prog 3 mK r l.length D/\Maps.size D=l.length/\(intKeys D).Perm (l.map (·.1)):=by
 have A:prog.underlying 3=some (.int T6):=underlying3;have d:∀x∈(GMap.lit (Value.int T6) l).toList,∃(p:Int×Uc) (j:Nat),p∈l/\j<l.length/\x=⟨.int T6 p.1,p.2,j⟩:=fun x f=>by
  rw[GMap.lit_toList]at f;obtain⟨q,s,rfl⟩:=bt.1 f;obtain⟨⟨k,v⟩,j⟩:=q;have B:=Mp s;obtain⟨u,e1⟩:=B;exact⟨l[j],j,bj _,u,by unfold GMap.entry;simp only;rw[<-e1]⟩
 have c:(GMap.lit (Value.int T6) l).size=l.length:=by simp[GMap.lit]
 have o:Go.MapKept.Stamped (GMap.lit (Value.int T6) l) l.length:=by
  refine⟨fun x f=>?_,?_,?_⟩
  ·obtain⟨p,j,_,u,rfl⟩:=d x f;exact u
  ·rw[GMap.lit_toList,cT];have e:((fun x:MapEntry=>x.born)∘GMap.entry (Value.int T6))=fun p:(Int×Uc)×Nat=>p.2:=rfl
   rw[e,Dr];exact Jb
  rw[GMap.lit_toList,cT];have e:((fun x:MapEntry=>x.key)∘GMap.entry (Value.int T6))=Value.int T6∘(fun p:(Int×Uc)=>p.1)∘Prod.fst:=rfl;rw[e,<-cT,<-cT,l4];exact Jc _ (fun a b n e=>n (by injection e)) C
 have i:∀x∈(GMap.lit (Value.int T6) l).toList,∃p∈l,Go.WideElems.rd prog 3 mK x=some (.int T6 p.1,.lit (.bool true))/\x.key=.int T6 p.1:=fun x f=>by
  obtain⟨p,j,m,_,rfl⟩:=d x f;exact⟨p,m,(Go.WideElems.rd_mk (P:=prog) (k:=3) (R:=mK) (yv:=(.lit (.bool true),[])) (keyOf_int_mk A (z p m)) rfl),rfl⟩
 have g:Go.WideElems.Fit prog 3 mK (GMap.lit (Value.int T6) l) l.length:=by
  refine⟨by rw[c];simp only[maxLen];omega,o,fun x f=>?_⟩;obtain⟨p,m,e,_⟩:=i x f;exact⟨_,e⟩
 refine⟨_,⟨_,_,h,g,by rw[c];exact ae _,rfl⟩,?_,?_⟩
 ·rw[Maps.size_eq,Go.length_sorted,bu,dW,c]
 show((((GMap.lit (Value.int T6) l).toList.map (Go.WideElems.rg prog 3 mK)).foldr DataW.insert []).map fun p=>Go.intOf p.1).Perm _
 refine((Ql _).map _).trans ?_;rw[cT];have:(GMap.lit (Value.int T6) l).toList.map ((fun p:Lit×DataW Unit=>Go.intOf p.1)∘Go.WideElems.rg prog 3 mK)=l.map (·.1):=by
  rw[GMap.lit_toList,cT];have e2:∀q∈l.zipIdx,(((fun p:Lit×DataW Unit=>Go.intOf p.1)∘Go.WideElems.rg prog 3 mK)∘GMap.entry (Value.int T6)) q=((fun p:Int×Uc=>p.1)∘Prod.fst) q:=fun q s=>by
   obtain⟨p,m,e,t⟩:=i (GMap.entry (Value.int T6) q) (by rw[GMap.lit_toList];exact bt.2 ⟨q,s,rfl⟩);have:q.1.1=p.1:=by unfold GMap.entry at t;simp only at t;injection t
   simp only[Function.comp];rw[Go.WideElems.rg_of e,this];rfl
  rw[fN e2,<-cT,l4]
 rw[this]
theorem EV(m:Nat):AnyZI.SortsIn prog nG Fence.wide m:=
 ⟨fun c b cap e W f a d=>callsIn_wide.2 (AnyM.slices_Sort_int E8 c b cap e W f a d),
  fun p cap W=>callsIn_wide.2 (AnyM.slices_Sort_int_none E8 p cap W)⟩
theorem EW(j gm:Nat)(l:List (Int×Uc))(w:Ub)(m:j<w.heap.size)(x:w.cell? ⟨j,0,none⟩=some (.map (some gm)))(i:GMap.Row w gm (Value.int T6) l)(u:(l.map (·.1)).Nodup)(o:∀p∈l,(Lit.int T6 p.1).wf=true)(f:l.length<=1000000):
  Calls prog 46 #[.func (.func 99) #[] #[TZ (some ⟨j,0,none⟩)]] w fun e w'=>∃(A:Option Addr) (c:Nat) (k:List Int),e=.returned (T0 A k.length c)/\k=(l.map (·.1)).mergeSort leI/\fB w' 3 1 A k.length (k.map (Value.int T6))/\Below w.heap.size w w':=by
 obtain⟨D,d,g,a⟩:=Px i u o f;have b:=AnyZI.keys_gives (P:=prog) (ρ:=pz) {E4 with} Fence.wide 3 trivial rfl (by omega) j gm l.length D (R:=mK) w m x d;have t:=AnyZI.sorted_in (P:=prog) (ρ:=nG) Hw Fence.wide 6 trivial trivial trivial trivial rfl (by omega) (EV 5) (kA func98 (by kernel_rfl) rfl) 99 #[TZ (some ⟨j,0,none⟩)] trivial (kA func99 (by kernel_rfl) rfl) _ (Maps.size D) (by rw[g];simp only[maxLen];omega) (by rw[g];omega) w b;refine tG (callsIn_wide.1 t) ?_;rintro e w' ⟨v,n,rfl,q,r,_,y⟩;obtain⟨A,c,rfl,s⟩:=fB.Sp r;refine⟨A,c,n.mergeSort leI,by simp,mergeSort_of_perm_i (q.trans a),?_,y⟩;rw[kP];exact s
theorem Lm(a:Option Nat)(w:Ub):Calls prog 47 #[.map a] w fun e w'=>e=.returned (.func (.func 99) #[] #[TZ (some ⟨w.heap.size,0,none⟩)])/\w'=w.alloc (Ua #[.map a] 130):=
 callsIn_wide.1 (AnyZI.keys_in (P:=prog) (ρ:=pz) E4 Fence.wide 3 trivial rfl a w)
end
section
open Go.RowKit
structure RP(w0 W W':Ub)(Y d:Nat)(x32:Bool)(LE:Nat->List (PE×Uc))(LS:Nat->List PS)(entk:Nat->List PE)(subk:Nat->List PS):Prop where
 keep:jz Y W W'
 out:∃(ev':Nat->Uc) (LE':Nat->List (PE×Uc)) (sv':Nat->Uc) (LS':Nat->List PS),iF w0 W' ev' LE' sv' LS'/\bK W' Y 67 (jy d x32 ev' sv')/\(∀a,a<5->(LE' a).map (·.1)=(LE a).map (·.1)++entk a)/\(∀m,m<2->LS' m=LS m++subk m)
theorem vy{g d LE'':Nat->List (PE×Uc)}{c:Nat->List PE}{a:Nat}(h:∀b,b<5->(d b).map (·.1)=(g b).map (·.1)++(if b<a then c b else[]))(j:∀b,b≠a->LE'' b=d b)(i:(LE'' a).map (·.1)=(d a).map (·.1)++c a):∀b,b<5->(LE'' b).map (·.1)=(g b).map (·.1)++(if b<a+1 then c b else[]):=fun b f=>by
 by_cases e:b=a
 ·subst e;rw[i,h b f,af (by omega),aj (by omega),dL]
 rw[j b e,h b f];by_cases e2:b<a
 ·rw[aj e2,aj (by omega)]
 rw[af e2,af (by omega)]
theorem Oi(r:Rw)(h5:r.nums.length=5)(b6:∀a,a<5->r.nums.getD a (-1)<1073741824)(hf:0<=r.mux/\r.mux<=2)(g5:0<=r.sub/\r.sub<4294967296)(rules:List PR)(n:Nat)(hn:rules.length=n)(fy:0<n)(hl:n<=1000)(ed:∀x∈rules,x.conds.length<=1000)(dg:∀x∈rules,∀c∈x.conds,c.Ok)
  (d:Nat)(D:Bool)(pk pn:Int)(vr:Uc)(A:Option Addr)(c:Nat)(w0 W:Ub)(ev T:Nat->Uc)(LE:Nat->List (PE×Uc))(LS:Nat->List PS)(N Y:Nat)
  (X:iF w0 W ev LE T LS)(cm:bK W N 46 #[TY T6 pk,TY T6 pn,T2 D,vr])(J:bK W Y 67 (jy d D ev T))(er:w0.heap.size<=Y)(hr:qc W A rules)(fq:∀a,a<5->(LE a).length<=1000000)(fx:∀m,m<2->(LS m).length<=1000000):
  Calls prog 33 #[T1 r.vals.toArray,T0 A n c,TZ (some ⟨N,0,none⟩),TZ (some ⟨Y,0,none⟩)] W fun e w'=>e=.returned (T4 #[])/\RP w0 W w' Y d D LE LS (Ol r d D rules) (Om r rules):=by
 obtain⟨ie,hF,f5,fz,ei⟩:=cZ IE;obtain⟨is,hR,fu,hA,hj⟩:=cZ Oj;have cb:=fun a ha W' hr=>Oo a ha rules n hn hl ed dg d A c W' hr
 obtain⟨nm,nums,u,E⟩:=r;simp only at h5 b6 hf g5;obtain⟨a0,a1,a2,a3,a4,rfl⟩:∃a0 a1 a2 a3 a4,nums=[a0,a1,a2,a3,a4]:=by
  match nums,h5 with
  |[a0,a1,a2,a3,a4],_=>exact⟨a0,a1,a2,a3,a4,rfl⟩
 have ak:∀a,Ol ⟨nm,[a0,a1,a2,a3,a4],u,E⟩ d D rules a=if[a0,a1,a2,a3,a4].getD a (-1)<0\/(a=1/\D=false)then[]else if jZ a rules d=[]then[]else[⟨wholeN a ([a0,a1,a2,a3,a4].getD a (-1)).toNat,jZ a rules d⟩]:=fun _=>rfl
 have cx:∀m,Om ⟨nm,[a0,a1,a2,a3,a4],u,E⟩ rules m=if u=(m:Int)+1 then[⟨E.toNat,(rules.getD 0 default).code⟩]else[]:=fun _=>rfl
 generalize Ol ⟨nm,[a0,a1,a2,a3,a4],u,E⟩ d D rules=S at*;generalize Om ⟨nm,[a0,a1,a2,a3,a4],u,E⟩ rules=c6 at*;show Calls prog _ #[T1 #[.string nm,TY T6 a0,TY T6 a1,TY T6 a2,TY T6 a3,TY T6 a4,TY T6 u,TY T6 E],T0 A n c,TZ (some ⟨N,0,none⟩),TZ (some ⟨Y,0,none⟩)] W _
 have av:aS W (W.alloc (Ua #[.string nm,TY T6 a0,TY T6 a1,TY T6 a2,TY T6 a3,TY T6 a4,TY T6 u,TY T6 E] 82)):=(aS.refl W).alloc _;have bR:=bK.new W 82 #[.string nm,TY T6 a0,TY T6 a1,TY T6 a2,TY T6 a3,TY T6 a4,TY T6 u,TY T6 E];have i1:W.heap.size<=(W.alloc (Ua #[.string nm,TY T6 a0,TY T6 a1,TY T6 a2,TY T6 a3,TY T6 a4,TY T6 u,TY T6 E] 82)).heap.size:=av.size;have hp:=X.grows av;have hc:=cm.below av cm.lt;have eq:=J.below av J.lt;have gg:qc _ A rules:=hr.keep (aU.grows av) (aU.grows av);have gb:jz Y W _:=jz.grows av;have c7:∀a,a<5->(#[Value.string nm,TY T6 a0,TY T6 a1,TY T6 a2,TY T6 a3,TY T6 a4,TY T6 u,TY T6 E]:Array Uc)[1+a]? =some (TY T6 ([a0,a1,a2,a3,a4].getD a (-1))):=fun a ha=>by
  match a,ha with
  |0,_=>rfl
  |1,_=>rfl
  |2,_=>rfl
  |3,_=>rfl
  |4,_=>rfl
 have b1:(#[Value.string nm,TY T6 a0,TY T6 a1,TY T6 a2,TY T6 a3,TY T6 a4,TY T6 u,TY T6 E]:Array Uc)[6]? =some (TY T6 u):=rfl;have bW:(#[Value.string nm,TY T6 a0,TY T6 a1,TY T6 a2,TY T6 a3,TY T6 a4,TY T6 u,TY T6 E]:Array Uc)[7]? =some (TY T6 E):=rfl;have ih:W.heap.size≠Y:=fun e=>by have:=J.lt;omega
 clear X J;obtain⟨hU,HR,d9,U,cv,j2,BR,el,ll⟩:=ay cm hr cb ak cx av bR hp hc;obtain⟨ft,l6,ga,e0,ca,cg,f4,f6,aE⟩:=ay eq gg gb c7 b1 bW b6 er fq;obtain⟨hL,lC,kp,HN⟩:=aB fx ed dg hn;clear cm hr cb ak cx av bR hp hc eq gg gb c7 b1 bW b6 er fq fx ed dg hn;go_enter func33,ntmps33;go_wp2_with fail;generalize lw:(#[Value.string nm,TY T6 a0,TY T6 a1,TY T6 a2,TY T6 a3,TY T6 a4,TY T6 u,TY T6 E]:Array Uc)=rc at*;generalize km:[a0,a1,a2,a3,a4]=nums at*;have i4:=W.heap.size;go_loopw [9] (fun s9 wr=>∃(l:Nat) (p:Nat->Uc) (s:Nat->List (PE×Uc)),s9=TY T6 l/\l<=5/\iF w0 wr p s T LS/\bK wr Y 67 (jy d D p T)/\(∀b,b<5->(s b).map (·.1)=(LE b).map (·.1)++(if b<l then S b else[]))/\jz Y W wr/\bK wr W.heap.size 82 rc/\W.heap.size<wr.heap.size)
  (fun s9 _=>5 - (intOf s9).toNat)
 case atStart=>exact⟨0,ev,LE,rfl,by omega,el.out,ft.out,fun b hb=>by simp,ga.out,BR.out,by simp⟩
 case round=>
  obtain⟨l,p,s,rfl,ha,X,J,a7,M,C,cl⟩:=hrel;clear el ft ga BR;by_cases F:l<5
  ·have lc:(l:Int)<5:=by omega
   obtain⟨nv,ci⟩:∃nv,nums.getD l (-1)=nv:=⟨_,rfl⟩;have b5:=(C.cell (1+l)).trans (e0.out l F);rw[ci]at b5;have ak:=U.out l;have h8:nv<1073741824:=by rw[<-ci];exact f4.out l F
   rw[ci]at ak;have eg:bK wr N 46 #[TY T6 pk,TY T6 pn,T2 D,vr]:=M.p.pol _ _ _ hU.out;have e9:=eg.cell 2;simp only[ao]at e9;have bS:S l=[]->∃(a':Nat) (p:Nat->Uc) (s:Nat->List (PE×Uc)),l+1=a'/\a'<=5/\iF w0 wr p s T LS/\bK wr Y 67 (jy d D p T)/\(∀b,b<5->(s b).map (·.1)=(LE b).map (·.1)++(if b<a' then S b else[]))/\jz Y W wr/\bK wr W.heap.size 82 rc/\W.heap.size<wr.heap.size:=fun H=>
    ⟨l+1,p,s,rfl,by omega,X,J,vy a7 (fun _ _=>rfl) (by rw[H,dL]),M,C,cl⟩
   clear ci;obtain⟨HO,HY,a6,HK,L,hM,O,U⟩:=aD X J a7 M C eg bS ak;clear X J a7 M C eg bS ak;iterate 48 go_step
   go_cut [] from 16 to 26 (fun wx=>0<=nv/\¬(nv<0\/(l=1/\D=false))/\wx=wr)
   case first=>
    by_cases b0:nv<0
    ·have H:S l=[]:=by rw[U.out,aj (Or.inl b0)]
     have hrel:=O.out H;clear O U H;have bs:=Lib.hid hrel;clear hrel;go_wp2_with fail;go_roundw;case rel=>
      obtain⟨a',p,s,rfl,h⟩:=bs.out;exact⟨l+1,p,s,by go_num,h⟩
     case measure=>simp[intOf];omega
    have ar:0<=nv:=by omega
    by_cases bq:l=1
    ·have e1:((l:Int)==1)=true:=by simp[bq]
     cases D with
     |false=>
      have H:S l=[]:=by rw[U.out,aj (Or.inr ⟨bq,rfl⟩)]
      have hrel:=O.out H;clear O U H bq;have bs:=Lib.hid hrel;clear hrel;go_wp2_with fail;go_roundw;case rel=>
       obtain⟨a',p,s,rfl,h⟩:=bs.out;exact⟨l+1,p,s,by go_num,h⟩
      case measure=>simp[intOf];omega
     |true=>
      clear bq;go_wp2_with fail;go_meet;exact⟨ar,by simp;exact ar,rfl⟩
    have e1:((l:Int)==1)=false:=by simp;omega
    go_wp2_with fail;go_meet
    exact⟨ar,by simp[bq];exact ar,rfl⟩
   case rest=>
    obtain⟨b0,hq,rfl⟩:=hcut;have H:S l=if jZ l rules d=[]then[]else[⟨wholeN l nv.toNat,jZ l rules d⟩]:=by rw[U.out,af hq]
    obtain⟨m,rfl⟩:∃m:Nat,nv=(m:Nat):=⟨nv.toNat,by omega⟩;have ic:m<1073741824:=by omega
    rw[dI]at H;clear U hq b0 h8;have hs:=d9.out l F wc (HR.out.keep HK.out.p.cond HK.out.p.rule);have d6:=(HY.out.cell 0);unfold jy at d6;simp only[ao]at d6;generalize jZ l rules d=sn at*;obtain⟨be,HS⟩:=aA H hs;clear H hs;go_wp2_with fail;refine HS.out.mono ?_;rintro e w2 ⟨A2,c2,rfl,cp,gr⟩;have bm:aS wc w2:=gr;have X:=HO.out.grows bm;have J:=HY.out.below bm HY.out.lt;have C:=L.out.below bm L.out.lt;have M:=HK.out.trans (jz.grows bm);have cl:W.heap.size<w2.heap.size:=bn cl bm.size;clear HO HY L HK bm gr HS b5 e9 d6 hM;cases sn with
    |nil=>
     have ad:=vy a6.out (LE'':=s) (fun _ _=>rfl) (by rw[be.out,aj rfl,dL]);clear O be a6;obtain⟨HO,HY,L,HK,dl,aE⟩:=aF X J C M cp ad;clear X J C M cp ad;go_wp2_with fail;go_roundw;case rel=>exact⟨l+1,p,s,by go_num,by omega,HO.out,HY.out,aE.out,HK.out,L.out,cl⟩
     case measure=>simp[intOf];omega
    |cons y sn=>
     have H:S l=[⟨wholeN l m,y::sn⟩]:=by rw[be.out,af (by simp)]
     have b4:=X.ents l F;have hN:(s l).length<=1000000:=by
      have h1:=eQ List.length (a6.out l F);rw[af (by omega)]at h1;simp only[dL,bu]at h1;rw[h1];exact aE.out l F
     have hQ:w2.cell? ⟨Y,2+l,none⟩=some (p l):=(J.cell (2+l)).trans (rO d D p T l F);have l1:=J.lt;have i8:(0:Int)<((y::sn).length:Nat):=by simp
     generalize (y::sn)=sn at*;generalize hi:sn.length=sl at*;clear O be;obtain⟨HO,HY,L,HK,dl,be,bx,io⟩:=aD X J C M cp H b4 hi;clear X J C M cp H b4 hi;generalize hz:w2.heap.size=z at*;generalize ia:wholeN l m=wh at*;have d7:=fun W=>LZ l m ic W
     rw[ia]at d7;have gt:IntKind.u32.wrap ((m:Nat):Int)=(m:Nat):=by rw[IntKind.wrap_u32];omega
     have c0:∀w',nN z w2.drew w'->w'.cell? ⟨Y,2+l,none⟩=some (p l):=fun w' h=>(bK.cell (h.plan _ _ _ HY.out) (2+l)).trans (rO d D p T l F)
     have o:=fun i d1 h1 h2=>Mr.next (P:=fun v w=>iF w0 w (mi p l v) (mi s l (s l++[(⟨wh,sn⟩,T0 A2 sl c2)])) T LS) (Q:=fun w=>iF w0 w p s T LS) (i0:=12) (d0:=47) i d1 h1 h2
     clear hQ;obtain⟨hd,b8,HZ⟩:=aC d7 c0 hz;clear d7 c0 hz;go_wp2_with fail;refine StQ.wp_region_st 15 eL (nN z) (bP z) (StQ.kdS [(35,.eq (TY T6 l)),(36,.eq (TY T6 l)),(37,.eq (TZ (some ⟨Y,2,none⟩))),(38,.eq (TZ (some ⟨Y,2+l,none⟩))),(39,.eq (p l)),(40,.eq (TY T6 l)),(41,.eq (TY T6 m)),(42,.eq (TY T7 m)),(43,.eq (TY T7 wh)),(44,.eq (T0 A2 sl c2)),(45,.eq (T1 #[TY T7 wh,T0 A2 sl c2])),(46,KdR.TL z 109 #[TY T7 wh,T0 A2 sl c2]),(47,KdR.anyE z),(48,.eq (TZ (some ⟨Y,2,none⟩))),(49,.eq (TZ (some ⟨Y,2+l,none⟩)))])
      (fun _ _ _ _ _ h1 h2=>StQ.kdS_mono h1 h2) (Mr (fun v w=>iF w0 w (mi p l v) (mi s l (s l++[(⟨wh,sn⟩,T0 A2 sl c2)])) T LS) (fun w=>iF w0 w p s T LS) 12 47) ⟨by rw[af (by decide)];exact HO.out.grows (aS.refl w2).drew⟩ [35,36,37,38,39,40,41,42,43,44,45,46,47,48,49] [35,36,37,38,39,40,41,42,43,44,45,46,47,48,49] (by kernel_rfl) (by kernel_rfl) (by kernel_rfl) (by kernel_rfl) (by kernel_rfl) (by decide) ⟨?_,?_,?_,?_,?_,?_,?_,?_,?_,?_,?_,?_,?_,?_,?_,trivial⟩ ?_
     ·exact StQ.st_eqk (bP z) 35 _ rfl rfl rfl (o 0 35 (by decide) (by decide)) (fun f a w h=>by have e6:a.eval (.tmp 6)=_:=h.was 6 (by decide) rfl;unfold execOp;simp only[e6];first|(simp[go_sem];done)|(simp[go_sem];omega)|(simp[go_sem, *];done))
     ·exact StQ.st_eqk (bP z) 36 _ rfl rfl rfl (o 1 36 (by decide) (by decide)) (fun f a w h=>by have e6:a.eval (.tmp 6)=_:=h.was 6 (by decide) rfl;unfold execOp;simp only[e6];first|(simp[go_sem];done)|(simp[go_sem];omega)|(simp[go_sem, *];done))
     ·exact StQ.st_eqk (bP z) 37 _ rfl rfl rfl (o 2 37 (by decide) (by decide)) (fun f a w h=>by have e3:a.eval (.tmp 3)=_:=h.was 3 (by decide) rfl;unfold execOp;simp only[e3];first|(simp[go_sem];done)|(simp[go_sem];omega)|(simp[go_sem, *];done))
     ·exact StQ.st_eqk (bP z) 38 _ rfl rfl rfl (o 3 38 (by decide) (by decide)) (fun f a w h=>by have f8:a.eval (.tmp 37)=_:=h.Sr 37 (by decide) rfl;have g8:a.eval (.tmp 36)=_:=h.Sr 36 (by decide) rfl;have eo:a.tmps[37]?.getD undef=TZ (some ⟨Y,2,none⟩):=(by have q:a.tmps.getD 37 undef=TZ (some ⟨Y,2,none⟩):=f8;simpa using q);have gm:a.tmps[36]?.getD undef=TY T6 l:=(by have q:a.tmps.getD 36 undef=TY T6 l:=g8;simpa using q);unfold execOp;simp only[f8,g8];first|(simp[go_sem,eo,gm];done)|(simp[go_sem,eo,gm];omega)|(simp[go_sem, *];done))
     ·exact StQ.st_eqk (bP z) 39 _ rfl rfl rfl (o 4 39 (by decide) (by decide)) (fun f a w h=>by have en:a.eval (.tmp 38)=_:=h.Sr 38 (by decide) rfl;have ej:a.tmps[38]?.getD undef=TZ (some ⟨Y,2+l,none⟩):=(by have q:a.tmps.getD 38 undef=TZ (some ⟨Y,2+l,none⟩):=en;simpa using q);unfold execOp;simp only[en];first|(simp[go_sem,(b8.out w h.frame),ej];done)|(simp[go_sem,(b8.out w h.frame),ej];omega)|(simp[go_sem, *];done))
     ·exact StQ.st_eqk (bP z) 40 _ rfl rfl rfl (o 5 40 (by decide) (by decide)) (fun f a w h=>by have e6:a.eval (.tmp 6)=_:=h.was 6 (by decide) rfl;unfold execOp;simp only[e6];first|(simp[go_sem];done)|(simp[go_sem];omega)|(simp[go_sem, *];done))
     ·exact StQ.st_eqk (bP z) 41 _ rfl rfl rfl (o 6 41 (by decide) (by decide)) (fun f a w h=>by have e7:a.eval (.tmp 7)=_:=h.was 7 (by decide) rfl;unfold execOp;simp only[e7];first|(simp[go_sem];done)|(simp[go_sem];omega)|(simp[go_sem, *];done))
     ·exact StQ.st_eqk (bP z) 42 _ rfl rfl rfl (o 7 42 (by decide) (by decide)) (fun f a w h=>by have ek:a.eval (.tmp 41)=_:=h.Sr 41 (by decide) rfl;have ez:a.tmps[41]?.getD undef=TY T6 m:=(by have q:a.tmps.getD 41 undef=TY T6 m:=ek;simpa using q);unfold execOp;simp only[ek];first|(simp[go_sem,gt,ez];done)|(simp[go_sem,gt,ez];omega)|(simp[go_sem, *];done))
     ·refine StQ.st_callv 43 #[TY T6 l,TY T7 m] rfl rfl rfl func35 (by kernel_rfl) rfl (fun f a w h=>by have e1:=h.Sr 40 (by decide) rfl;have e2:=h.Sr 42 (by decide) rfl;simp only[aQ,aJ,a8,e1,e2]) (fun f a W h=>?_);refine(hd.out W).mono ?_;rintro e w' ⟨rfl,rfl⟩;exact⟨_,rfl,fun q hq=>by cases hq;rfl,(bP z).refl _,o 8 43 (by decide) (by decide) f a _ _ h.state⟩
     ·exact StQ.st_eqk (bP z) 44 _ rfl rfl rfl (o 9 44 (by decide) (by decide)) (fun f a w h=>by have e8:a.eval (.tmp 8)=_:=h.was 8 (by decide) rfl;unfold execOp;simp only[e8];first|(simp[go_sem];done)|(simp[go_sem];omega)|(simp[go_sem, *];done))
     ·refine StQ.st_kd 45 rfl rfl rfl fun f a W h=>?_
      have ii:=h.Sr 43 (by decide) rfl;have hS:=h.Sr 44 (by decide) rfl;have hx:(execOp a.eval {dst:=some 45,op:=.build 109 #[(0,.tmp 43),(1,.tmp 44)],type:=109,pos:= "",after:=#[],guard:=none}).run prog W=.ok (.value (T1 #[TY T7 wh,T0 A2 sl c2])) W:=by unfold execOp;simp only[aQ,aJ,a8,ii,hS];kernel_rfl
      unfold Oper.wp;have he:=hx;unfold execOp at he⊢;rw[he];exact⟨_,rfl,rfl,(bP z).refl _,o 10 45 (by decide) (by decide) f a _ _ h.state⟩
     ·refine StQ.st_kd 46 rfl rfl rfl fun f a W h=>?_
      have d2:=h.Sr 45 (by decide) rfl;have hb:∀W:Ub,(Instr.buildSlice 62 1 #[(0,T1 #[TY T7 wh,T0 A2 sl c2])]).run prog W=.ok (T0 (some ⟨W.heap.size,0,none⟩) 1 1) (W.alloc (Ua #[TY T7 wh,T0 A2 sl c2] 109)):=fun W=>by kernel_rfl
      have d4:z<=W.heap.size:=by have:=h.frame.keep.size;have e:w2.drew.heap.size=w2.heap.size:=rfl;have:=HZ.out;omega
      unfold Oper.wp execOp;simp only[aQ,aJ,a8,d2,aY,hb W,bd];exact⟨_,rfl,⟨_,rfl,d4,bK.new W _ _⟩,uD ((aS.refl W).alloc _),o 11 46 (by decide) (by decide) f a _ _ (h.state.move (fun v hv=>hv.grows ((aS.refl W).alloc _)) (fun hv=>hv.grows ((aS.refl W).alloc _)))⟩
     ·refine StQ.st_kd 47 rfl rfl rfl fun f id W h=>?_
      obtain⟨g,ec,h6,hb⟩:=h.kd 46 (by decide) rfl;have ef:=h.Sr 39 (by decide) rfl;have R:=h.state.st;have d3:f 12=false:=h.notYet;rw[af (by rw[d3];decide)]at R;have bv:bh W W.heap.size 2 (some ⟨g,0,none⟩) 1 [TY T7 wh,T0 A2 sl c2]:=⟨rfl,fun _=>⟨_,rfl,hb.lt,fun j x hx=>by rw[iq,cV,hb.cell j];simpa using hx⟩⟩;refine fO W (.tmp 39) (.tmp 46) 62 rfl w0.heap.size 109 ie _ 2 32 underlying62 hF f5 fz ei rfl (by omega) (p l) (s l).length ((s l).flatMap J1) ef (R.ents l F).2 W.heap.size (some ⟨g,0,none⟩) 1 1 _ ec bv (by simp[Value.oneCell']) (by simp only[maxLen];omega) (by omega) R.below.size ?_;intro v' w' g1 g2 g3;have b7:jR W w':=jR.grown g2 (R.ents l F).2 (by decide) (by decide) (by decide) (by decide) (by decide);have dk:∀i t cs,z<=i->bK W i t cs->bK w' i t cs:=fun i t cs hz ds=>ds.grown g2 (fun e=>by have h1:=pJ bx.out.2 e.symm;have h2:=HZ.out;omega)
      refine⟨v',rfl,trivial,⟨b7,dk,aU.grown g2 (R.ents l F).2 (by decide)⟩,⟨?_⟩⟩;rw[StQ.upd_self,aj rfl,StQ.put_same (by rw[h.size];exact(by decide:47<75))];exact R.Tv F ⟨A2,c2,by rw[io.out],dl.out.keep (h.frame.keep.cond.trans b7.cond) (h.frame.keep.rule.trans b7.rule)⟩ g2 g1 g3
     ·exact StQ.st_eqk (bP z) 48 _ rfl rfl rfl (o 13 48 (by decide) (by decide)) (fun f a w h=>by have e3:a.eval (.tmp 3)=_:=h.was 3 (by decide) rfl;unfold execOp;simp only[e3];first|(simp[go_sem];done)|(simp[go_sem];omega)|(simp[go_sem, *];done))
     ·exact StQ.st_eqk (bP z) 49 _ rfl rfl rfl (o 14 49 (by decide) (by decide)) (fun f a w h=>by have f9:a.eval (.tmp 48)=_:=h.Sr 48 (by decide) rfl;have hw:a.eval (.tmp 35)=_:=h.Sr 35 (by decide) rfl;have hh:a.tmps[48]?.getD undef=TZ (some ⟨Y,2,none⟩):=(by have q:a.tmps.getD 48 undef=TZ (some ⟨Y,2,none⟩):=f9;simpa using q);have ey:a.tmps[35]?.getD undef=TY T6 l:=(by have q:a.tmps.getD 35 undef=TY T6 l:=hw;simpa using q);unfold execOp;simp only[f9,hw];first|(simp[go_sem,hh,ey];done)|(simp[go_sem,hh,ey];omega)|(simp[go_sem, *];done))
     intro f g w9 V br bB ⟨a9,cc,hJ⟩;have G:=hJ.st;rw[aj (bB 12 (by omega)),cc 47]at G;have ea:f 49=TZ (some ⟨Y,2+l,none⟩):=br 14 _ 49 (by omega) rfl rfl _ rfl;have b9:bK w9 Y 67 (jy d D p T):=V.plan _ _ _ HY.out;have C:bK w9 W.heap.size 82 rc:=V.keep.row _ _ _ L.out;have M:=HK.out.trans ((jz.grows (aS.refl w2).drew).trans ⟨V.keep,fun g cs _ hb=>V.plan g cs _ hb⟩);have jg:=V.keep.size;simp only[Any.fill,bC,bL,aq,aI,aH,bg,bZ];clear V br bB cc hJ o;generalize f 35=lt,f 36=la,f 37=jj,f 38=lp,f 39=jt,f 40=k0,f 41=mo,f 42=j5,f 43=mu,f 44=ls,f 45=le,f 46=kt,f 47=kk,f 48=mq,f 49=lf at*;subst ea;have bb:=(G.ents l F).2;rw[fw]at bb;obtain⟨A9,c9,rfl,_⟩:=cX bb;have hI:=(b9.cell (2+l)).trans (rO d D p T l F);have h9:=b9.frozen (2+l);have ad:=vy a6.out (LE'':=mi s l (s l++[(⟨wh,sn⟩,T0 A2 sl c2)])) (fun b hb=>gJ _ _ hb) (by rw[fw,ew,be.out];rfl);generalize hX:(mi s l (s l++[((⟨wh,sn⟩:PE),Value.slice A2 sl c2)]) l).length=ln at*;have X:=G.other (iE w9 Y (2+l) (T0 A9 ln c9)) b9 f6.out (by decide) (by decide) (by decide) (by decide);have J:=b9.set_ (2+l) (T0 A9 ln c9);rw[IC d D p T l F]at J;have M:=M.trans (jz.set (iE w9 Y (2+l) (T0 A9 ln c9)) b9);have C:=C.grown (iE w9 Y (2+l) (T0 A9 ln c9)) (fun e=>ih (dK e));have f7:W.heap.size<w9.heap.size:=by have h1:=HZ.out;have e:w2.drew.heap.size=w2.heap.size:=rfl;omega
     clear G bb b9 HO HY L HK bx be a6 b8 hd dl;obtain⟨HO,HY,HK,L,aE⟩:=aG X J M C ad;clear X J M C ad;go_wp2_with fail;go_roundw;case rel=>exact⟨l+1,_,_,by go_num,by omega,HO.out,HY.out,aE.out,HK.out,L.out,by simpa[World.setCell]using f7⟩
     case measure=>simp[intOf];omega
  obtain rfl:l=5:=by omega
  have md:=(C.cell 6).trans ca.out;have ad:∀b,b<5->(s b).map (·.1)=(LE b).map (·.1)++S b:=fun b hb=>by rw[a7 b hb,aj hb]
  clear a7;by_cases h0:0<u
  ·obtain⟨B,im⟩:∃B:Nat,u - 1=(B:Nat):=⟨(u - 1).toNat,by omega⟩;have ag:B<2:=by omega
   obtain⟨sb,rfl⟩:∃sb:Nat,E=(sb:Nat):=⟨E.toNat,by omega⟩;have h3:=(C.cell 7).trans cg.out;have ce:∀m,c6 m=if m=B then[⟨sb,(rules.getD 0 default).code⟩]else[]:=fun m=>by
    rw[cv.out m];by_cases e:m=B
    ·rw[aj (by omega),aj e,dI]
    rw[af (by omega),af e]
   obtain⟨b,Z,A',c',rfl,hb,b5,_⟩:=(HR.out.keep M.p.cond M.p.rule).cells (k:=0) (by rw[HN.out];exact fy);have hP:wr.cell? ⟨b,Z+1,none⟩=some (TY T7 ((rules.getD 0 default).code:Nat)):=by have:=nt b5 (j:=1) rfl;rw[Rs,cP]at this;exact this
   have de:∀w',nN wr.heap.size wr.drew w'->w'.cell? ⟨b,Z+1,none⟩=some (TY T7 ((rules.getD 0 default).code:Nat)):=fun w' h=>by
    obtain⟨b2,ir,A2,c2,e2,_,ex,_⟩:=((HR.out.keep M.p.cond M.p.rule).keep (w':=w') h.keep.cond h.keep.rule).cells (k:=0) (by rw[HN.out];exact fy);injection e2 with e2
    injection e2 with e2 e3;subst e2 e3;have:=nt ex (j:=1) rfl;rw[Rs,cP]at this;exact this
   generalize (rules.getD 0 default).code=cd at*;have b4:=X.subs B ag;have hN:=hL.out B ag;generalize hz:wr.heap.size=z at*;have es:IntKind.u32.wrap ((sb:Nat):Int)=(sb:Nat):=by rw[IntKind.wrap_u32];omega
   have cn:IntKind.i64.wrap (u - 1)=(B:Nat):=by rw[im];simp[IntKind.wrap,IntKind.bits,IntKind.signed];omega
   have c5:∀w',nN z wr.drew w'->w'.cell? ⟨Y,7+B,none⟩=some (T B):=fun w' h=>(bK.cell (h.plan _ _ _ J) (7+B)).trans (vz d D p T B ag)
   have ct:∀w',nN z wr.drew w'->w'.cell? ⟨W.heap.size,6,none⟩=some (TY T6 u):=fun w' h=>(bK.cell (h.keep.row _ _ _ C) 6).trans ca.out
   have cu:∀w',nN z wr.drew w'->w'.cell? ⟨W.heap.size,7,none⟩=some (TY T6 sb):=fun w' h=>(bK.cell (h.keep.row _ _ _ C) 7).trans cg.out
   have o:=fun i d1 h1 h2=>Mr.next (P:=fun v w=>iF w0 w p s (mi T B v) (mi LS B (LS B++[⟨sb,cd⟩]))) (Q:=fun w=>iF w0 w p s T LS) (i0:=18) (d0:=72) i d1 h1 h2
   clear hP b5 h3;obtain⟨c1,bf,dd,c4,HZ,HY,HO,L,HK⟩:=ay c5 ct cu de hz J X C M;obtain⟨aE,d5,bx⟩:=aC ad ce b4;clear c5 ct cu de hz J X C M ad ce b4;go_wp2_with fail;refine StQ.wp_region_st 21 eL (nN z) (bP z) (StQ.kdS [(54,.eq (TZ (some ⟨W.heap.size,6,none⟩))),(55,.eq (TY T6 u)),(56,.eq (TY T6 B)),(57,.eq (TZ (some ⟨W.heap.size,6,none⟩))),(58,.eq (TY T6 u)),(59,.eq (TY T6 B)),(60,.eq (TZ (some ⟨Y,7,none⟩))),(61,.eq (TZ (some ⟨Y,7+B,none⟩))),(62,.eq (T B)),(63,.eq (TZ (some ⟨W.heap.size,7,none⟩))),(64,.eq (TY T6 sb)),(65,.eq (TY T7 sb)),(66,.eq (T0 (some ⟨b,Z,none⟩) n c)),(67,.eq (TZ (some ⟨b,Z,none⟩))),(68,.eq (TZ (some ⟨b,Z+1,none⟩))),(69,.eq (TY T7 cd)),(70,.eq (T1 #[TY T7 sb,TY T7 cd])),(71,KdR.TL z 113 #[TY T7 sb,TY T7 cd]),(72,KdR.anyE z),(73,.eq (TZ (some ⟨Y,7,none⟩))),(74,.eq (TZ (some ⟨Y,7+B,none⟩)))])
    (fun _ _ _ _ _ h1 h2=>StQ.kdS_mono h1 h2) (Mr (fun v w=>iF w0 w p s (mi T B v) (mi LS B (LS B++[⟨sb,cd⟩]))) (fun w=>iF w0 w p s T LS) 18 72) ⟨by rw[af (by decide)];exact HO.out.grows (aS.refl wr).drew⟩ [54,55,56,57,58,59,60,61,62,63,64,65,66,67,68,69,70,71,72,73,74] [54,55,56,57,58,59,60,61,62,63,64,65,66,67,68,69,70,71,72,73,74] (by kernel_rfl) (by kernel_rfl) (by kernel_rfl) (by kernel_rfl) (by kernel_rfl) (by decide) ⟨?_,?_,?_,?_,?_,?_,?_,?_,?_,?_,?_,?_,?_,?_,?_,?_,?_,?_,?_,?_,?_,trivial⟩ ?_
   ·exact StQ.st_eqk (bP z) 54 _ rfl rfl rfl (o 0 54 (by decide) (by decide)) (fun f a w h=>by have e4:a.eval (.tmp 4)=_:=h.was 4 (by decide) rfl;unfold execOp;simp only[e4];first|(simp[go_sem];done)|(simp[go_sem];omega)|(simp[go_sem, *];done))
   ·exact StQ.st_eqk (bP z) 55 _ rfl rfl rfl (o 1 55 (by decide) (by decide)) (fun f a w h=>by have hy:a.eval (.tmp 54)=_:=h.Sr 54 (by decide) rfl;have gn:a.tmps[54]?.getD undef=TZ (some ⟨W.heap.size,6,none⟩):=(by have q:a.tmps.getD 54 undef=TZ (some ⟨W.heap.size,6,none⟩):=hy;simpa using q);unfold execOp;simp only[hy];first|(simp[go_sem,(bf.out w h.frame),gn];done)|(simp[go_sem,(bf.out w h.frame),gn];omega)|(simp[go_sem, *];done))
   ·exact StQ.st_eqk (bP z) 56 _ rfl rfl rfl (o 2 56 (by decide) (by decide)) (fun f a w h=>by have gl:a.eval (.tmp 55)=_:=h.Sr 55 (by decide) rfl;have ht:a.tmps[55]?.getD undef=TY T6 u:=(by have q:a.tmps.getD 55 undef=TY T6 u:=gl;simpa using q);unfold execOp;simp only[gl];first|(simp[go_sem,cn,ht];done)|(simp[go_sem,cn,ht];omega)|(simp[go_sem, *];done))
   ·exact StQ.st_eqk (bP z) 57 _ rfl rfl rfl (o 3 57 (by decide) (by decide)) (fun f a w h=>by have e4:a.eval (.tmp 4)=_:=h.was 4 (by decide) rfl;unfold execOp;simp only[e4];first|(simp[go_sem];done)|(simp[go_sem];omega)|(simp[go_sem, *];done))
   ·exact StQ.st_eqk (bP z) 58 _ rfl rfl rfl (o 4 58 (by decide) (by decide)) (fun f a w h=>by have fv:a.eval (.tmp 57)=_:=h.Sr 57 (by decide) rfl;have ff:a.tmps[57]?.getD undef=TZ (some ⟨W.heap.size,6,none⟩):=(by have q:a.tmps.getD 57 undef=TZ (some ⟨W.heap.size,6,none⟩):=fv;simpa using q);unfold execOp;simp only[fv];first|(simp[go_sem,(bf.out w h.frame),ff];done)|(simp[go_sem,(bf.out w h.frame),ff];omega)|(simp[go_sem, *];done))
   ·exact StQ.st_eqk (bP z) 59 _ rfl rfl rfl (o 5 59 (by decide) (by decide)) (fun f a w h=>by have hu:a.eval (.tmp 58)=_:=h.Sr 58 (by decide) rfl;have fi:a.tmps[58]?.getD undef=TY T6 u:=(by have q:a.tmps.getD 58 undef=TY T6 u:=hu;simpa using q);unfold execOp;simp only[hu];first|(simp[go_sem,cn,fi];done)|(simp[go_sem,cn,fi];omega)|(simp[go_sem, *];done))
   ·exact StQ.st_eqk (bP z) 60 _ rfl rfl rfl (o 6 60 (by decide) (by decide)) (fun f a w h=>by have e3:a.eval (.tmp 3)=_:=h.was 3 (by decide) rfl;unfold execOp;simp only[e3];first|(simp[go_sem];done)|(simp[go_sem];omega)|(simp[go_sem, *];done))
   ·exact StQ.st_eqk (bP z) 61 _ rfl rfl rfl (o 7 61 (by decide) (by decide)) (fun f a w h=>by have f0:a.eval (.tmp 60)=_:=h.Sr 60 (by decide) rfl;have g7:a.eval (.tmp 59)=_:=h.Sr 59 (by decide) rfl;have gc:a.tmps[60]?.getD undef=TZ (some ⟨Y,7,none⟩):=(by have q:a.tmps.getD 60 undef=TZ (some ⟨Y,7,none⟩):=f0;simpa using q);have fs:a.tmps[59]?.getD undef=TY T6 B:=(by have q:a.tmps.getD 59 undef=TY T6 B:=g7;simpa using q);unfold execOp;simp only[f0,g7];first|(simp[go_sem,gc,fs];done)|(simp[go_sem,gc,fs];omega)|(simp[go_sem, *];done))
   ·exact StQ.st_eqk (bP z) 62 _ rfl rfl rfl (o 8 62 (by decide) (by decide)) (fun f a w h=>by have gA:a.eval (.tmp 61)=_:=h.Sr 61 (by decide) rfl;have f1:a.tmps[61]?.getD undef=TZ (some ⟨Y,7+B,none⟩):=(by have q:a.tmps.getD 61 undef=TZ (some ⟨Y,7+B,none⟩):=gA;simpa using q);unfold execOp;simp only[gA];first|(simp[go_sem,(c1.out w h.frame),f1];done)|(simp[go_sem,(c1.out w h.frame),f1];omega)|(simp[go_sem, *];done))
   ·exact StQ.st_eqk (bP z) 63 _ rfl rfl rfl (o 9 63 (by decide) (by decide)) (fun f a w h=>by have e4:a.eval (.tmp 4)=_:=h.was 4 (by decide) rfl;unfold execOp;simp only[e4];first|(simp[go_sem];done)|(simp[go_sem];omega)|(simp[go_sem, *];done))
   ·exact StQ.st_eqk (bP z) 64 _ rfl rfl rfl (o 10 64 (by decide) (by decide)) (fun f a w h=>by have fa:a.eval (.tmp 63)=_:=h.Sr 63 (by decide) rfl;have ge:a.tmps[63]?.getD undef=TZ (some ⟨W.heap.size,7,none⟩):=(by have q:a.tmps.getD 63 undef=TZ (some ⟨W.heap.size,7,none⟩):=fa;simpa using q);unfold execOp;simp only[fa];first|(simp[go_sem,(dd.out w h.frame),ge];done)|(simp[go_sem,(dd.out w h.frame),ge];omega)|(simp[go_sem, *];done))
   ·exact StQ.st_eqk (bP z) 65 _ rfl rfl rfl (o 11 65 (by decide) (by decide)) (fun f a w h=>by have ho:a.eval (.tmp 64)=_:=h.Sr 64 (by decide) rfl;have hg:a.tmps[64]?.getD undef=TY T6 sb:=(by have q:a.tmps.getD 64 undef=TY T6 sb:=ho;simpa using q);unfold execOp;simp only[ho];first|(simp[go_sem,es,hg];done)|(simp[go_sem,es,hg];omega)|(simp[go_sem, *];done))
   ·exact StQ.st_eqk (bP z) 66 _ rfl rfl rfl (o 12 66 (by decide) (by decide)) (fun f a w h=>by have e1:a.eval (.tmp 1)=_:=h.was 1 (by decide) rfl;unfold execOp;simp only[e1];first|(simp[go_sem];done)|(simp[go_sem];omega)|(simp[go_sem, *];done))
   ·exact StQ.st_eqk (bP z) 67 _ rfl rfl rfl (o 13 67 (by decide) (by decide)) (fun f a w h=>by have f3:a.eval (.tmp 66)=_:=h.Sr 66 (by decide) rfl;have g4:a.tmps[66]?.getD undef=T0 (some ⟨b,Z,none⟩) n c:=(by have q:a.tmps.getD 66 undef=T0 (some ⟨b,Z,none⟩) n c:=f3;simpa using q);unfold execOp;simp only[f3];first|(simp[go_sem,g4];done)|(simp[go_sem,g4];omega)|(simp[go_sem, *];done))
   ·exact StQ.st_eqk (bP z) 68 _ rfl rfl rfl (o 14 68 (by decide) (by decide)) (fun f a w h=>by have gp:a.eval (.tmp 67)=_:=h.Sr 67 (by decide) rfl;have e5:a.tmps[67]?.getD undef=TZ (some ⟨b,Z,none⟩):=(by have q:a.tmps.getD 67 undef=TZ (some ⟨b,Z,none⟩):=gp;simpa using q);unfold execOp;simp only[gp];first|(simp[go_sem,e5];done)|(simp[go_sem,e5];omega)|(simp[go_sem, *];done))
   ·exact StQ.st_eqk (bP z) 69 _ rfl rfl rfl (o 15 69 (by decide) (by decide)) (fun f a w h=>by have gs:a.eval (.tmp 68)=_:=h.Sr 68 (by decide) rfl;have g6:a.tmps[68]?.getD undef=TZ (some ⟨b,Z+1,none⟩):=(by have q:a.tmps.getD 68 undef=TZ (some ⟨b,Z+1,none⟩):=gs;simpa using q);unfold execOp;simp only[gs];first|(simp[go_sem,(c4.out w h.frame),g6];done)|(simp[go_sem,(c4.out w h.frame),g6];omega)|(simp[go_sem, *];done))
   ·exact StQ.st_eqk (bP z) 70 _ rfl rfl rfl (o 16 70 (by decide) (by decide)) (fun f a w h=>by have fb:a.eval (.tmp 65)=_:=h.Sr 65 (by decide) rfl;have hk:a.eval (.tmp 69)=_:=h.Sr 69 (by decide) rfl;have fd:a.tmps[65]?.getD undef=TY T7 sb:=(by have q:a.tmps.getD 65 undef=TY T7 sb:=fb;simpa using q);have et:a.tmps[69]?.getD undef=TY T7 cd:=(by have q:a.tmps.getD 69 undef=TY T7 cd:=hk;simpa using q);unfold execOp;simp only[fb,hk];first|(simp[go_sem,fd,et];done)|(simp[go_sem,fd,et];omega)|(simp[go_sem, *];done))
   ·refine StQ.st_kd 71 rfl rfl rfl fun f a W h=>?_
    have d2:=h.Sr 70 (by decide) rfl;have hb:∀W:Ub,(Instr.buildSlice 64 1 #[(0,T1 #[TY T7 sb,TY T7 cd])]).run prog W=.ok (T0 (some ⟨W.heap.size,0,none⟩) 1 1) (W.alloc (Ua #[TY T7 sb,TY T7 cd] 113)):=fun W=>by kernel_rfl
    have d4:z<=W.heap.size:=by have:=h.frame.keep.size;have e:wr.drew.heap.size=wr.heap.size:=rfl;have:=HZ.out;omega
    unfold Oper.wp execOp;simp only[aQ,aJ,a8,d2,aY,hb W,bd];exact⟨_,rfl,⟨_,rfl,d4,bK.new W _ _⟩,uD ((aS.refl W).alloc _),o 17 71 (by decide) (by decide) f a _ _ (h.state.move (fun v hv=>hv.grows ((aS.refl W).alloc _)) (fun hv=>hv.grows ((aS.refl W).alloc _)))⟩
   ·refine StQ.st_kd 72 rfl rfl rfl fun f id W h=>?_
    obtain⟨g,ec,h6,hb⟩:=h.kd 71 (by decide) rfl;have ef:=h.Sr 62 (by decide) rfl;have R:=h.state.st;have d3:f 18=false:=h.notYet;rw[af (by rw[d3];decide)]at R;have bv:bh W W.heap.size 2 (some ⟨g,0,none⟩) 1 [TY T7 sb,TY T7 cd]:=⟨rfl,fun _=>⟨_,rfl,hb.lt,fun j x hx=>by rw[iq,cV,hb.cell j];simpa using hx⟩⟩;refine fO W (.tmp 62) (.tmp 71) 64 rfl w0.heap.size 113 is _ 2 8 underlying64 hR fu hA hj rfl (by omega) (T B) (LS B).length ((LS B).flatMap PS.vals) ef (R.subs B ag) W.heap.size (some ⟨g,0,none⟩) 1 1 _ ec bv (by simp[Value.oneCell']) (by simp only[maxLen];omega) (by omega) R.below.size ?_;intro v' w' g1 g2 g3;have b7:jR W w':=jR.grown g2 (R.subs B ag) (by decide) (by decide) (by decide) (by decide) (by decide);have dk:∀i t cs,z<=i->bK W i t cs->bK w' i t cs:=fun i t cs hz ds=>ds.grown g2 (fun e=>by have h1:=pJ bx.out e.symm;have h2:=HZ.out;omega)
    refine⟨v',rfl,trivial,⟨b7,dk,aU.grown g2 (R.subs B ag) (by decide)⟩,⟨?_⟩⟩;rw[StQ.upd_self,aj rfl,StQ.put_same (by rw[h.size];exact(by decide:72<75))];exact R.Tz ag g2 g1 g3
   ·exact StQ.st_eqk (bP z) 73 _ rfl rfl rfl (o 19 73 (by decide) (by decide)) (fun f a w h=>by have e3:a.eval (.tmp 3)=_:=h.was 3 (by decide) rfl;unfold execOp;simp only[e3];first|(simp[go_sem];done)|(simp[go_sem];omega)|(simp[go_sem, *];done))
   ·exact StQ.st_eqk (bP z) 74 _ rfl rfl rfl (o 20 74 (by decide) (by decide)) (fun f a w h=>by have hB:a.eval (.tmp 73)=_:=h.Sr 73 (by decide) rfl;have eu:a.eval (.tmp 56)=_:=h.Sr 56 (by decide) rfl;have hC:a.tmps[73]?.getD undef=TZ (some ⟨Y,7,none⟩):=(by have q:a.tmps.getD 73 undef=TZ (some ⟨Y,7,none⟩):=hB;simpa using q);have em:a.tmps[56]?.getD undef=TY T6 B:=(by have q:a.tmps.getD 56 undef=TY T6 B:=eu;simpa using q);unfold execOp;simp only[hB,eu];first|(simp[go_sem,hC,em];done)|(simp[go_sem,hC,em];omega)|(simp[go_sem, *];done))
   intro f g w9 V br bB ⟨a9,cc,hJ⟩;have G:=hJ.st;rw[aj (bB 18 (by omega)),cc 72]at G;have ea:f 74=TZ (some ⟨Y,7+B,none⟩):=br 20 _ 74 (by omega) rfl rfl _ rfl;have b9:bK w9 Y 67 (jy d D p T):=V.plan _ _ _ HY.out;have M:=HK.out.trans ((jz.grows (aS.refl wr).drew).trans ⟨V.keep,fun g cs _ hb=>V.plan g cs _ hb⟩);simp only[Any.fill,bC,bL,aq,aI,aH,bg,bZ];clear V br bB cc hJ o;generalize f 54=mt,f 55=k4,f 56=lq,f 57=k6,f 58=mh,f 59=j0,f 60=mv,f 61=lA,f 62=k3,f 63=ld,f 64=l2,f 65=lb,f 66=mp,f 67=k2,f 68=lo,f 69=mb,f 70=k7,f 71=li,f 72=l3,f 73=jp,f 74=kw at*;subst ea;have bb:=G.subs B ag;rw[fw]at bb;obtain⟨A9,c9,rfl,_⟩:=cX bb;have hI:=(b9.cell (7+B)).trans (vz d D p T B ag);have h9:=b9.frozen (7+B);generalize hX:(mi LS B (LS B++[(⟨sb,cd⟩:PS)]) B).length=ln at*;have X:=G.other (iE w9 Y (7+B) (T0 A9 ln c9)) b9 f6.out (by decide) (by decide) (by decide) (by decide);have J:=b9.set_ (7+B) (T0 A9 ln c9);rw[ID d D p T B ag]at J;have M:=M.trans (jz.set (iE w9 Y (7+B) (T0 A9 ln c9)) b9);clear G bb b9 HO HY L HK bx;obtain⟨HO,HY,HK⟩:=aC X J M;clear X J M;go_wp2_with fail;go_end0;exact⟨rfl,HK.out,_,_,_,_,HO.out,HY.out,aE.out,fun m hm=>by
    rw[d5.out m];by_cases e:m=B
    ·subst e;rw[fw,aj rfl]
    rw[gJ _ _ e,af e,dL]⟩
  have ce:∀m,c6 m=[]:=fun m=>by rw[cv.out m,af (by omega)]
  obtain⟨HY,HO,L,HK,aE,d5⟩:=aF J X C M ad ce;clear J X C M ad ce;go_wp2_with fail;go_end0;exact⟨rfl,HK.out,_,_,_,_,HO.out,HY.out,aE.out,fun m hm=>by rw[d5.out m,dL]⟩
theorem IN:(prog.info? 80).map (fun i=>(i.zero,i.size,i.bytes))=some (some (T1 #[.string ⟨#[]⟩,TY T6 0,TY T6 0,T0 none 0 0]),4,56):=by kernel_rfl
def PN(p:Po)(w:Ub)(e:Ending)(w':Ub):Prop:=∃(a:List ByteArray) (L:List (Rl×Uc)) (v:Uc),yE p a/\eN L=a.flatMap (eR p)/\jk w' w.heap.size v L/\
 e=.returned (T4 #[T1 #[TY T6 p.kind,TY T6 p.num,T2 p.x32,v],TY T6 0])/\Below w.heap.size w w'
theorem FH{rs:List Rl}{r:Rl}(h:iT r=none)(k:ByteArray):cN (rs++[r]) k=cN rs k:=by
 rw[ou];by_cases e:r.name=k
 ·rw[aj e];unfold mr;rw[h]
 rw[af e]
theorem IP{rs:List Rl}{r n:Rl}(h:iT r=some n)(a:mE (cN rs r.name) n=true)(k:ByteArray):cN (rs++[r]) k=cN rs k:=by
 rw[ou];by_cases e:r.name=k
 ·rw[aj e];unfold mr;rw[h];subst e;simp only[a,lN]
 rw[af e]
theorem IQ{rs:List Rl}{r n:Rl}(h:iT r=some n)(a:mE (cN rs r.name) n=false):cN (rs++[r]) r.name=cN rs r.name++[n]:=by
 rw[ou,aj rfl];unfold mr;rw[h];simp only[a];rfl
theorem IS{r n:Rl}(h:iT r=some n):n.name=r.name:=by
 unfold iT at h;cases e:dT gd r.conds with
 |none=>rw[e]at h;cases h
 |some q=>rw[e]at h;injection h with h;subst h;rfl
theorem rR(rs:List Rl)(k:ByteArray):(cN rs k).length<=rs.length:=by
 have b:=yb rs k;have a:=RA (fun r=>decide (r.name=k)) rs;omega
theorem Dd(rs:List Rl)(h:∀r∈rs,r.conds.length<=1000)(k:ByteArray):∀r∈cN rs k,r.conds.length<=1000:=fun r b=>by
 obtain⟨y,a,_,c⟩:=iI b;exact ax (rA c) (h y a)
theorem rS{α β:Type}(f:α->List β)(c:Nat)(h:∀a,(f a).length<=c):∀l:List α,(l.flatMap f).length<=l.length*c
 |[]=>by simp
 |a::t=>by
  have:=rS f c h t;have:=h a;rw[cB,bw,aM,gE];omega
theorem L7{α:Type}{w:Ub}{t:TypeId}{size n:Nat}{A:Option Addr}{f:α->List Uc}{L:List α}(h:fB w t size A n (L.flatMap f))(p:α->List Uc)(o:∀x,(f x).length=size)(d:List α)(r:L.length=n)(m:Nat)(s:m<=n)(e:p=f:=by rfl)(y:d=L:=by rfl):fB w t size A m ((L.take m).flatMap f):=by
 refine⟨by rw[wE f size o,bJ,r,qd s],fun u=>?_⟩;obtain⟨g,b,a,fr,i,c,q⟩:=h.2 (by omega);refine⟨g,b,a,fr,i,c,fun j v hv=>q j v ?_⟩;have e:L.flatMap f=(L.take m).flatMap f++(L.drop m).flatMap f:=by rw[<-bX,fl]
 rw[e,bU (cF.1 hv).1];exact hv
theorem FI(w:Ub)(q:Nat):aS w (w.drewN q):=⟨rfl,rfl,rfl,ae _,fun _ _=>rfl⟩
structure zy(z gm:Nat)(w w':Ub):Prop where
 size:w.heap.size<=w'.heap.size
 blk:∀i t cs,z<=i->bK w i t cs->bK w' i t cs
 conds:aU 162 w w'
 pol:aU 46 w w'
 row:∀l:PO,GMap.Row w gm Value.string l->GMap.Row w' gm Value.string l
theorem gT(z gm:Nat):StQ.Frame (zy z gm):=StQ.frame_of (fun w=>⟨ae _,fun _ _ _ _ h=>h,aU.refl _ _,aU.refl _ _,fun _ h=>h⟩) fun h k=>⟨ax h.size k.size,fun i t cs a c=>k.blk i t cs a (h.blk i t cs a c),h.conds.trans k.conds,h.pol.trans k.pol,fun l b=>k.row l (h.row l b)⟩
theorem De{z gm:Nat}{w w':Ub}(h:aS w w'):zy z gm w w':=⟨h.size,fun i t cs _ b=>b.below h b.lt,aU.grows h,aU.grows h,fun l a=>a.below h a.lt⟩
def KdR.TM(z gm:Nat)(cs:Array Uc):StQ.KdR (zy z gm):=⟨fun v w=>∃g,v=T0 (some ⟨g,0,none⟩) 1 1/\z<=g/\bK w g 80 cs,fun v w w' b ⟨g,e,a,c⟩=>⟨g,e,a,b.blk _ _ _ a c⟩⟩
def KdR.TE(z gm:Nat):StQ.KdR (zy z gm):=⟨fun _ _=>True,fun _ _ _ _ _=>trivial⟩
structure FJ(w0:Ub)(gm:Nat)(rs:List Rl)(l:PO)(k:ByteArray)(x:Rl×Uc)(i d:Nat)(f:Nat->Bool)(a:Act)(w:Ub):Prop where
 st:if f i=true then∃L0,eN L0=cN rs k/\FL w0 w gm rs l k (a.tmps.getD d undef) (L0++[x])else pK w0 w gm rs l
section
variable {w0:Ub} {gm:Nat} {rs:List Rl} {l:PO} {k:ByteArray} {x:Rl×Uc} {i0 d0:Nat}
theorem FJ.next(i d:Nat)(c:([i0].contains i)=false)(b:([d0].contains d)=false)(f:Nat->Bool)(a:Act)(u:Uc)(w:Ub)(h:FJ w0 gm rs l k x i0 d0 f a w):FJ w0 gm rs l k x i0 d0 (StQ.upd f i) (a.put (some d) u) w:=by
 simp at c b;refine⟨?_⟩;rw[StQ.upd_ne f (fun e=>c e.symm),StQ.put_far (fun e=>b e)];exact h.st
theorem FJ.grows{f:Nat->Bool}{a:Act}{w w':Ub}(h:FJ w0 gm rs l k x i0 d0 f a w)(b:aS w w'):FJ w0 gm rs l k x i0 d0 f a w':=by
 refine⟨?_⟩;have:=h.st;split<;>rename_i e
 ·rw[aj e]at this;obtain⟨g,d,c⟩:=this;exact⟨g,d,c.grows b⟩
 rw[af e]at this;exact this.grows b
end
theorem FK(p:Po)(n:Nat)(hn:p.rules.length=n)(hl:n<=1000)(d3:∀r∈p.rules,r.conds.length<=1000/\r.name.size<=9223372036854775807)(ht:∀r∈p.rules,∀c∈r.conds,c.Ok)(hR:kB p=true)(A:Option Addr)(c B:Nat)(w:Ub)(hB:B<=w.heap.size)(hr:eI w B A p.rules):
  Calls prog 31 #[nu p A c] w (PN p w):=by
 obtain⟨ir,i7,h9,i2,j2⟩:=cZ IN;have rm:=@run_makeMap (prog);have c2:=fun W nf mo=>uu p (by omega) (fun r hr=>⟨by have:=(d3 r hr).1;omega,(d3 r hr).2⟩) A c B W nf mo
 rw[hR]at c2;have cp:Below w.heap.size w ((w.alloc (Ua #[TY T6 p.kind,TY T6 p.num,T2 p.x32,T0 A p.rules.length c] 46)).alloc (Ua #[TY T6 0,TY T6 0,T2 false,T0 none 0 0] 46)):=((aw _ w).alloc (ae _) _).alloc (by simp) _;have s:=(bK.new w 46 #[TY T6 p.kind,TY T6 p.num,T2 p.x32,T0 A p.rules.length c]).alloc (Ua #[TY T6 0,TY T6 0,T2 false,T0 none 0 0] 46);have b1:bK ((w.alloc (Ua #[TY T6 p.kind,TY T6 p.num,T2 p.x32,T0 A p.rules.length c] 46)).alloc (Ua #[TY T6 0,TY T6 0,T2 false,T0 none 0 0] 46)) (w.heap.size+1) 46 #[TY T6 0,TY T6 0,T2 false,T0 none 0 0]:=dP w _ _ _;have nl:((w.alloc (Ua #[TY T6 p.kind,TY T6 p.num,T2 p.x32,T0 A p.rules.length c] 46)).alloc (Ua #[TY T6 0,TY T6 0,T2 false,T0 none 0 0] 46)).heap.size=w.heap.size+2:=by simp
 have av:=c2 _ (ax hB cp.size) (hr.below (cp.mono hB));unfold nu at av⊢;generalize f9:((w.alloc (Ua _ 46)).alloc (Ua _ 46))=W2 at av cp s b1 nl;rw[hn]at av f9 s⊢;have md:=Lib.hid f9;have HN:=Lib.hid hn;have ga:=Lib.hid d3;have mh:=Lib.hid ht;have HR:=Lib.hid hR;have HR:=Lib.hid hr;have qv:=Lib.hid c2;have f6:=Lib.hid cp;have F:=Lib.hid s;obtain⟨G,hF⟩:=aA b1 av;clear hn d3 ht hR hr c2 cp s b1 av;clear f9;go_enter func31,ntmps31;go_wp2_with fail;rw[md.out];refine hF.out.mono ?_;rintro e w3 ⟨rfl,c6⟩;have dg:aS W2 (w3.alloc (.map #[] 0)):=(show aS W2 w3 from c6).alloc _;have s:=F.out.below dg F.out.lt;have b1:=G.out.below dg G.out.lt;have fv:=f6.out.trans (dg.mono f6.out.size);have hG:=pK.new w _ fv w3.heap.size (by have:=f6.out.size;have:=c6.size;omega) (GMap.Row.new w3 Value.string);have p4:w.heap.size+2<=w3.heap.size:=by have:=c6.size;omega
 have dp:=s.cell 3;simp only[ao]at dp;clear c6 dg;obtain⟨F,G,ml,HG⟩:=aB s b1 fv hG;clear s b1 fv hG;go_wp2_with fail;generalize m9:w3.heap.size=gm at*;generalize (w3.alloc (.map _ 0))=W4 at*;have d5:w.heap.size≠gm/\w.heap.size+1≠gm:=by omega
 have hN:w.heap.size+2<=gm:=by omega
 obtain⟨eq,nr⟩:=aA d5 hN;clear d5 hN;clear m9 dp;go_loopw [21] (fun fs wr=>∃(k:Nat) (l:PO),k<=n/\fs=TY T6 k/\pK w wr gm (p.rules.take k) l/\bK wr w.heap.size 46 #[TY T6 p.kind,TY T6 p.num,T2 p.x32,T0 A n c]/\bK wr (w.heap.size+1) 46 #[TY T6 0,TY T6 0,T2 false,T0 none 0 0]) (fun fs _=>n - (intOf fs).toNat)
 case atStart=>exact⟨0,[],by omega,rfl,HG.out,F.out,G.out⟩
 case round=>
  obtain⟨k,l,hk,rfl,V,s,b1⟩:=hrel;clear HG F G ml;by_cases ba:k<n
  ·have hp:(k:Int)<(n:Int):=by omega
   have E:=lK p.rules k (by rw[HN.out];exact ba);have b5:p.rules.getD k default∈p.rules:=by rw[aa,ah (by rw[HN.out];exact ba)];exact bj _
   have c4:=ga.out _ b5;have gc:=mh.out _ b5;have cm:∀k',∀r∈cN (p.rules.take k) k',r.conds.length<=1000:=Dd _ fun r hr=>(ga.out r (gj hr)).1
   have c1:∀k',(cN (p.rules.take k) k').length<=1000:=fun k'=>ax (rR _ k') (by rw[bJ];omega)
   obtain⟨b,aE,A',c',rfl,hb,h0,h1,h2,h3,f8⟩:=(HR.out.below (V.below.mono hB)).at_ (k:=k) (by rw[HN.out];exact ba);generalize p.rules.getD k default=x at*;obtain⟨xn,xk,xm,xc⟩:=x;simp only at c4 gc h0 h1 h2 h3 f8;have bp:wr.rangeAt b (aE+k*4) [.string xn,TY T6 xk,TY T6 xm,T0 A' xc.length c']:=fun j v hv=>by
    match j,hv with
    |0,hv=>rw[<-(dK hv:_=v)];exact h0
    |1,hv=>rw[<-(dK hv:_=v)];exact h1
    |2,hv=>rw[<-(dK hv:_=v)];exact h2
    |3,hv=>rw[<-(dK hv:_=v)];exact h3
   have N:aS wr (wr.alloc (Ua #[.string xn,TY T6 xk,TY T6 xm,T0 A' xc.length c'] 80)):=(aS.refl _).alloc _;have b6:=bK.new wr 80 #[.string xn,TY T6 xk,TY T6 xm,T0 A' xc.length c'];have ef:B<=wr.heap.size:=ax hB V.below.size;have D:=CP ⟨xn,xk,xm,xc⟩ xc.length rfl c4.1 gc A' c' B _ (ax ef N.size) (f8.below (N.mono ef));simp only at D;have a5:=fun h k'=>FH (rs:=p.rules.take k) (r:=⟨xn,xk,xm,xc⟩) h k'
   have al:=fun nn h hh k'=>IP (rs:=p.rules.take k) (r:=⟨xn,xk,xm,xc⟩) (n:=nn) h hh k'
   have am:=fun nn h hh=>IQ (rs:=p.rules.take k) (r:=⟨xn,xk,xm,xc⟩) (n:=nn) h hh
   clear h0 h1 h2 h3 f8 b5 gc;cases hq:iT ⟨xn,xk,xm,xc⟩with
   |none=>
    rw[hq]at D;have hU:=a5 hq;obtain⟨R,m1,bA,a7,B6,bN,F,G⟩:=aD D hU E N b6 V s b1;clear D hU E N b6 V s b1;clear a5 al am hq c4 cm c1;go_wp2_with (refine wpList_load_mid rfl _ (.tmp 23) rfl b (aE+k*4) rfl _ _ bp underlying80 rfl (by kernel_rfl) ?_;simp only[Act.put,aq,aI,aH]);refine R.out.mono ?_;rintro e w5 ⟨bb,rfl⟩;have ai:aS wr (w5.alloc (Ua #[.string ⟨#[]⟩,TY T6 0,TY T6 0,T0 none 0 0] 80)):=(a7.out.trans bb).alloc _;have a6:=(bN.out.grows ai).skip m1.out;have s:=F.out.below ai F.out.lt;have b1:=G.out.below ai G.out.lt;clear bb ai bp;obtain⟨bW,F,G⟩:=aC a6 s b1;clear a6 s b1;go_wp2_with fail;go_roundw;case rel=>exact⟨k+1,l,by omega,by go_num,by rw[bA.out];exact bW.out,F.out,G.out⟩
    case measure=>simp[intOf];omega
   |some nn=>
    rw[hq]at D;have ip:=IS hq;have al:=al nn hq;have am:=am nn hq;have ne:=rA hq;obtain⟨n1,n2,n3,O⟩:=nn;simp only at ip ne c4;subst ip;obtain⟨R,k5,i9,bA,a7,B6,bN,F,G⟩:=ay D al am E N b6 V s b1;obtain⟨jj,kp⟩:=aA cm c1;clear D al am E N b6 V s b1 cm c1;clear a5 hq;go_wp2_with (refine wpList_load_mid rfl _ (.tmp 23) rfl b (aE+k*4) rfl _ _ bp underlying80 rfl (by kernel_rfl) ?_;simp only[Act.put,aq,aI,aH]);refine R.out.mono ?_;rintro e w5 ⟨bb,Y,c5,rfl,bs⟩;simp only at bs;have ai:aS wr (w5.alloc (Ua #[.string n1,TY T6 n2,TY T6 n3,T0 Y O.length c5] 80)):=(a7.out.trans bb).alloc _;have a6:=bN.out.grows ai;have s:=F.out.below ai F.out.lt;have b1:=G.out.below ai G.out.lt;have b6:=(B6.out.below bb B6.out.lt).alloc (Ua #[.string n1,TY T6 n2,TY T6 n3,T0 Y O.length c5] 80);have b7:=bK.new w5 80 #[.string n1,TY T6 n2,TY T6 n3,T0 Y O.length c5];have bs:=bs.keep (aU.alloc w5 (Ua #[.string n1,TY T6 n2,TY T6 n3,T0 Y O.length c5] 80));have H:=GMap.run_look a6.row vn 192 44 underlying192 n1 (T0 none 0 0) (by kernel_rfl);obtain⟨L,hL,a3⟩:=a6.at_ n1;obtain⟨Ag,cg,be,f4⟩:=a3.reads;have hM:L.length=(cN (p.rules.take k) n1).length:=by rw[<-hL];simp[eN]
    have ds:=IT (eN L) (by rw[hL];have:=kp.out n1;omega) (by rw[hL];intro r hr;have:=jj.out n1 r hr;omega) ⟨n1,n2,n3,O⟩ Ag cg Y c5 _ _ (ae _) f4 bs.reads;simp only at ds;rw[show(eN L).length=L.length by simp[eN],hL]at ds;rw[show(GMap.look l n1).getD (T0 none 0 0)=pX l n1 from rfl,be]at H;replace H:(Instr.lookup 192 (.map (some gm)) (.string n1) false).run prog (w5.alloc (Ua #[.string n1,TY T6 n2,TY T6 n3,T0 Y O.length c5] 80))=.ok (T0 Ag L.length cg) (w5.alloc (Ua #[.string n1,TY T6 n2,TY T6 n3,T0 Y O.length c5] 80)):=H;generalize mE (cN (p.rules.take k) n1) ⟨n1,n2,n3,O⟩=q at*;have hY:=b6.cell 0;simp only[ao]at hY;have i6:wr.heap.size+1<=w5.heap.size:=by have:=bb.size;simp at this;omega
    clear bb ai bp;obtain⟨bW,F,G,B6,B7,fq,HL,lb,de⟩:=ay a6 s b1 b6 b7 bs hL a3 be;obtain⟨j0,m2,f0,li⟩:=aB f4 hM ds i6;clear a6 s b1 b6 b7 bs hL a3 be f4 hM ds i6;go_wp2_with fail;refine f0.out.mono ?_;rintro e w7 ⟨rfl,ct⟩;have J:aS (w5.alloc (Ua #[.string n1,TY T6 n2,TY T6 n3,T0 Y O.length c5] 80)) w7:=ct;have f7:=bW.out.grows J;have s:=F.out.below J F.out.lt;have b1:=G.out.below J G.out.lt;have b6:=B6.out.below J B6.out.lt;have b7:=B7.out.below J B7.out.lt;have f1:=fq.out.keep (aU.grows J);have a3:=jk.grows lb.out J;rcases jD q with hq|hq
    ·subst hq;have i5:=f7.skip (k5.out rfl);clear ct J B6 B7 fq j0 f0 bW bN R b6 b7 f1 a3;obtain⟨no,F,G⟩:=aC i5 s b1;clear i5 s b1;go_wp2_with fail;go_roundw;case rel=>exact⟨k+1,l,by omega,by go_num,by rw[bA.out];exact no.out,F.out,G.out⟩
     case measure=>simp[intOf];omega
    subst hq;have bo:∀W,GMap.Row W gm Value.string l->(Instr.lookup 192 (.map (some gm)) (.string n1) false).run prog W=.ok (T0 Ag L.length cg) W:=fun W hW=>by
     have:=GMap.run_look hW vn 192 44 underlying192 n1 (T0 none 0 0) (by kernel_rfl);rw[show(GMap.look l n1).getD (T0 none 0 0)=pX l n1 from rfl,de.out]at this;exact this
    have ce:∀o,eN o=cN (p.rules.take k) n1->eN (o++[(⟨n1,n2,n3,O⟩,T0 Y O.length c5)])=cN (p.rules.take k++[⟨n1,xk,xm,xc⟩]) n1:=fun o h=>by
     rw[i9.out rfl];unfold eN at*;rw[ew,h];rfl
    have ie:∀g,(pX l n1).ownBlock=some g->g<wr.heap.size:=fun g e=>by
     obtain⟨o,_,h2⟩:=bN.out.at_ n1;exact pJ h2.2 e
    have rg:wr.heap.size<=w7.heap.size:=by have:=a7.out.size;have h6:=b6.lt;omega
    have mu:L.length<=1000:=by rw[m2.out];exact kp.out n1
    have ol:wr.heap.size<=w5.heap.size:=by have:=li.out;omega
    have X:=fun i d h1 h2=>FJ.next (w0:=w) (gm:=gm) (rs:=p.rules.take k) (l:=l) (k:=n1) (x:=(⟨n1,n2,n3,O⟩,T0 Y O.length c5)) (i0:=9) (d0:=49) i d h1 h2
    have hw:∀W,bK W w5.heap.size 80 #[.string n1,TY T6 n2,TY T6 n3,T0 Y O.length c5]->W.rangeAt w5.heap.size 0 [.string n1,TY T6 n2,TY T6 n3,T0 Y O.length c5]:=fun W hW j v hv=>by
     rw[cV,hW.cell];simpa using hv
    generalize ic:wr.heap.size=z at*;generalize jg:w5.heap.size=y at*;clear ct J B6 B7 fq j0 f0 bW bN R a7 li;obtain⟨F,G,B6,B7,nw,lb,e0,dl,fy⟩:=ay s b1 b6 b7 f1 a3 f7 bo ce;obtain⟨nj,q8,rb⟩:=aC hw ic jg;clear s b1 b6 b7 f1 a3 f7 bo ce hw ic jg;go_wp2_with fail;refine StQ.wp_region_st 10 eL (zy z gm) (gT z gm) (StQ.kdS [(40,.eq (.map (some gm))),(41,.eq (TZ (some ⟨z,0,none⟩))),(42,.eq (.string n1)),(43,.eq (.map (some gm))),(44,.eq (TZ (some ⟨z,0,none⟩))),(45,.eq (.string n1)),(46,.eq (T0 Ag L.length cg)),(47,.eq (T1 #[.string n1,TY T6 n2,TY T6 n3,T0 Y O.length c5])),(48,KdR.TM z gm #[.string n1,TY T6 n2,TY T6 n3,T0 Y O.length c5]),(49,KdR.TE z gm)])
     (fun _ _ _ _ _ h1 h2=>StQ.kdS_mono h1 h2) (FJ w gm (p.rules.take k) l n1 (⟨n1,n2,n3,O⟩,T0 Y O.length c5) 9 49) ⟨by rw[af (by decide)];exact e0.out.grows (aS.refl w7).drew⟩ [40,41,42,43,44,45,46,47,48,49] [40,41,42,43,44,45,46,47,48,49] (by kernel_rfl) (by kernel_rfl) (by kernel_rfl) (by kernel_rfl) (by kernel_rfl) (by decide) ⟨?_,?_,?_,?_,?_,?_,?_,?_,?_,?_,trivial⟩ ?_
    ·exact StQ.st_eqk (gT z gm) 40 _ rfl rfl rfl (X 0 40 (by decide) (by decide)) (fun f a w h=>by have e4:a.eval (.tmp 4)=_:=h.was 4 (by decide) rfl;unfold execOp;simp only[e4];first|(simp[go_sem];done)|(simp[go_sem];omega)|(simp[go_sem, *];done))
    ·exact StQ.st_eqk (gT z gm) 41 _ rfl rfl rfl (X 1 41 (by decide) (by decide)) (fun f a w h=>by have e6:a.eval (.tmp 6)=_:=h.was 6 (by decide) rfl;unfold execOp;simp only[e6];first|(simp[go_sem];done)|(simp[go_sem];omega)|(simp[go_sem, *];done))
    ·exact StQ.st_eqk (gT z gm) 42 _ rfl rfl rfl (X 2 42 (by decide) (by decide)) (fun f a w h=>by have ho:a.eval (.tmp 41)=_:=h.Sr 41 (by decide) rfl;have hQ:a.tmps[41]?.getD undef=TZ (some ⟨z,0,none⟩):=(by have q:a.tmps.getD 41 undef=TZ (some ⟨z,0,none⟩):=ho;simpa using q);unfold execOp;simp only[ho];first|(simp[go_sem,(show w.cell? ⟨z,0,none⟩=some (.string n1) from(h.frame.blk z _ _ (ae _) B6.out).cell 0),hQ];done)|(simp[go_sem,(show w.cell? ⟨z,0,none⟩=some (.string n1) from(h.frame.blk z _ _ (ae _) B6.out).cell 0),hQ];omega)|(simp[go_sem, *];done))
    ·exact StQ.st_eqk (gT z gm) 43 _ rfl rfl rfl (X 3 43 (by decide) (by decide)) (fun f a w h=>by have e4:a.eval (.tmp 4)=_:=h.was 4 (by decide) rfl;unfold execOp;simp only[e4];first|(simp[go_sem];done)|(simp[go_sem];omega)|(simp[go_sem, *];done))
    ·exact StQ.st_eqk (gT z gm) 44 _ rfl rfl rfl (X 4 44 (by decide) (by decide)) (fun f a w h=>by have e6:a.eval (.tmp 6)=_:=h.was 6 (by decide) rfl;unfold execOp;simp only[e6];first|(simp[go_sem];done)|(simp[go_sem];omega)|(simp[go_sem, *];done))
    ·exact StQ.st_eqk (gT z gm) 45 _ rfl rfl rfl (X 5 45 (by decide) (by decide)) (fun f a w h=>by have h8:a.eval (.tmp 44)=_:=h.Sr 44 (by decide) rfl;have i3:a.tmps[44]?.getD undef=TZ (some ⟨z,0,none⟩):=(by have q:a.tmps.getD 44 undef=TZ (some ⟨z,0,none⟩):=h8;simpa using q);unfold execOp;simp only[h8];first|(simp[go_sem,(show w.cell? ⟨z,0,none⟩=some (.string n1) from(h.frame.blk z _ _ (ae _) B6.out).cell 0),i3];done)|(simp[go_sem,(show w.cell? ⟨z,0,none⟩=some (.string n1) from(h.frame.blk z _ _ (ae _) B6.out).cell 0),i3];omega)|(simp[go_sem, *];done))
    ·refine StQ.st_eqk (gT z gm) 46 _ rfl rfl rfl (X 6 46 (by decide) (by decide)) (fun f a W h=>?_);have n9:=h.Sr 43 (by decide) rfl;have mq:=h.Sr 45 (by decide) rfl;have hp:=dl.out W (h.frame.row l e0.out.row);unfold execOp;simp only[n9,mq,aY,hp,bd];rfl
    ·refine StQ.st_eqk (gT z gm) 47 _ rfl rfl rfl (X 7 47 (by decide) (by decide)) (fun f a W h=>?_);have e7:a.eval (.tmp 7)=TZ (some ⟨y,0,none⟩):=h.was 7 (by decide) rfl;have hc:=nj.out W (h.frame.blk y _ _ (by omega) B7.out);unfold execOp;simp only[e7,Instr.loadAt,Instr.sureAddr,aY,jF,bd,run_loadVar_mid W y 0 80 _ _ hc underlying80 rfl (by kernel_rfl)]
    ·refine StQ.st_kd 48 rfl rfl rfl fun f a W h=>?_
     have oi:=h.Sr 47 (by decide) rfl;have hb:∀W:Ub,(Instr.buildSlice 44 1 #[(0,T1 #[.string n1,TY T6 n2,TY T6 n3,T0 Y O.length c5])]).run prog W=.ok (T0 (some ⟨W.heap.size,0,none⟩) 1 1) (W.alloc (Ua #[.string n1,TY T6 n2,TY T6 n3,T0 Y O.length c5] 80)):=fun W=>by kernel_rfl
     have mx:z<=W.heap.size:=by have:=h.frame.size;have e:w7.drew.heap.size=w7.heap.size:=rfl;omega
     unfold Oper.wp execOp;simp only[aQ,aJ,a8,oi,aY,hb W,bd];exact⟨_,rfl,⟨_,rfl,mx,bK.new W _ _⟩,De ((aS.refl W).alloc _),X 8 48 (by decide) (by decide) f a _ _ (h.state.grows ((aS.refl W).alloc _))⟩
    ·refine StQ.st_kd 49 rfl rfl rfl fun f a W h=>?_
     obtain⟨g,m4,q2,hb⟩:=h.kd 48 (by decide) rfl;have ms:=h.Sr 46 (by decide) rfl;have T:=h.state.st;have mv:f 9=false:=h.notYet;rw[af (by rw[mv];decide)]at T;obtain⟨o,ad,U⟩:=T.at_ n1;have ge:o.length=L.length:=by have:=eQ List.length ad;rw[<-HL.out]at this;simpa[eN]using this
     have hX:bh W W.heap.size 4 (some ⟨g,0,none⟩) 1 [.string n1,TY T6 n2,TY T6 n3,T0 Y O.length c5]:=⟨rfl,fun _=>⟨_,rfl,hb.lt,fun j x hx=>by rw[iq,cV,hb.cell j];simpa using hx⟩⟩;have ea:=U.2;rw[de.out,ge]at ea;refine fO W (.tmp 46) (.tmp 48) 44 rfl w.heap.size 80 ir _ 4 56 underlying44 i7 h9 i2 j2 rfl (by omega) (T0 Ag L.length cg) L.length (o.flatMap Cb) ms ea W.heap.size (some ⟨g,0,none⟩) 1 1 _ m4 hX (by simp[Value.oneCell']) (by simp only[maxLen];omega) (by omega) T.below.size ?_;intro v' w' g1 g2 g3;rw[<-de.out]at g2 g3;have hA:=T.append (k:=n1) (v1:=v') (n:=⟨n1,n2,n3,O⟩) (u:=T0 Y O.length c5) U g2 g3 (by rw[ge];exact g1) ⟨Y,c5,rfl,nw.out.keep h.frame.conds⟩;have c1:GMap.Row w' gm Value.string l:=hA.row;refine⟨v',rfl,trivial,⟨g2.size,fun i t cs hz cc=>cc.grown g2 (fun e=>by have:=ie i e.symm;omega),aU.grown g2 U.2 (by decide),aU.grown g2 U.2 (by decide),fun l' m3=>m3.grown g2 (fun e=>T.Tc e.symm rfl)⟩,⟨?_⟩⟩;rw[StQ.upd_self,aj rfl,StQ.put_same (by rw[h.size];exact(by decide:49<94))];exact⟨o,ad,hA⟩
    intro f g w9 fn ez ap ⟨a9,k7,hJ⟩;have T:=hJ.st;rw[aj (ap 9 (by omega)),k7 49]at T;have lf:f 40=_:=ez 0 _ 40 (by omega) rfl rfl _ rfl;have lm:f 42=_:=ez 2 _ 42 (by omega) rfl rfl _ rfl;have h5:bK w9 w.heap.size 46 #[TY T6 p.kind,TY T6 p.num,T2 p.x32,T0 (some ⟨b,aE,none⟩) n c]:=fn.pol _ _ _ F.out;have lp:bK w9 (w.heap.size+1) 46 #[TY T6 0,TY T6 0,T2 false,T0 none 0 0]:=fn.pol _ _ _ G.out;simp only[Any.fill,bC,bL,aq,aI,aH,bg,bZ];rw[lf,lm];clear fn ez ap k7 hJ X lf lm;generalize f 41=rk,f 43=rn,f 44=q6,f 45=qr,f 46=pv,f 47=ps,f 48=rl,f 49=q1 at*;obtain⟨o,ad,hA⟩:=T;have Z:=hA.row;obtain⟨fu,HA,n6,m0⟩:=aB ad hA h5 lp;clear ad hA h5 lp;refine GMap.wpList_put rfl 192 (.tmp 40) (.tmp 42) (.tmp 49) rfl 44 vn underlying192 gm l n1 _ rfl rfl rfl Z ?_;intro px ey bl;have hP:=FL.put (r:=⟨n1,xk,xm,xc⟩) (n:=⟨n1,n2,n3,O⟩) e0.out HA.out ey bl (fy.out o fu.out);have ej:=n6.out.grown bl (fun e=>eq.out.1 (by injection e));have ec:=m0.out.grown bl (fun e=>eq.out.2 (by injection e));obtain⟨HP,ll,io⟩:=aC hP ej ec;clear hP ej ec;clear ey bl Z;go_wp2_with fail;go_roundw;case rel=>exact⟨k+1,_,by omega,by go_num,by rw[bA.out];exact HP.out,ll.out,io.out⟩
    case measure=>simp[intOf];omega
  obtain rfl:n=k:=by omega
  rw[bI (by rw[HN.out];exact ae _)]at V;have er:wr.rangeAt w.heap.size 0 [TY T6 p.kind,TY T6 p.num]:=fun j v hv=>by
   rw[cV,s.cell];match j,hv with
   |0,hv=>simpa using hv
   |1,hv=>simpa using hv
  have gg:=s.cell 2;simp only[ao]at gg;have N:aS wr (wr.alloc (Ua #[TY T6 p.kind,TY T6 p.num,T2 p.x32,T0 none 0 0] 46)):=(aS.refl _).alloc _;have k6:=V.grows N;have s:=s.below N s.lt;have b1:=b1.below N b1.lt;have b9:=bK.new wr 46 #[TY T6 p.kind,TY T6 p.num,T2 p.x32,T0 none 0 0];have j1:w.heap.size+2<=wr.heap.size:=by
   have:=dw b1;have h3:=nr.out;have:=V.row.lt;omega
  have jt:=fun(w0:Ub)=>Ln (some gm) w0
  clear V;obtain⟨la,F,G,B9,a7,ih,hs⟩:=az k6 s b1 b9 N j1 jt;clear k6 s b1 b9 N j1 jt;go_wp2_with (refine wpList_load_mid rfl _ (.tmp 51) rfl w.heap.size 0 rfl _ _ er underlying43 rfl (by kernel_rfl) ?_;simp only[Act.put,aq,aI,aH]);refine(hs.out _).mono ?_;rintro e w5 ⟨rfl,rfl⟩;have bm:=bK.new (wr.alloc (Ua #[TY T6 p.kind,TY T6 p.num,T2 p.x32,T0 none 0 0] 46)) 192 #[.map (some gm)];have cl:aS (wr.alloc (Ua #[TY T6 p.kind,TY T6 p.num,T2 p.x32,T0 none 0 0] 46)) ((wr.alloc (Ua #[TY T6 p.kind,TY T6 p.num,T2 p.x32,T0 none 0 0] 46)).alloc (Ua #[.map (some gm)] 192)):=(aS.refl _).alloc _;have bB:=la.out.grows cl;have fd:=Fb _ gm l _ bm.lt (bm.cell 0) bB.row bB.nodup (fun q hq=>by
   obtain⟨r,hr,e⟩:=bB.names q.1 (bt.2 ⟨q,hq,rfl⟩);rw[<-e];exact(ga.out r hr).2) (by have:=bB.len;rw[HN.out]at this;omega)
  have d6:(wr.alloc (Ua #[TY T6 p.kind,TY T6 p.num,T2 p.x32,T0 none 0 0] 46)).heap.size=wr.heap.size+1:=by simp
  rw[d6]at fd;have s:=F.out.below cl F.out.lt;have b1:=G.out.below cl G.out.lt;have b9:=B9.out.below cl B9.out.lt;clear bm cl er gg d6;obtain⟨hS,ii,F,G,B9⟩:=aG fd bB s b1 b9;clear fd bB s b1 b9;go_wp2_with fail;refine hS.out.mono ?_;rintro e w6 ⟨An,cn,ks,rfl,ag,ld,hE⟩;have b8:aS _ w6:=hE;have bO:=ii.out.grows b8;have s:=F.out.below b8 F.out.lt;have b1:=G.out.below b8 G.out.lt;have b9:=B9.out.below b8 B9.out.lt;have es:ks.Nodup:=ag.nodup_iff.2 bO.nodup;have ci:∀k,cN p.rules k≠[]->k∈ks:=fun k hk=>by
   rw[ag.mem_iff];refine Classical.not_not.1 fun h=>hk (bO.none k (GMap.look_none.2 h))
  have p0:ks.length<=1000:=by have:=ag.length_eq;have h2:=bO.len;rw[HN.out]at h2;simp at this;omega
  clear ag hE b8;generalize eg:ks.length=nk at*;have et:w.heap.size<=wr.heap.size/\w.heap.size≠wr.heap.size/\w.heap.size+1≠wr.heap.size:=by have:=ih.out;omega
  generalize wr.heap.size=y at*;have d9:=bO.below;clear hS ii F G B9 la a7 hs ih;obtain⟨iu,F,G,B9,nv,ia,f3,a0,hK⟩:=ay bO s b1 b9 ld es ci eg d9;have cr:=Lib.hid et;clear bO s b1 b9 ld es ci eg d9 et;go_wp2_with fail;go_loopw [60] (fun gl wr=>∃(j:Nat) (L:List (Rl×Uc)) (v:Uc),j<=nk/\gl=TY T6 j/\eN L=(ks.take j).flatMap (eR p)/\jk wr w.heap.size v L/\(∀g,v.ownBlock=some g->w6.heap.size<=g)/\bK wr y 46 #[TY T6 p.kind,TY T6 p.num,T2 p.x32,v]/\lP w6.heap.size y w6 wr/\Below w.heap.size w wr/\w6.heap.size<=wr.heap.size) (fun gl _=>nk - (intOf gl).toNat)
  case atStart=>exact⟨0,[],_,by omega,rfl,rfl,⟨fun q hq=>by(cases hq),aX _ _ _ _⟩,fun g h=>by simp[Value.ownBlock]at h,B9.out,fun _ _ _=>rfl,hK.out,ae _⟩
  case round=>
   obtain⟨j,L,v,hj,rfl,hL,hO,ft,b9,a4,d1,i4⟩:=hrel;by_cases ba:j<nk
   ·have q5:(j:Int)<(nk:Int):=by omega
    have ev:=nv.out.keep (a4.Su B9.out (by decide));obtain⟨gA,jp,oo,pt,rfl,f2,j5⟩:=ev.2 (by omega);have m8:wr.cell? ⟨gA,jp+j,none⟩=some (.string (ks.getD j default)):=by
     simp only[World.cell?,f2];exact j5 j _ (by rw[cO,ah (by rw[a0.out];exact ba),aa,ah (by rw[a0.out];exact ba)];rfl)
    have ix:gA<wr.heap.size:=dw f2;have E:=lK ks j (by rw[a0.out];exact ba);generalize ks.getD j default=key at*;obtain⟨o,ad,U⟩:=iu.out.at_ key;have U:=a4.Te B9.out U;have Z:=a4.row B9.out iu.out.row;obtain⟨Ag,cg,be,p1,gg,d2⟩:=tp U.2;have H:=GMap.run_look Z vn 192 44 underlying192 key (T0 none 0 0) (by kernel_rfl);rw[show(GMap.look l key).getD (T0 none 0 0)=pX l key from rfl,be]at H;have ge:o.length<=1000:=by
     have h1:=eQ List.length ad;simp only[eN,bu]at h1;rw[h1];exact ax (rR _ key) (by rw[HN.out];exact hl)
    clear ev f2 j5;generalize em:o.length=n0 at*;have d2:fB wr 80 4 Ag n0 (o.flatMap Cb):=d2;have k1:w6.heap.size<=wr.heap.size:=i4;obtain⟨h7,HL,HO,ln,B9,fx,cb,bA,fu⟩:=ay k1 hL hO ft b9 a4 d1 E ad;obtain⟨lc,o5,de,kk,bq⟩:=aG U Z be d2 em;clear k1 hL hO ft b9 a4 d1 E ad U Z be d2 em;iterate 48 go_step
    go_cut [12] from 67 to 86 (fun cf wx=>∃m:Nat,cf=T0 Ag m cg/\m<=n0/\eN (o.take m)=eR p key/\aS wr wx)
    case first=>
     obtain⟨W7,n5⟩:∃W7,W7=wr:=⟨_,rfl⟩;subst n5;have d8:bK W7 w.heap.size 46 #[TY T6 p.kind,TY T6 p.num,T2 p.x32,T0 A n c]:=(fx.out w.heap.size (dw F.out) cr.out.2.1).trans F.out;have d4:fU p (eN (o.take n0))=eR p key:=by rw[<-bq.out,iW,fu.out];rfl
     clear m8 ix;obtain⟨eu,g7⟩:=aA d8 d4;clear d8 d4;go_step;go_loopw [12] (fun cf wr=>∃m:Nat,cf=T0 Ag m cg/\m<=n0/\fU p (eN (o.take m))=eR p key/\aS W7 wr) (fun cf _=>PK cf)
     case atStart=>exact⟨n0,rfl,ae _,g7.out,aS.refl _⟩
     case round=>
      obtain⟨m,rfl,hm,bf,C⟩:=hrel;clear H;have M:=eu.out.below C eu.out.lt;by_cases h0:m=0
      ·have hf:decide ((0:Int)<(m:Nat))=false:=aK (by omega);have q4:decide (0<m)=false:=aK (by omega);have ck:eN (o.take m)=eR p key:=by rw[<-bf,h0];rfl
       clear h0;obtain⟨qb,gn,cd,ei⟩:=aB bf ck C M;clear bf ck C M;go_wp2_with fail;go_quiet (fail);go_wp2_with fail;go_meet;exact⟨m,rfl,hm,gn.out,cd.out.trans (FI wr nq)⟩
      have pp:(0:Int)<(m:Nat):=by omega
      have o2:0<m:=by omega
      obtain⟨S,ra⟩:∃S:Nat,(m:Int) - 1=(S:Nat):=⟨m - 1,by omega⟩;have ch:m=S+1:=by omega
      have hC:=kk.out.keep (aU.grows C);obtain⟨b,aE,pm,fr,rfl,cc,ff⟩:=hC.2 (by omega);have bk:S<o.length:=by rw[bq.out];omega
      have e3:∀i,i<4->(o.flatMap Cb)[S*4+i]? =(Cb o[S])[i]? :=fun i hi=>by
       have h:=jL Cb 4 (fun _=>rfl) (default,T0 none 0 0) o S i bk hi;have e2:o.getD S (default,T0 none 0 0)=o[S]:=by simp[aa,ah bk]
       rw[e2]at h;exact h
      have hV:wr.rangeAt b (aE+S*4+1) [TY T6 o[S].1.kind,TY T6 o[S].1.num]:=fun i v hv=>by
       simp only[World.cell?,cc];match i,hv with
       |0,hv=>rw[cP,eF];exact ff _ v ((e3 1 (by omega)).trans hv)
       |1,hv=>rw[show aE+S*4+1+1=aE+(S*4+2)by omega];exact ff _ v ((e3 2 (by omega)).trans hv)
      have id:wr.rangeAt w.heap.size 0 [TY T6 p.kind,TY T6 p.num]:=fun i v hv=>by
       rw[cV,M.cell];match i,hv with
       |0,hv=>simpa using hv
       |1,hv=>simpa using hv
      have E:=zm (fun r:Rl=>decide (r.kind=p.kind/\r.num=p.num)) (eN o) S (by simp[eN];exact bk);have e4:(eN o).getD S default=o[S].1:=by simp[eN,aa,cO,ah bk]
      have e5:∀q,eN (o.take q)=(eN o).take q:=fun q=>by simp[eN,Du]
      rw[e4,<-ch,<-e5,<-e5]at E;generalize o[S].1.kind=ak at*;generalize o[S].1.num=an at*;have hT:b<wr.heap.size:=dw cc;have im:w.heap.size<wr.heap.size:=dw M;have i8:=fun W=>PQ ak an p.kind p.num W
      have pu:(S:Int)<=(cg:Nat):=by omega
      have pi:(m:Int)<=(cg:Nat):=by omega
      have o7:(S:Int)<(m:Nat):=by omega
      have n7:m<=1000:=by omega
      clear ff e3 cc e4 hC;by_cases hq:ak=p.kind/\an=p.num
      ·rw[aj (by simpa using hq)]at E;have hd:decide (ak=p.kind/\an=p.num)=true:=bM hq;rw[hd]at i8;clear hq hd;have ed:fU p (eN (o.take S))=eR p key:=by rw[<-bf];exact E.symm
       clear E bf e5;obtain⟨kt,cd,ei,lo⟩:=aB ed C M ch;clear ed C M ch;go_wp2_with fail;refine dO (by kernel_rfl) (by kernel_rfl) ?_;repeat(first
        |go_big_quiet_skip
        |(go_big_quiet_want
          first
           |(refine ik 43 (.tmp 76) rfl _ _ rfl _ _ (kZ hV hT) underlying43 rfl (by kernel_rfl) ?_;simp only[Act.put,aq,aI,aH];go_big_quiet_on)
           |(refine ik 43 (.tmp 78) rfl _ _ rfl _ _ (kZ id im) underlying43 rfl (by kernel_rfl) ?_;simp only[Act.put,aq,aI,aH];go_big_quiet_on)
           |(go_big_quiet_op
             first
              |go_big_quiet_on)))
       refine wpQuiet_nil ?_;intro w9 ap;have ar:=cd.out.trans (show aS wr w9 from ap);clear ap;have b3:=Lib.hid ar;clear ar;go_wp2_with fail;go_roundw;case rel=>exact⟨S,rfl,by omega,kt.out,b3.out⟩
       case measure=>have:=lo.out;simp[PK];omega
      rw[af (by simpa using hq)]at E;have hd:decide (ak=p.kind/\an=p.num)=false:=aK hq;rw[hd]at i8;clear hq hd;have ck:eN (o.take m)=eR p key:=by rw[<-bf];exact E.symm
      clear E bf e5;obtain⟨gn,cd,ei,lo⟩:=aB ck C M ch;clear ck C M ch;go_wp2_with fail;refine dO (by kernel_rfl) (by kernel_rfl) ?_;repeat(first
       |go_big_quiet_skip
       |(go_big_quiet_want
         first
          |(refine ik 43 (.tmp 76) rfl _ _ rfl _ _ (kZ hV hT) underlying43 rfl (by kernel_rfl) ?_;simp only[Act.put,aq,aI,aH];go_big_quiet_on)
          |(refine ik 43 (.tmp 78) rfl _ _ rfl _ _ (kZ id im) underlying43 rfl (by kernel_rfl) ?_;simp only[Act.put,aq,aI,aH];go_big_quiet_on)
          |(go_big_quiet_op
            first
             |go_big_quiet_on)))
      refine wpQuiet_nil ?_;intro w9 ap;have ar:=cd.out.trans (show aS wr w9 from ap);clear ap;have b3:=Lib.hid ar;clear ar;go_wp2_with fail;go_meet;exact⟨m,rfl,hm,gn.out,b3.out⟩
    case rest=>
     obtain⟨m,rfl,hm,T,C⟩:=hcut;have e8:=jk.grows HO.out C;have b4:=B9.out.below C B9.out.lt;have dp:=b4.cell 3;have rd:=b4.frozen 3;simp only[ao]at dp;have co:bh wc wc.heap.size 4 Ag m ((o.take m).flatMap Cb):=(L7 (kk.out.keep (aU.grows C)) Cb (fun _=>rfl) o bq.out m hm).reads;have en:∀u∈(o.take m).flatMap Cb,u.oneCell'=true:=fun u hu=>by
      obtain⟨q,hq,hx⟩:=db.1 hu;obtain⟨A9,c9,e9,_⟩:=lc.out.1 q (gj hq);unfold Cb at hx;rw[e9]at hx;simp only[aP,bQ,eW]at hx;rcases hx with rfl|rfl|rfl|rfl<;>rfl
     have mu:L.length<=1000000:=by
      have h1:=eQ List.length HL.out;simp only[eN,bu]at h1;rw[h1];have:=rS (eR p) 1000 (fun k=>by
       show(fU p (cN p.rules k)).length<=1000
       exact ax (rB _ _) (ax (rR _ k) (by rw[HN.out];exact hl))) (ks.take j)
      rw[bJ]at this;have:min j ks.length<=1000:=by rw[a0.out];omega
      have:min j ks.length*1000<=1000*1000:=AE _ this;omega
     have n7:m<=1000:=by omega
     have g8:v.ownBlock≠some y:=cY e8.2 b4 (by decide);have k2:Below w.heap.size w wc:=cb.out.trans (C.mono cb.out.size);have ex:lP w6.heap.size y w6 wc:=fun i hi hy=>(C.block i (by have:=fx.out;have:=h7.out;omega)).trans (fx.out i hi hy)
     have eo:=jk.grows lc.out C;obtain⟨dk,n8,fb,jf,oe,gf,he,kl,m6⟩:=ay e8 b4 co en g8 k2 ex eo T;clear e8 b4 co en g8 k2 ex eo T;go_at_K;go_wp2_with (at_builtin;go_loud (refine cU _ rfl (.tmp 88) (.tmp 89) 44 rfl w.heap.size 80 ir _ 4 56 underlying44 i7 h9 i2 j2 rfl (by omega) v L.length (L.flatMap Cb) rfl dk.out.2 _ Ag m cg _ rfl fb.out jf.out (by simp only[maxLen];omega) (by omega) gf.out.size ?_);intro v' w8 h1 h2 h3;obtain⟨A9,c9,rfl,_⟩:=cX h1;have c3:=n8.out.grown h2 (fun e=>oe.out e.symm);have nx:=c3.cell 3;have q3:=c3.frozen 3;simp only[ao]at nx;have h4:=Lib.hid h1;have c8:=Lib.hid h2;have oj:=Lib.hid h3;have gb:=Lib.hid c3;clear h1 h2 h3 c3);have k0:aU 162 wc (w8.setCell ⟨y,3,none⟩ (T0 A9 (L.length+m) c9)):=(aU.grown c8.out dk.out.2 (by decide)).trans (aU.SB (i:=3) gb.out (by decide) _);have o4:wc.heap.size<=w8.heap.size:=c8.out.size;have op:w6.heap.size<=wc.heap.size:=ax h7.out C.size;go_roundw;case rel=>
      refine⟨j+1,L++o.take m,T0 A9 (L.length+m) c9,by omega,by go_num,?_,⟨fun q hq=>?_,?_⟩,fun g hg=>?_,?_,fun i hi hy=>?_,?_,?_⟩
      ·have e1:eN (L++o.take m)=eN L++eN (o.take m):=by simp[eN]
       rw[e1,HL.out,m6.out,bA.out,bX];simp
      ·rcases bT.1 hq with hq|hq
       ·exact(dk.out.1 q hq).keep k0
       exact(kl.out.1 q (gj hq)).keep k0
      ·have h:=h4.out.kept (iE w8 y 3 (T0 A9 (L.length+m) c9)) (.inr (cY h4.out gb.out (by decide)));have el:(L++o.take m).length=L.length+m:=by rw[bw,bJ,bq.out,qd hm]
       rw[el,bX];exact h
      ·rcases oj.out with h3|h3
       ·exact ln.out g (h3.symm.trans hg)
       rw[h3]at hg;injection hg with hg;omega
      ·have:=gb.out.set_ 3 (T0 A9 (L.length+m) c9);simpa using this
      ·refine(cK w8 ⟨y,3,none⟩ _ i (fun e=>hy e)).trans ((c8.out.block i (by omega) (fun e=>?_)).trans (he.out i hi hy));have:=ln.out i e.symm;omega
      ·exact(gf.out.grown c8.out gf.out.size (fun k e=>nH dk.out.2 e)).setCell (p:=⟨y,3,none⟩) cr.out.1 _
      simp[World.setCell];omega
     case measure=>simp[intOf];omega
   obtain rfl:nk=j:=by omega
   obtain⟨nm,kw,e2⟩:=Nz (p:=p) ia.out f3.out;rw[bI (by rw[a0.out];exact ae _)]at hL;have ha:bK wr (w.heap.size+1) 46 #[TY T6 0,TY T6 0,T2 false,T0 none 0 0]:=(a4 (w.heap.size+1) (dw G.out) cr.out.2.2).trans G.out;obtain⟨Av,cv,rfl,_⟩:=cX hO.2;obtain⟨HL,HO,B9,cb,f5,mb,E2⟩:=az hL hO b9 d1 ha kw e2;clear hL hO b9 d1 ha kw e2;clear a4 ft;go_wp2_with (first
    |(refine dv rfl 46 (.tmp 9) rfl y rfl 46 #[TY T6 p.kind,TY T6 p.num,T2 p.x32,T0 Av L.length cv] (0,0) _ B9.out underlying46 rfl (by kernel_rfl) ?_)
    |(refine aR rfl 46 (.tmp 2) (.tmp 93) rfl (w.heap.size+1) #[TY T6 p.kind,TY T6 p.num,T2 p.x32,T0 Av L.length cv] rfl rfl 46 _ f5.out (by kernel_rfl) rfl (by simp[Value.oneCell']) ?_;intro w7 b7 J))
   have ct:=cb.out.grown J cb.out.size (fun k e=>by cases e;omega);refine aO (bH (p:=2) (q:=3) (ty:=46) rfl _ _ (w.heap.size+1) _ _ _ _ _ rfl rfl b7 underlying46 rfl (by kernel_rfl)) rfl ?_;refine⟨nm,L,T0 Av L.length cv,mb.out,by rw[HL.out];exact E2.out.symm,⟨fun q hq=>(HO.out.1 q hq).keep (aU.Sv J f5.out (by decide)),HO.out.2.kept J (.inr ?_)⟩,rfl,ct⟩;exact cY HO.out.2 f5.out (by decide)
structure Dg(p:Po)(l:List Rw)(k:Nat):Prop where
 right:kB p=true
 good:gv l
 named:∀j,j<k->∃x∈l,x.name=(p.rules.getD j default).name
def wG(p:Po)(l:List Rw)(w:Ub)(e:Ending)(w':Ub):Prop:=(∃i a:Int,e=.returned (T4 #[TY T6 i,TY T6 a])/\(a=0->Dg p l p.rules.length))/\Below w.heap.size w w'
theorem qT{p:Po}{l:List Rw}{i a:Int}{w w':Ub}(h:Below w.heap.size w w')(b:a≠0):wG p l w (.returned (T4 #[TY T6 i,TY T6 a])) w':=⟨⟨i,a,rfl,fun h=>absurd h b⟩,h⟩
theorem lL{p:Po}(h:kB p=true){r:Rl}(e:r∈p.rules):r.name.size<=30/\eT r.kind r.num=true/\r.conds.length<=6/\∀c∈r.conds,fS c=true:=by
 unfold kB at h;simp only[bG,cL]at h;have b:=h.2 r e;unfold pB at b;simp only[bG,cL,aV]at b;obtain⟨⟨⟨a,g⟩,d⟩,f⟩:=b;refine⟨?_,g,d,f⟩;unfold jQ at a;simp only[bG,aV]at a;exact a.1.1.2
theorem Oq{l:List Rw}(a:∀r∈l,r.nums.length=5)(h:gv l):JR l:=⟨a,by have:=h.len;omega,pC h.up,(N4 a h.up).names⟩
theorem FN(p:Po)(l:List Rw)(h5:∀r∈l,r.nums.length=5)(cr:∀r∈l,r.name.size<=9223372036854775807)(g7:l.length<=1000000)(d5:p.rules.length<=1000000)(b7:∀r∈p.rules,r.conds.length<=1000000/\r.name.size<=9223372036854775807)(ci:∀r∈p.rules,∀c∈r.conds,c.Ok)
  (A:Option Addr)(c:Nat)(A2:Option Addr)(c2:Nat)(w:Ub)(hp:eI w w.heap.size A p.rules)(hr:jv w w.heap.size A2 l)(ht:kC w):
  Calls prog 29 #[nu p A c,T0 A2 l.length c2] w (wG p l w):=by
 have co:kB p=true->gv l->∀k,(∀j,j<k->∃x∈l,x.name=(p.rules.getD j default).name)->Dg p l k:=fun a b k h=>⟨a,b,h⟩
 have ct:=fun(h:kB p=true) r hr=>lL h (r:=r) hr
 have bB:=fun(W:Ub) (hW:Below w.heap.size w W)=>uu p d5 b7 A c w.heap.size W hW.size (hp.below hW)
 unfold nu at bB⊢;obtain⟨pk,pn,px,rs⟩:=p;simp only at d5 b7 ci hp bB co ct⊢;have cm:=fun(W:Ub) (hW:Below w.heap.size w W)=>wu l h5 cr g7 A2 c2 W ((hr.below hW).more hW.size)
 unfold pE at cm;have bq:=((aw w.heap.size w).alloc (ae _) (Ua #[TY T6 pk,TY T6 pn,T2 px,T0 A rs.length c] 46)).alloc (by simp) (Ua #[T0 A2 l.length c2] 48);have b0:=(bK.new w 46 #[TY T6 pk,TY T6 pn,T2 px,T0 A rs.length c]).alloc (Ua #[T0 A2 l.length c2] 48);have b1:bK ((w.alloc (Ua #[TY T6 pk,TY T6 pn,T2 px,T0 A rs.length c] 46)).alloc (Ua #[T0 A2 l.length c2] 48)) (w.heap.size+1) 48 #[T0 A2 l.length c2]:=dP w _ _ _;have a2:((w.alloc (Ua #[TY T6 pk,TY T6 pn,T2 px,T0 A rs.length c] 46)).alloc (Ua #[T0 A2 l.length c2] 48)).heap.size=w.heap.size+2:=by simp
 have c7:=@run_makeMap (prog);generalize hm:rs.length=m at*;generalize hn:l.length=n at*;generalize er:kB ⟨pk,pn,px,rs⟩=rv at*;obtain⟨am,B0,B1,bW,HM,HN,jj,hF,hJ⟩:=ay bq b0 b1 a2 hm hn er co ct;obtain⟨hw,hq,H5,i5,k0,g1,HP,HR,HT⟩:=ay bB cm h5 cr b7 ci hp hr ht;have g0:=Lib.hid c7;clear bq b0 b1 a2 hm hn er co ct bB cm h5 cr b7 ci hp hr ht c7;go_enter func29,ntmps29;go_wp2_with fail;refine(hw.out _ am.out).mono ?_;rintro e w2 ⟨rfl,a5⟩;have em:=bW.out;have hH:=a5.size;have b0:=B0.out.below a5 (by omega);have b1:=B1.out.below a5 (by omega);have av:=am.out.trans (a5.mono (by omega));cases rv with
 |false=>
  obtain⟨ar,B0,B1⟩:=aC av b0 b1;clear av b0 b1;clear a5;go_wp2_with fail;go_ret2;exact qT ar.out (by omega)
 |true=>
  have c1:=b1.cell 0;simp only[ao]at c1;obtain⟨ar,B0,B1⟩:=aC av b0 b1;clear av b0 b1;clear a5;go_wp2_with fail;refine(hq.out _ ar.out).mono ?_;rintro e Z ⟨⟨i3,e3,rfl,c4⟩,a3⟩;have ha:=a3.size;have b0:=B0.out.below a3 (by omega);have b1:=B1.out.below a3 (by omega);have aE:=ar.out.trans (a3.mono (by omega));by_cases he:e3=0
  ·have an:=c4.1 he;have fb:=Oq H5.out an;have c7:=g0.out;have ec:=(aE.alloc (by omega) (.map #[] 0)).alloc (by simp;omega) (Ua #[.map (some Z.heap.size)] 182);have c5:=(b0.alloc (.map #[] 0)).alloc (Ua #[.map (some Z.heap.size)] 182);have fy:=(b1.alloc (.map #[] 0)).alloc (Ua #[.map (some Z.heap.size)] 182);have d9:bK ((Z.alloc (.map #[] 0)).alloc (Ua #[.map (some Z.heap.size)] 182)) (Z.heap.size+1) 182 #[.map (some Z.heap.size)]:=dP Z _ _ _;have fi:y8 ((Z.alloc (.map #[] 0)).alloc (Ua #[.map (some Z.heap.size)] 182)) Z.heap.size []:=GMap.Row.alloc (GMap.Row.new Z Value.string) _;have ei:((Z.alloc (.map #[] 0)).alloc (Ua #[.map (some Z.heap.size)] 182)).heap.size=Z.heap.size+2:=by simp
   have d3:=c5.cell 3;simp only[ao]at d3;subst he;obtain⟨g4,jp,ho,fu,g2,hi,cn,hG⟩:=aD ec c5 fy d9 fi ei an fb;clear ec c5 fy d9 fi ei an fb;clear c4 a3 aE b0 b1;go_wp2_with fail;generalize ((Z.alloc (.map _ 0)).alloc (Ua _ 182))=W4 at*;have kp:w.heap.size+2<=Z.heap.size:=by omega
   have ir:W4.heap.size=Z.heap.size+2:=hi.out;generalize cd:Z.heap.size=gm at*;have id:=Lib.hid cd;clear cd;clear ha em hH d3;obtain⟨L,cp⟩:∃L,L=gm+1:=⟨_,rfl⟩;rw[<-cp]at fu⊢;have h4:gm<L:=by omega
   have h8:L<=gm+1:=by omega
   have i8:=Lib.hid cp;clear cp;go_loopw [31] (fun i wr=>∃k ks,k<=m/\i=TY T6 (k:Nat)/\y8 wr gm ks/\bK wr L 182 #[.map (some gm)]/\bK wr (w.heap.size+1) 48 #[T0 A2 n c2]/\(∀j,j<k->∃x∈l,x.name=(rs.getD j default).name)/\Below w.heap.size w wr) (fun i _=>m - (intOf i).toNat)
   case atStart=>exact⟨0,[],by omega,rfl,g2.out,fu.out,ho.out,fun j hj=>absurd hj (by omega),g4.out⟩
   case round=>
    obtain⟨k,ks,hk,rfl,bN,b3,cu,ba,hB⟩:=hrel;by_cases cv:k<m
    ·obtain⟨b,b4,A',c',rfl,hb,h0,h1,h2,h3,b2⟩:=HP.out.at_ (k:=k) (by rw[HM.out];exact cv);have h0:=(hB.cell (p:=⟨b,b4+k*4,none⟩) hb).trans h0;have h1:=(hB.cell (p:=⟨b,b4+k*4+1,none⟩) hb).trans h1;have h2:=(hB.cell (p:=⟨b,b4+k*4+2,none⟩) hb).trans h2;have h3:=(hB.cell (p:=⟨b,b4+k*4+3,none⟩) hb).trans h3;have eu:=hJ.out (by first|rfl|trivial) _ (gu (l:=rs) (k:=k) (by rw[HM.out];exact cv));have a0:=g1.out _ (gu (l:=rs) (k:=k) (by rw[HM.out];exact cv));have bl:(∃x∈l,x.name=(rs.getD k default).name)->∀j,j<k+1->∃x∈l,x.name=(rs.getD j default).name:=fun h j hj=>by
      rcases dB j k with e|e
      ·exact ba j e
      obtain rfl:j=k:=by omega
      exact h
     generalize rs.getD k default=ck at*;obtain⟨nm,kd,nn,cs⟩:=ck;simp only at h0 h1 h2 h3 b2 eu a0 bl;obtain⟨h7,et,iu,cy⟩:=eu;have ip:(k:Int)<(m:Int):=by omega
     have g3:=hB.size;have kt:b<wr.heap.size:=by omega
     have bq:=hB.alloc g3 (Ua #[.string nm,TY T6 kd,TY T6 nn,T0 A' cs.length c'] 80);have bS:=bK.new wr 80 #[.string nm,TY T6 kd,TY T6 nn,T0 A' cs.length c'];have eq:=b3.alloc (Ua #[.string nm,TY T6 kd,TY T6 nn,T0 A' cs.length c'] 80);have ej:=cu.alloc (Ua #[.string nm,TY T6 kd,TY T6 nn,T0 A' cs.length c'] 80);have en:=GMap.Row.alloc bN (Ua #[.string nm,TY T6 kd,TY T6 nn,T0 A' cs.length c'] 80);have a2:(wr.alloc (Ua #[.string nm,TY T6 kd,TY T6 nn,T0 A' cs.length c'] 80)).heap.size=wr.heap.size+1:=by simp
     have c0:=bS.cell 0;have c3:=bS.cell 3;simp only[ao]at c0 c3;have hY:=bN.lt;have ia:=b3.lt;have bf:=fun(W:Ub) (hW:Below w.heap.size w W)=>PH cs (by omega) (fun x hx=>⟨cy x hx,a0 x hx⟩) A' c' W ((b2.below hW).more hW.size) (HT.out.below hW (ae _))
     unfold gz at bf;obtain⟨am,ey,f5,d7,f7,bW,hS,e5,jf⟩:=ay bq bS eq ej en a2 b2 a0 ba;obtain⟨ev,i0,lc,HB,cf⟩:=aG bl cy et hB bf;clear bq bS eq ej en a2 b2 a0 ba bl cy et hB bf;clear bN b3 cu;go_wp2_with fail;have em:=bW.out;generalize (wr.alloc (Ua _ 80))=W1 at*;generalize wr.heap.size=o at*;have c0:W1.drew.cell? ⟨o,0,none⟩=some (.string nm):=c0;have c3:W1.drew.cell? ⟨o,3,none⟩=some (T0 A' cs.length c'):=c3;clear h0 h1 h2 h3;refine Any.wp_region_tailD 8 eL (nQ [(38,.eq (TZ (some ⟨o,0,none⟩))),(39,.eq (.string nm)),(40,.str 31),(41,.eq (TZ (some ⟨o,3,none⟩))),(42,.eq (T0 A' cs.length c')),(43,.str 200000),(44,.str 200031),(13,.SJ W1.heap.size 9 #[.string ⟨#[]⟩])]) (fun _ _=>True) trivial [38,39,40,41,42,43,44,13] [38,39,40,41,42,43,44,13] (by kernel_rfl) (by kernel_rfl) (by kernel_rfl) (by kernel_rfl) (by kernel_rfl) (by decide) ⟨?_,?_,?_,?_,?_,?_,?_,?_,trivial⟩ ?_
     ·refine Any.st_j ?_;exact Any.st_old1 38 10 _ _ (.plain rfl) rfl (by decide) rfl (fun a w h=>by unfold execOp;simp only[h];first|(simp[go_sem];done)|(simp[go_sem];omega)|(simp[go_sem, *];done)) (fun _ _=>rfl)
     ·refine Any.st_j ?_;exact Any.sx_load_at 39 38 _ _ _ (.plain rfl) rfl rfl (by decide) rfl (by assumption) (fun w h=>by simp[go_sem,h]) rfl
     ·refine Any.st_j ?_;exact Any.sx_fit 40 (.plain rfl) rfl (fun a w h=>by have e:a.eval (.tmp 39)=_:=h.eqv 39 (by decide) rfl;refine⟨.string (nm++⟨#[58]⟩),?_,_,rfl,by rw[zK];show nm.size+1<=31;omega⟩;unfold execOp;simp only[e];simp[go_sem]<;>omega)
     ·refine Any.st_j ?_;exact Any.st_old1 41 10 _ _ (.plain rfl) rfl (by decide) rfl (fun a w h=>by unfold execOp;simp only[h];first|(simp[go_sem];done)|(simp[go_sem];omega)|(simp[go_sem, *];done)) (fun _ _=>rfl)
     ·refine Any.st_j ?_;exact Any.sx_load_at 42 41 _ _ _ (.plain rfl) rfl rfl (by decide) rfl (by assumption) (fun w h=>by simp[go_sem,h]) rfl
     ·refine Any.st_j ?_;exact Any.st_callv 43 _ (.plain rfl) rfl rfl func77 (by kernel_rfl) rfl (fun a w h=>by have hE:a.eval (.tmp 42)=_:=h.eqv 42 (by decide) rfl;simp only[aQ,aJ,a8,hE]<;>rfl) (fun W hW=>(cf.out W (am.out.drew.trans (hW.mono (am.out.size)))).mono (fun e w' h=>by obtain⟨⟨s,rfl,hs⟩,hA⟩:=h;exact⟨_,rfl,⟨s,rfl,hs⟩,hA⟩))
     ·refine Any.st_j ?_;exact Any.sx_fit 44 (.plain rfl) rfl (fun a w h=>by obtain⟨s1,e1,a2⟩:=h.at 40 (by decide);obtain⟨s2,e2,k1⟩:=h.at 43 (by decide);refine⟨.string (s1++s2),?_,_,rfl,by rw[zK];omega⟩;unfold execOp;simp only[e1,e2];simp[go_sem]<;>omega)
     ·refine Any.st_j ?_;exact Any.SH 13 _ _ _ _ (.plain rfl) rfl rfl (ae _) (fun W=>by kernel_rfl) rfl
     intro f w5 ap hf;have dg:f 38=TZ (some ⟨o,0,none⟩):=hf 38 rfl;have dl:f 39=.string nm:=hf 39 rfl;have hQ:=hf 40 rfl;have e4:f 41=TZ (some ⟨o,3,none⟩):=hf 41 rfl;have f6:f 42=T0 A' cs.length c':=hf 42 rfl;have hO:=hf 43 rfl;have hc:=hf 44 rfl;have hL:=hf 13 rfl;simp only[Any.fill,bC,bL,aq,aI,aH,bg,bZ,dg,dl,e4,f6];obtain⟨go_,hN,j5,bo⟩:=hL;obtain⟨D,hl,hX⟩:=hc;rw[hN,hl];have j2:W1.heap.size<=w5.heap.size:=ap.size;have hV:=bo.lt;have fz:=GMap.Row.setCell (GMap.Row.below (GMap.Row.drew f7.out) ap (by show gm<W1.heap.size;omega)) (p:=⟨go_,0,none⟩) (by simp only;omega) (.string D);have es:=(f5.out.drew.below ap (by show L<W1.heap.size;omega)).far (p:=⟨go_,0,none⟩) (by simp only;omega) (.string D);have f3:=(d7.out.drew.below ap (by show w.heap.size+1<W1.heap.size;omega)).far (p:=⟨go_,0,none⟩) (by simp only;omega) (.string D);have eg:=(ey.out.drew.below ap (by show o<W1.heap.size;omega)).far (p:=⟨go_,0,none⟩) (by simp only;omega) (.string D);have de:=bo.set_ 0 (.string D);have ds:Below w.heap.size w (w5.setCell ⟨go_,0,none⟩ (.string D)):=(am.out.drew.trans (ap.mono (show w.heap.size<=W1.heap.size by omega))).setCell (by simp only;omega) (.string D);have o0:=bo.cell 0;have hC:=bo.frozen 0;simp only[ao]at o0;have fq:(w5.setCell ⟨go_,0,none⟩ (.string D)).heap.size=w5.heap.size:=by simp[World.setCell]
     generalize f 40=i6,f 43=lb at*;clear hf ap bo dg dl hQ e4 f6 hO;obtain⟨e6,eo,d8,d2,eh,dk,fv⟩:=az fz es f3 eg de ds fq;clear fz es f3 eg de ds fq;clear f7 f5 d7 ey am bW cf c0 c3;go_wp2_with fail;have cl:=fv.out;have e0:=dk.out.alloc (by omega) (Ua #[.func (.func 73) #[] #[TZ (some ⟨w.heap.size+1,0,none⟩),TZ (some ⟨o,0,none⟩)],TY T6 14,.func (.func 74) #[] #[TZ (some ⟨o,0,none⟩)],TY T6 16,.func (.func 78) #[] #[TZ (some ⟨L,0,none⟩),TZ (some ⟨o,0,none⟩),TZ (some ⟨go_,0,none⟩)],TY T6 15] 186);have f1:=eo.out.alloc (Ua #[.func (.func 73) #[] #[TZ (some ⟨w.heap.size+1,0,none⟩),TZ (some ⟨o,0,none⟩)],TY T6 14,.func (.func 74) #[] #[TZ (some ⟨o,0,none⟩)],TY T6 16,.func (.func 78) #[] #[TZ (some ⟨L,0,none⟩),TZ (some ⟨o,0,none⟩),TZ (some ⟨go_,0,none⟩)],TY T6 15] 186);have ez:=d8.out.alloc (Ua #[.func (.func 73) #[] #[TZ (some ⟨w.heap.size+1,0,none⟩),TZ (some ⟨o,0,none⟩)],TY T6 14,.func (.func 74) #[] #[TZ (some ⟨o,0,none⟩)],TY T6 16,.func (.func 78) #[] #[TZ (some ⟨L,0,none⟩),TZ (some ⟨o,0,none⟩),TZ (some ⟨go_,0,none⟩)],TY T6 15] 186);have e7:=d2.out.alloc (Ua #[.func (.func 73) #[] #[TZ (some ⟨w.heap.size+1,0,none⟩),TZ (some ⟨o,0,none⟩)],TY T6 14,.func (.func 74) #[] #[TZ (some ⟨o,0,none⟩)],TY T6 16,.func (.func 78) #[] #[TZ (some ⟨L,0,none⟩),TZ (some ⟨o,0,none⟩),TZ (some ⟨go_,0,none⟩)],TY T6 15] 186);have ed:=eh.out.alloc (Ua #[.func (.func 73) #[] #[TZ (some ⟨w.heap.size+1,0,none⟩),TZ (some ⟨o,0,none⟩)],TY T6 14,.func (.func 74) #[] #[TZ (some ⟨o,0,none⟩)],TY T6 16,.func (.func 78) #[] #[TZ (some ⟨L,0,none⟩),TZ (some ⟨o,0,none⟩),TZ (some ⟨go_,0,none⟩)],TY T6 15] 186);have ff:=GMap.Row.alloc e6.out (Ua #[.func (.func 73) #[] #[TZ (some ⟨w.heap.size+1,0,none⟩),TZ (some ⟨o,0,none⟩)],TY T6 14,.func (.func 74) #[] #[TZ (some ⟨o,0,none⟩)],TY T6 16,.func (.func 78) #[] #[TZ (some ⟨L,0,none⟩),TZ (some ⟨o,0,none⟩),TZ (some ⟨go_,0,none⟩)],TY T6 15] 186);have ch:=bK.new (w5.setCell ⟨go_,0,none⟩ (.string D)) 186 #[.func (.func 73) #[] #[TZ (some ⟨w.heap.size+1,0,none⟩),TZ (some ⟨o,0,none⟩)],TY T6 14,.func (.func 74) #[] #[TZ (some ⟨o,0,none⟩)],TY T6 16,.func (.func 78) #[] #[TZ (some ⟨L,0,none⟩),TZ (some ⟨o,0,none⟩),TZ (some ⟨go_,0,none⟩)],TY T6 15];have cx:((w5.setCell ⟨go_,0,none⟩ (.string D)).alloc (Ua #[.func (.func 73) #[] #[TZ (some ⟨w.heap.size+1,0,none⟩),TZ (some ⟨o,0,none⟩)],TY T6 14,.func (.func 74) #[] #[TZ (some ⟨o,0,none⟩)],TY T6 16,.func (.func 78) #[] #[TZ (some ⟨L,0,none⟩),TZ (some ⟨o,0,none⟩),TZ (some ⟨go_,0,none⟩)],TY T6 15] 186)).heap.size=(w5.setCell ⟨go_,0,none⟩ (.string D)).heap.size+1:=by simp
     rw[cl]at cx;have ef:(w5.setCell ⟨go_,0,none⟩ (.string D)).heap.size=w5.heap.size:=cl;rw[ef]at ch;clear o0 hC ef;generalize ((w5.setCell ⟨go_,0,none⟩ (.string D)).alloc (Ua #[.func (.func 73) #[] #[TZ (some ⟨w.heap.size+1,0,none⟩),TZ (some ⟨o,0,none⟩)],TY T6 14,.func (.func 74) #[] #[TZ (some ⟨o,0,none⟩)],TY T6 16,.func (.func 78) #[] #[TZ (some ⟨L,0,none⟩),TZ (some ⟨o,0,none⟩),TZ (some ⟨go_,0,none⟩)],TY T6 15] 186))=W8 at*;generalize w5.heap.size=gs at*;obtain⟨g5,hu,hK,hd,hI,hD,c6,jt⟩:=aD ff f1 ez e7 ed ch e0 cx;clear ff f1 ez e7 ed ch e0 cx;clear e6 eo d8 d2 eh dk fv cl;go_loopw [54] (fun i wr=>∃j,j<=3/\i=TY T6 (j:Nat)/\y8 wr gm ks/\bK wr L 182 #[.map (some gm)]/\bK wr (w.heap.size+1) 48 #[T0 A2 n c2]/\bK wr o 80 #[.string nm,TY T6 kd,TY T6 nn,T0 A' cs.length c']/\bK wr go_ 9 #[.string D]/\bK wr gs 186 #[.func (.func 73) #[] #[TZ (some ⟨w.heap.size+1,0,none⟩),TZ (some ⟨o,0,none⟩)],TY T6 14,.func (.func 74) #[] #[TZ (some ⟨o,0,none⟩)],TY T6 16,.func (.func 78) #[] #[TZ (some ⟨L,0,none⟩),TZ (some ⟨o,0,none⟩),TZ (some ⟨go_,0,none⟩)],TY T6 15]/\(0<j->∃x∈l,x.name=nm)/\Below w.heap.size w wr) (fun i _=>3 - (intOf i).toNat)
     case atStart=>exact⟨0,by omega,rfl,g5.out,hu.out,hK.out,hd.out,hI.out,hD.out,fun h=>absurd h (by omega),c6.out⟩
     case round=>
      obtain⟨j,hj,rfl,ag,Y,ab,ak,ad,H,N,ai⟩:=hrel;have b5:=ai.size;have x0:=H.cell 0;have x1:=H.cell 1;have x2:=H.cell 2;have x3:=H.cell 3;have x4:=H.cell 4;have x5:=H.cell 5;simp only[ao]at x0 x1 x2 x3 x4 x5;have km:=ag.lt;have k5:=Y.lt;have i1:=ab.lt;have k6:=ak.lt;have la:=ad.lt;have i4:=H.lt;by_cases hv:j<3
      ·have hh:j=0\/j=1\/j=2:=by omega
       clear hv hj;rcases hh with rfl|rfl|rfl
       ·have y:=GMap.Row.alloc ag (Ua #[.func (.func 73) #[] #[TZ (some ⟨w.heap.size+1,0,none⟩),TZ (some ⟨o,0,none⟩)],TY T6 14] 186);have v:=Y.alloc (Ua #[.func (.func 73) #[] #[TZ (some ⟨w.heap.size+1,0,none⟩),TZ (some ⟨o,0,none⟩)],TY T6 14] 186);have u:=ab.alloc (Ua #[.func (.func 73) #[] #[TZ (some ⟨w.heap.size+1,0,none⟩),TZ (some ⟨o,0,none⟩)],TY T6 14] 186);have q:=ak.alloc (Ua #[.func (.func 73) #[] #[TZ (some ⟨w.heap.size+1,0,none⟩),TZ (some ⟨o,0,none⟩)],TY T6 14] 186);have t:=ad.alloc (Ua #[.func (.func 73) #[] #[TZ (some ⟨w.heap.size+1,0,none⟩),TZ (some ⟨o,0,none⟩)],TY T6 14] 186);have B:=H.alloc (Ua #[.func (.func 73) #[] #[TZ (some ⟨w.heap.size+1,0,none⟩),TZ (some ⟨o,0,none⟩)],TY T6 14] 186);have z:=bK.new wr 186 #[.func (.func 73) #[] #[TZ (some ⟨w.heap.size+1,0,none⟩),TZ (some ⟨o,0,none⟩)],TY T6 14];have O:=ai.alloc b5 (Ua #[.func (.func 73) #[] #[TZ (some ⟨w.heap.size+1,0,none⟩),TZ (some ⟨o,0,none⟩)],TY T6 14] 186);have ft:(wr.alloc (Ua #[.func (.func 73) #[] #[TZ (some ⟨w.heap.size+1,0,none⟩),TZ (some ⟨o,0,none⟩)],TY T6 14] 186)).heap.size=wr.heap.size+1:=by simp
        obtain⟨J,a1⟩:=aA O N;clear O N;have call:=H0 l hG.out A2 c2 w.heap.size (w.heap.size+1) nm _ _ _ o _ J.out.size (HR.out.below J.out) (HN.out▸u.cell 0) q;have M:=Lib.hid call;clear call;clear ag Y ab ak ad H ai;have HQ:=Lib.hid (And.intro y (And.intro v (And.intro u (And.intro q (And.intro t (And.intro B z))))));clear y v u q t B z;go_wp2_with fail;refine M.out.mono ?_;rintro e w7 ⟨⟨bb,rfl,G⟩,d⟩;obtain⟨y,v,u,q,t,B,z⟩:=HQ.out;have fx:=d.size;have X:=GMap.Row.below y d (by omega);have T:=v.below d (by omega);have S:=u.below d (by omega);have R:=q.below d (by omega);have V:=t.below d (by omega);have U:=B.below d (by omega);have F:=z.below d (by omega);have C:=J.out.trans (d.mono (by omega));have q1:=F.cell 1;simp only[ao]at q1;have e8:=F.lt;clear x0 x1 x2 x3 x4 x5 M y v u q t B z HQ;cases bb with
        |false=>
         obtain⟨E,a4⟩:=aA C G;clear C G;clear X T S R V U F d;go_wp2_with fail;go_region;go_wp2_with fail;go_ret2;exact qT E.out.drew (by omega)
        |true=>
         obtain⟨E,a4,be,br,bm,bv,a9,bs⟩:=aD C G X T S R V U;clear C G X T S R V U;clear d F q1;go_wp2_with fail;go_roundw;case rel=>exact⟨1,by omega,by go_num,be.out,br.out,bm.out,bv.out,a9.out,bs.out,fun _=>a4.out (by first|rfl|trivial),E.out⟩
         case measure=>simp[intOf]
       ·have y:=GMap.Row.alloc ag (Ua #[.func (.func 74) #[] #[TZ (some ⟨o,0,none⟩)],TY T6 16] 186);have v:=Y.alloc (Ua #[.func (.func 74) #[] #[TZ (some ⟨o,0,none⟩)],TY T6 16] 186);have u:=ab.alloc (Ua #[.func (.func 74) #[] #[TZ (some ⟨o,0,none⟩)],TY T6 16] 186);have q:=ak.alloc (Ua #[.func (.func 74) #[] #[TZ (some ⟨o,0,none⟩)],TY T6 16] 186);have t:=ad.alloc (Ua #[.func (.func 74) #[] #[TZ (some ⟨o,0,none⟩)],TY T6 16] 186);have B:=H.alloc (Ua #[.func (.func 74) #[] #[TZ (some ⟨o,0,none⟩)],TY T6 16] 186);have z:=bK.new wr 186 #[.func (.func 74) #[] #[TZ (some ⟨o,0,none⟩)],TY T6 16];have O:=ai.alloc b5 (Ua #[.func (.func 74) #[] #[TZ (some ⟨o,0,none⟩)],TY T6 16] 186);have ft:(wr.alloc (Ua #[.func (.func 74) #[] #[TZ (some ⟨o,0,none⟩)],TY T6 16] 186)).heap.size=wr.heap.size+1:=by simp
        obtain⟨J,a1⟩:=aA O N;clear O N;have call:=Hz cs (by omega) e5.out nm kd nn A' c' w.heap.size o _ J.out.size (hS.out.below J.out) q;have M:=Lib.hid call;clear call;clear ag Y ab ak ad H ai;have HQ:=Lib.hid (And.intro y (And.intro v (And.intro u (And.intro q (And.intro t (And.intro B z))))));clear y v u q t B z;go_wp2_with fail;refine M.out.mono ?_;rintro e w7 ⟨⟨bb,rfl,G⟩,d⟩;obtain⟨y,v,u,q,t,B,z⟩:=HQ.out;have fx:=d.size;have X:=GMap.Row.below y d (by omega);have T:=v.below d (by omega);have S:=u.below d (by omega);have R:=q.below d (by omega);have V:=t.below d (by omega);have U:=B.below d (by omega);have F:=z.below d (by omega);have C:=J.out.trans (d.mono (by omega));have q1:=F.cell 1;simp only[ao]at q1;have e8:=F.lt;clear x0 x1 x2 x3 x4 x5 M y v u q t B z HQ;cases bb with
        |false=>
         obtain⟨E,a4⟩:=aA C G;clear C G;clear X T S R V U F d;go_wp2_with fail;go_region;go_wp2_with fail;go_ret2;exact qT E.out.drew (by omega)
        |true=>
         obtain⟨E,a4,be,br,bm,bv,a9,bs⟩:=aD C G X T S R V U;clear C G X T S R V U;clear d F q1;go_wp2_with fail;go_roundw;case rel=>exact⟨2,by omega,by go_num,be.out,br.out,bm.out,bv.out,a9.out,bs.out,fun _=>a1.out (by omega),E.out⟩
         case measure=>simp[intOf]
       have y:=GMap.Row.alloc ag (Ua #[.func (.func 78) #[] #[TZ (some ⟨L,0,none⟩),TZ (some ⟨o,0,none⟩),TZ (some ⟨go_,0,none⟩)],TY T6 15] 186);have v:=Y.alloc (Ua #[.func (.func 78) #[] #[TZ (some ⟨L,0,none⟩),TZ (some ⟨o,0,none⟩),TZ (some ⟨go_,0,none⟩)],TY T6 15] 186);have u:=ab.alloc (Ua #[.func (.func 78) #[] #[TZ (some ⟨L,0,none⟩),TZ (some ⟨o,0,none⟩),TZ (some ⟨go_,0,none⟩)],TY T6 15] 186);have q:=ak.alloc (Ua #[.func (.func 78) #[] #[TZ (some ⟨L,0,none⟩),TZ (some ⟨o,0,none⟩),TZ (some ⟨go_,0,none⟩)],TY T6 15] 186);have t:=ad.alloc (Ua #[.func (.func 78) #[] #[TZ (some ⟨L,0,none⟩),TZ (some ⟨o,0,none⟩),TZ (some ⟨go_,0,none⟩)],TY T6 15] 186);have B:=H.alloc (Ua #[.func (.func 78) #[] #[TZ (some ⟨L,0,none⟩),TZ (some ⟨o,0,none⟩),TZ (some ⟨go_,0,none⟩)],TY T6 15] 186);have z:=bK.new wr 186 #[.func (.func 78) #[] #[TZ (some ⟨L,0,none⟩),TZ (some ⟨o,0,none⟩),TZ (some ⟨go_,0,none⟩)],TY T6 15];have O:=ai.alloc b5 (Ua #[.func (.func 78) #[] #[TZ (some ⟨L,0,none⟩),TZ (some ⟨o,0,none⟩),TZ (some ⟨go_,0,none⟩)],TY T6 15] 186);have ft:(wr.alloc (Ua #[.func (.func 78) #[] #[TZ (some ⟨L,0,none⟩),TZ (some ⟨o,0,none⟩),TZ (some ⟨go_,0,none⟩)],TY T6 15] 186)).heap.size=wr.heap.size+1:=by simp
       obtain⟨J,a1⟩:=aA O N;clear O N;have call:=Ia L o go_ gm ks nm D (by omega) _ _ _ _ y (v.cell 0) q (t.cell 0);have M:=Lib.hid call;clear call;clear ag Y ab ak ad H ai;have HQ:=Lib.hid (And.intro y (And.intro v (And.intro u (And.intro q (And.intro t (And.intro B z))))));clear y v u q t B z;go_wp2_with fail;refine M.out.mono ?_;rintro e w7 ⟨⟨bb,rfl,G⟩,d⟩;obtain⟨y,v,u,q,t,B,z⟩:=HQ.out;have fx:=d.size;have X:=GMap.Row.below y d (by omega);have T:=v.below d (by omega);have S:=u.below d (by omega);have R:=q.below d (by omega);have V:=t.below d (by omega);have U:=B.below d (by omega);have F:=z.below d (by omega);have C:=J.out.trans (d.mono (by omega));have q1:=F.cell 1;simp only[ao]at q1;have e8:=F.lt;clear x0 x1 x2 x3 x4 x5 M y v u q t B z HQ;cases bb with
       |false=>
        obtain⟨E,a4⟩:=aA C G;clear C G;clear X T S R V U F d;go_wp2_with fail;go_region;go_wp2_with fail;go_ret2;exact qT E.out.drew (by omega)
       |true=>
        obtain⟨E,a4,be,br,bm,bv,a9,bs⟩:=aD C G X T S R V U;clear C G X T S R V U;clear d F q1;go_wp2_with fail;go_roundw;case rel=>exact⟨3,by omega,by go_num,be.out,br.out,bm.out,bv.out,a9.out,bs.out,fun _=>a1.out (by omega),E.out⟩
        case measure=>simp[intOf]
      obtain rfl:j=3:=by omega
      have cc:=ev.out (N (by omega));obtain⟨fa,b8⟩:=Lz ks D;have y0:=Y.cell 0;have y1:=ad.cell 0;simp only[ao]at y0 y1;clear x0 x1 x2 x3 x4 x5 N;obtain⟨el,c9,hP,g9,hM,c6⟩:=aF cc b8 ag Y ab ai;clear cc b8 ag Y ab ai;clear ak ad H;go_wp2_with (refine GMap.wpList_put rfl 182 (.tmp 66) (.tmp 67) (.const (T2 true)) rfl 4 vn underlying182 gm _ D (T2 true) rfl rfl rfl hP.out ?_;intro w9 cb bR);have fr:y8 w9 gm fa:=by have h9:=cb;rw[c9.out]at h9;exact h9
      have d0:=g9.out.grown bR (by simp;omega);have ex:=hM.out.grown bR (by simp;omega);have d4:=c6.out.grown bR b5 (fun g e=>by cases e;omega);obtain⟨g8,hR,hy,hg⟩:=aB fr d0 ex d4;clear fr d0 ex d4;clear cb bR;go_roundw;case rel=>exact⟨k+1,fa,by omega,by go_num,g8.out,hR.out,hy.out,el.out,hg.out⟩
      case measure=>simp[intOf];omega
    obtain rfl:m=k:=by omega
    have b9:=hF.out (by first|rfl|trivial) cn.out m ba;obtain⟨f2,HB⟩:=aA b9 hB;clear b9 hB;clear ba bN b3 cu;go_wp2_with fail;go_ret2;exact⟨⟨0,0,rfl,fun _=>by rw[HM.out];exact f2.out⟩,HB.out⟩
  have kl:(e3 != 0)=true:=by simpa using he
  have d6:=Lib.hid aE;clear aE;clear c4 a3 b0 b1;go_wp2_with fail;all_goals
   go_ret2;exact qT d6.out (by omega)
end
section
theorem Cf{α:Type}:∀{d l:List α},d.Nodup->(∀k∈d,k∈l)->d.length<=l.length
 |[],_,_,_=>iS _
 |k::t,l,f,h=>by
  classical
  obtain⟨a,b,rfl⟩:=List.append_of_mem (h k (by simp));rw[iG]at f;have:=Cf (l:=a++b) f.2 fun x g=>by
   have h1:=h x (by simp[g]);have c:x≠k:=fun e=>f.1 (e▸g)
   simp only[bT,aP]at h1⊢;rcases h1 with h1|h1|h1
   ·exact .inl h1
   ·exact absurd h1 c
   exact .inr h1
  simp only[bw,aM]at this⊢;omega
theorem rQ{p:Po}{k:ByteArray}{x:Rl}(h:x∈eR p k):∃r∈p.rules,r.name=k/\iT r=some x:=by
 obtain⟨r,b,a,c⟩:=iI (iA h);exact⟨r,b,a,c⟩
theorem vA{p:Po}{a:List ByteArray}(h:yE p a):a.length<=p.rules.length:=by
 have:=Cf (l:=p.rules.map Rl.name) h.nodup fun k b=>by
  obtain⟨x,t,e⟩:=fD ((h.all k).1 b);obtain⟨r,c,d,_⟩:=rQ (p:=p) (k:=k) (x:=x) (by rw[e];simp);exact bt.2 ⟨r,c,d⟩
 simpa using this
theorem FG(p:Po)(k:ByteArray):(eR p k).length<=p.rules.length:=
 ax (rB _ _) (rR _ k)
theorem L5{r x:Rl}(h:iT r=some x):x.kind=r.kind/\x.num=r.num:=by
 unfold iT at h;cases e:dT gd r.conds with
 |none=>rw[e]at h;cases h
 |some q=>rw[e]at h;injection h with h;subst h;exact⟨rfl,rfl⟩
theorem zx{p:Po}(a:kB p=true){k:ByteArray}{x:Rl}(h:x∈eR p k):eT x.kind x.num=true:=by
 obtain⟨r,b,_,e⟩:=rQ h;obtain⟨e1,e2⟩:=L5 e;rw[e1,e2];exact(lL a b).2.1
theorem IM{p:Po}(a:kB p=true){k:ByteArray}{x:Rl}(h:x∈eR p k):x.conds.length<=1000:=by
 obtain⟨r,b,_,e⟩:=rQ h;have:=rA e;have:=(lL a b).2.2.1;omega
theorem L6(p:Po)(l:List Rw)(a:Nat)(k:ByteArray):gH p l a k=Ol (gS l k) (codeA p.kind p.num) p.x32 ((eR p k).map mF) a:=rfl
theorem PM(p:Po)(l:List Rw)(m:Nat)(k:ByteArray):lV p l m k=Om (gS l k) ((eR p k).map mF) m:=rfl
end
end Go.Proofs.YtfammloeljmplaaGreatDoor
