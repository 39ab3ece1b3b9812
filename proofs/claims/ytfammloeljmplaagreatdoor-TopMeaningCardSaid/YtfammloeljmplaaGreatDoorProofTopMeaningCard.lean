/- TopMeaning holds: its row and its tied card; conditions: none but the statement's own. -/
import Derived.LaidMore
import Derived.Lay
import Derived.Stop.Joined
import Derived.Stop.LaidErr
import Derived.Test.YtfammloeljmplaaGreatDoorZ47
import Derived.Test.YtfammloeljmplaaGreatDoorZ48
open Go.Value renaming int->TY,slice->T0,agg->T1,bool->T2
open Go.IntKind renaming i64->T6,u32->T7,u64->T8
open Go renaming World->Ub,Value->Uc
namespace Go.Proofs.YtfammloeljmplaaGreatDoor
open Go.Proofs.Tryz
set_option maxRecDepth 100000
set_option maxHeartbeats 8000000
set_option linter.unusedVariables false
set_option linter.unusedSimpArgs false
namespace topMeaning
open Go.ChangeShapes Go.WideShapes Go.ChangeAt Go.RowKit
theorem own:ownKnob prog.godebug=none:=by kernel_rfl
theorem laidOut:laidOutB prog=true:=by kernel_rfl
theorem gPw:prog.globalNamed "internal/strconv.uint64pow10" =some 3:=by kernel_rfl
theorem tPw:(prog.globals[3]?).map (·.type)=some 438:=by kernel_rfl
theorem ePw:(Rows.laid_internal_strconv_uint64pow10:DataW Unit)=Lib.tabData T8 Lib.pow10Tab:=by kernel_rfl
theorem plainList:(Rows.topMeaningRow.laid.all fun x=>x.2.handleName?.isNone)=true:=by kernel_rfl
theorem lay_fits(os:Os):(World.holding prog os ⟨#[],#[],[]⟩).layFits prog Rows.topMeaningRow.laid []=true:=by kernel_rfl
theorem lay_ifaces(os:Os):(World.holding prog os ⟨#[],#[],[]⟩).layIfaces prog Rows.topMeaningRow.laid (World.laidAll prog os Rows.topMeaningRow.laid)=true:=by kernel_rfl
theorem door_met(os:Os)(args:Array Uc):laidMetH prog Rows.topMeaningRow.laid ((World.laidAll prog os Rows.topMeaningRow.laid).forCall (fun _ _=>0) ⟨#[],args,[]⟩).memory:=by
 rw[MakeChecks.laidMetH_plain _ _ _ plainList];exact laidMet_laidAll args (lay_fits os) (lay_ifaces os)
theorem door_shaped(os:Os):(World.laidAll prog os Rows.topMeaningRow.laid).Shaped prog:=World.shaped_of_ZipB (by kernel_rfl) (by kernel_rfl)
theorem of_laid{W:Ub}(h:laidMetH prog Rows.topMeaningRow.laid W):kC W:=by
 rw[MakeChecks.laidMetH_plain _ _ _ (by kernel_rfl)]at h;have a:=h.tail.tail;rw[ePw]at a;exact Lib.tabIs_of_head gPw tPw underlying438 underlying29 (by kernel_rfl) (by kernel_rfl) a
theorem lifted(os:Os)(started:os.Started)(H:Type)(enc:TypeId×Uc->H):
  ReturnsInHanded {} checked os 3 .any (fun w args=>(Rows.topMeaningSpec.pre enc prog f3 [] false w args/\laidMetH prog Rows.topMeaningRow.laid w)/\sizedMet enc prog f3 (OpenSpec.ofChange Rows.topMeaningSpec) false w args)
   (Rows.topMeaningSpec.post enc prog f3 false true false false):=by
 refine returnsInHanded_of_change_and (C:=checked) (X:=fun w _=>laidMetH prog Rows.topMeaningRow.laid w) (fun _ _ _ hh h=>h.of_heap hh) own started (by kernel_rfl) func3
  (ChangeSpec.witness_shaped (enc:=enc) (C:=checked) (os:=os) (X:=fun w _=>laidMetH prog Rows.topMeaningRow.laid w) false (World.laidAll prog os Rows.topMeaningRow.laid) #[T1 #[TY T6 0,TY T6 0,T2 false,T0 none 0 0],T1 #[TY T6 0,TY T6 0,T2 false,T0 none 0 0],T1 #[T0 none 0 0,TY T7 0,TY T7 0,TY T8 0,TY T8 0,TY T8 0,TY T8 0,TY T8 0,TY T8 0,TY T8 0]] 8 (World.laidAll_os _ _ _) (door_shaped os) (by kernel_rfl) (by kernel_rfl) (by kernel_rfl) (door_met os _)) ?_
 intro W base args ds gs before b U _ _ R _;have a:∀(j:Nat) t v,f3.params[j]? =some t->args[j]? =some v->Value.okWide prog W .any base t v:=b;have D:=U;obtain⟨p,q,g,hV,rfl,a0,ba⟩:=U;have N:DataW.TrodAll enc prog W 0 (fun _=>true) true f3.params.toList args.toList ds p:=g;rw[params3]at N a;obtain⟨v0,al,d0,ab,p0,q0,s,rfl,rfl,T,r0⟩:=trodAll_cons N;obtain⟨v1,Z,d1,a1,p1,q1,rfl,rfl,rfl,Y,r1⟩:=trodAll_cons r0;obtain⟨v2,a7,d2,am,p2,q2,rfl,rfl,rfl,O,J⟩:=trodAll_cons r1;obtain⟨rfl,rfl,rfl⟩:=trodAll_nil J;obtain rfl:args=#[v0,v1,v2]:=by cases args;simp_all
 obtain⟨rfl,rfl⟩:=trodVars_none hV;have V:=T;have d:∀x∈p0,x.block<W.heap.size:=by obtain⟨m,i⟩:=V;exact RD m _ _ _ i
 obtain⟨x0,A0,c0,rfl,B,l,A,o⟩:=wJ (a 0 26 v0 rfl rfl) T d;have S:=Y;have f:∀x∈p1,x.block<W.heap.size:=by obtain⟨m,i⟩:=S;exact RD m _ _ _ i
 obtain⟨x1,A1,c1,rfl,z,u,L,G⟩:=wJ (a 1 26 v1 rfl rfl) Y f;have M:=O;have k:∀x∈p2,x.block<W.heap.size:=by obtain⟨m,i⟩:=M;exact RD m _ _ _ i
 obtain⟨l2,J,A2,c2,rfl,E,n,F,y,r⟩:=I8 (a 2 34 v2 rfl rfl) O k;have hT:=of_laid R;clear g b R;refine(Dw x0 x1 l2 J F A0 A1 A2 c0 c1 c2 W B z E l u n (ax A o) (ax L G) (ax y r) hT).mono fun e W' ⟨he,c⟩=>?_
 subst he;exact⟨_,rfl,_,_,_,[],_,[],D,trodAll_mk1 (shut_bool underlying4 _),(trodAll_cons_mk (Below.trod laidOut (by kernel_rfl) (aN (by kernel_rfl)) V c d) (trodAll_cons_mk (Below.trod laidOut (by kernel_rfl) (aN (by kernel_rfl)) S c f) (trodAll_cons_mk (Below.trod laidOut (by kernel_rfl) (aN (by kernel_rfl)) M c k) trodAll_mk0))),rfl,c.frame _,fun h=>by cases h⟩
theorem over:Rows.TopMeaningSaid:=
 OpenClaim.holds_of_wide 3 f3 rfl rfl rfl rfl rfl rfl rfl ⟨rfl,rfl,rfl,rfl,rfl⟩ rfl rfl rfl rfl rfl named func3 facts inst wrap
  (fun os started H enc _=>lifted os started H enc)
end topMeaning
section
theorem topMeaningCard_holds:Rows.TopMeaningCardSaid:=
 Claim7.holds_tied_plain_at .later [] [.data,.data,.data,.data,.pinned] true (true, "26cf2d567f939431de515d7a8b583aff4df3fb3a2483d2c25ddb141169f7a041") true
  topMeaning.over (fun _ h=>by cases h) topMeaning.wfText (fun _ h=>by cases h) topMeaning_row_tie rfl ⟨rfl,rfl⟩ topMeaning.mainOk rfl
  (fun f d c b=>by
    obtain rfl:f=3:=dK (topMeaning.nameOk.symm.trans c) |>.symm;obtain rfl:d=f3:=(dK (func3.symm.trans b)).symm;exact⟨topMeaning.looksOk,fun j t a=>by
     rw[params3]at a;rcases j with _ | _ | _ | j
     ·obtain rfl:t=26:=by simpa using a.symm
      exact topMeaning.stand0
     ·obtain rfl:t=26:=by simpa using a.symm
      exact topMeaning.stand0
     ·obtain rfl:t=34:=by simpa using a.symm
      exact topMeaning.stand1
     simp at a⟩)
  topMeaning.goesOk
#print axioms topMeaningCard_holds
end
end Go.Proofs.YtfammloeljmplaaGreatDoor
