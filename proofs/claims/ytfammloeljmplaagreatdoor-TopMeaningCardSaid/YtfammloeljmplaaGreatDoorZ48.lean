/- The closed facts of the card; conditions: each lemma's own. -/
import Derived.JoinedOf
import Derived.ProofKit
import Derived.Test.YtfammloeljmplaaGreatDoorCards
import Derived.Test.YtfammloeljmplaaGreatDoorTie
import Derived.Test.YtfammloeljmplaaGreatDoorZA
namespace Go.Proofs.YtfammloeljmplaaGreatDoor
open Go.Proofs.Tryz
set_option maxRecDepth 100000
set_option maxHeartbeats 8000000
set_option linter.unusedVariables false
set_option linter.unusedSimpArgs false
namespace topMeaning
theorem joined_of {P : Program} {f : FuncId} {a : Func} {s : ChangeSpec} {c : OpenClaim} (F : (c.wf (OpenSpec.ofChange s)) = true) (H : (laidOutB P) = true) (E : (mapsRowed P) = true) (N : (a.params.all (P.readableRec ·)) = true) (G : (namedTie P c.named s.vars) = true) (L : (c.stops == []) = true) (O : (P.stops == []) = true) (J : (c.knobs == []) = true) (M : (P.stopKnobs == []) = true) (R : (c.inPlace == P.inPlace f) = true) (l : (c.unfollowed == P.unfollowed f) = true) (r : (c.recurses == P.recurses f) = true) (m : (c.named == P.varsNamed f) = true) (b : (c.maps == (a.params.toList ++ s.plain.varTypes P).any (P.mapsRec ·)) = true) (g : (c.ifaces == (a.params.toList ++ s.plain.varTypes P).any (P.ifacesRec ·)) = true) (n : (c.mapsOut == P.mapsAmong a.resultTypes.toList) = true) (u : (c.loops == (a.params.toList ++ s.plain.varTypes P).any (P.loopsFrom ·)) = true) (j : (c.wideKeys == (a.params.toList ++ s.plain.varTypes P ++ a.resultTypes.toList).any (P.wideKeysFrom ·)) = true) (C : (s.vars.all (P.varReadable ·)) = true) (e : (a.resultTypes.all (fun t => P.readableRec t && decide (t < P.types.size))) = true) (x : (c.ifacesOut == a.resultTypes.toList.any (P.ifacesRec ·)) = true) (v : (c.loopsOut == a.resultTypes.toList.any (P.loopsFrom ·)) = true) (d : (c.plainKeys == P.plainKeys) = true) (D : (c.shortTexts.isNone) = true) (z : (P.stopsHeard) = true) (i : (P.mayEnter) = true) (A : (c.lifted == P.liftsFinal) = true) (o : (P.make == some c.make) = true) (p : (c.kinds == (if c.domain.isEmpty then [] else a.params.toList.map fun t => match P.underlying t with | some (.int k) => some k | _ => none)) = true) (y : (c.pinned == c.pinnedBy) = true) (q : (c.veiled == (a.params.toList ++ s.plain.varTypes P ++ a.resultTypes.toList).any (P.veiledRec ·)) = true) (B : (c.veiledFits P a.params.toList (a.params.toList ++ s.plain.varTypes P ++ a.resultTypes.toList)) = true) : joinedFacts P f a s c = true := by
 unfold joinedFacts;simp only[bG];exact⟨⟨⟨⟨⟨⟨⟨⟨⟨⟨⟨⟨⟨⟨⟨⟨⟨⟨⟨⟨⟨⟨⟨⟨⟨⟨⟨⟨⟨⟨⟨F,H⟩,E⟩,N⟩,G⟩,L⟩,O⟩,J⟩,M⟩,R⟩,l⟩,r⟩,m⟩,b⟩,g⟩,n⟩,u⟩,j⟩,C⟩,e⟩,x⟩,v⟩,d⟩,D⟩,z⟩,i⟩,A⟩,o⟩,p⟩,y⟩,q⟩,B⟩
theorem fact0:(Rows.topMeaningRow.wf (OpenSpec.ofChange Rows.topMeaningSpec))=true:=by kernel_rfl
theorem fact1:(laidOutB Tryz.pinned.checked.prog)=true:=by kernel_rfl
theorem fact2:(mapsRowed Tryz.pinned.checked.prog)=true:=by kernel_rfl
theorem fact3:(f3.params.all (Tryz.pinned.checked.prog.readableRec ·))=true:=by kernel_rfl
theorem fact4:(namedTie Tryz.pinned.checked.prog Rows.topMeaningRow.named Rows.topMeaningSpec.vars)=true:=by kernel_rfl
theorem fact5:(Rows.topMeaningRow.stops==[])=true:=by kernel_rfl
theorem fact6:(Tryz.pinned.checked.prog.stops==[])=true:=by kernel_rfl
theorem fact7:(Rows.topMeaningRow.knobs==[])=true:=by kernel_rfl
theorem fact8:(Tryz.pinned.checked.prog.stopKnobs==[])=true:=by kernel_rfl
theorem fact9:(Rows.topMeaningRow.inPlace==Tryz.pinned.checked.prog.inPlace 3)=true:=by kernel_rfl
theorem fact10:(Rows.topMeaningRow.unfollowed==Tryz.pinned.checked.prog.unfollowed 3)=true:=by kernel_rfl
theorem fact11:(Rows.topMeaningRow.recurses==Tryz.pinned.checked.prog.recurses 3)=true:=by kernel_rfl
theorem fact12:(Rows.topMeaningRow.named==Tryz.pinned.checked.prog.varsNamed 3)=true:=by kernel_rfl
theorem fact13:(Rows.topMeaningRow.maps==(f3.params.toList++Rows.topMeaningSpec.plain.varTypes Tryz.pinned.checked.prog).any (Tryz.pinned.checked.prog.mapsRec ·))=true:=by kernel_rfl
theorem fact14:(Rows.topMeaningRow.ifaces==(f3.params.toList++Rows.topMeaningSpec.plain.varTypes Tryz.pinned.checked.prog).any (Tryz.pinned.checked.prog.ifacesRec ·))=true:=by kernel_rfl
theorem fact15:(Rows.topMeaningRow.mapsOut==Tryz.pinned.checked.prog.mapsAmong f3.resultTypes.toList)=true:=by kernel_rfl
theorem fact16:(Rows.topMeaningRow.loops==(f3.params.toList++Rows.topMeaningSpec.plain.varTypes Tryz.pinned.checked.prog).any (Tryz.pinned.checked.prog.loopsFrom ·))=true:=by kernel_rfl
theorem fact17:(Rows.topMeaningRow.wideKeys==(f3.params.toList++Rows.topMeaningSpec.plain.varTypes Tryz.pinned.checked.prog++f3.resultTypes.toList).any (Tryz.pinned.checked.prog.wideKeysFrom ·))=true:=by kernel_rfl
theorem fact18:(Rows.topMeaningSpec.vars.all (Tryz.pinned.checked.prog.varReadable ·))=true:=by kernel_rfl
theorem fact19:(f3.resultTypes.all (fun t=>Tryz.pinned.checked.prog.readableRec t&&decide (t<Tryz.pinned.checked.prog.types.size)))=true:=by kernel_rfl
theorem fact20:(Rows.topMeaningRow.ifacesOut==f3.resultTypes.toList.any (Tryz.pinned.checked.prog.ifacesRec ·))=true:=by kernel_rfl
theorem fact21:(Rows.topMeaningRow.loopsOut==f3.resultTypes.toList.any (Tryz.pinned.checked.prog.loopsFrom ·))=true:=by kernel_rfl
theorem fact22:(Rows.topMeaningRow.plainKeys==Tryz.pinned.checked.prog.plainKeys)=true:=by kernel_rfl
theorem fact23:(Rows.topMeaningRow.shortTexts.isNone)=true:=by kernel_rfl
theorem fact24:(Tryz.pinned.checked.prog.stopsHeard)=true:=by kernel_rfl
theorem fact25:(Tryz.pinned.checked.prog.mayEnter)=true:=by kernel_rfl
theorem fact26:(Rows.topMeaningRow.lifted==Tryz.pinned.checked.prog.liftsFinal)=true:=by kernel_rfl
theorem fact27:(Tryz.pinned.checked.prog.make==some Rows.topMeaningRow.make)=true:=by kernel_rfl
theorem fact28 : (Rows.topMeaningRow.kinds == (if Rows.topMeaningRow.domain.isEmpty then [] else f3.params.toList.map fun t => match Tryz.pinned.checked.prog.underlying t with | some (.int k) => some k | _ => none)) = true := by kernel_rfl
theorem fact29:(Rows.topMeaningRow.pinned==Rows.topMeaningRow.pinnedBy)=true:=by kernel_rfl
theorem fact30:(Rows.topMeaningRow.veiled==(f3.params.toList++Rows.topMeaningSpec.plain.varTypes Tryz.pinned.checked.prog++f3.resultTypes.toList).any (Tryz.pinned.checked.prog.veiledRec ·))=true:=by kernel_rfl
theorem fact31:(Rows.topMeaningRow.veiledFits Tryz.pinned.checked.prog f3.params.toList (f3.params.toList++Rows.topMeaningSpec.plain.varTypes Tryz.pinned.checked.prog++f3.resultTypes.toList))=true:=by kernel_rfl
theorem facts:joinedFacts Tryz.pinned.checked.prog 3 f3 Rows.topMeaningSpec Rows.topMeaningRow=true:=joined_of fact0 fact1 fact2 fact3 fact4 fact5 fact6 fact7 fact8 fact9 fact10 fact11 fact12 fact13 fact14 fact15 fact16 fact17 fact18 fact19 fact20 fact21 fact22 fact23 fact24 fact25 fact26 fact27 fact28 fact29 fact30 fact31
theorem named:Tryz.pinned.checked.prog.funcNamed Rows.topMeaningRow.func=some 3:=by kernel_rfl
theorem inst:f3.isInstance Tryz.pinned.checked.prog Rows.topMeaningRow.origin Rows.topMeaningRow.targs:=aN (by kernel_rfl)
theorem wrap:f3.isWrapper Tryz.pinned.checked.prog Rows.topMeaningRow.wrapper Rows.topMeaningRow.mainSum:=by unfold Func.isWrapper;first|(rw[aj (by decide+kernel)];kernel_rfl)|(rw[af (by decide+kernel)];exact⟨rfl,rfl⟩)
theorem wfText:Rows.topMeaningRow.wfByText (OpenSpec.ofChange Rows.topMeaningSpec)=true:=by kernel_rfl
theorem mainOk:Tryz.pinned.checked.prog.mainIs=some (true, "26cf2d567f939431de515d7a8b583aff4df3fb3a2483d2c25ddb141169f7a041".toList):=by kernel_rfl
theorem looksOk:true=Tryz.pinned.checked.prog.looks []:=by kernel_rfl
theorem goesOk:false=Rows.topMeaningRow.goesBy Tryz.pinned.checked.prog:=by kernel_rfl
theorem nameOk:prog.funcNamed "strainer/strainertop.TopMeaning" =some 3:=by kernel_rfl
theorem stand0:prog.wantsStandIn 26=false:=by kernel_rfl
theorem stand1:prog.wantsStandIn 34=false:=by kernel_rfl
end topMeaning
end Go.Proofs.YtfammloeljmplaaGreatDoor
