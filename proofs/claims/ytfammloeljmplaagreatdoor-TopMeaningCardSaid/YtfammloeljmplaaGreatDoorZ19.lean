/- The library's sorting by a function; conditions: each lemma's own. -/
import Derived.Shelf.SlSortCmp.NoneTotal
import Derived.Test.YtfammloeljmplaaGreatDoorProg
namespace Go.Proofs.YtfammloeljmplaaGreatDoor
open Go.Proofs.Tryz
set_option maxRecDepth 100000
set_option maxHeartbeats 8000000
set_option linter.unusedVariables false
set_option linter.unusedSimpArgs false
section
theorem rG{P:Program}{f:FuncId}{B:Func}(b:(((P.funcs[f]?).map (·.name)).getD "" == "runtime.NumGoroutine")=false)(a:P.funcs[f]? =some {B with name:=((P.funcs[f]?).map (·.name)).getD "" }):Bears P f B:=⟨_,b,a⟩
open Go.Shelf
def vc:Go.Shelf.Ren:=⟨fun|6=>37|15=>93|14=>92|28=>151|29=>152|20=>143|21=>144|22=>145|23=>146|24=>147|25=>148|26=>149|27=>150|46=>224|47=>225|48=>226|49=>227|50=>228|57=>309|n=>n,fun|22=>62|24=>109|25=>119|3=>3|39=>160|0=>0|53=>28|55=>29|4=>4|46=>272|45=>271|50=>100|5=>5|9=>9|66=>339|70=>343|76=>389|77=>390|n=>n,fun|n=>n⟩
theorem CH:Go.Proofs.SlLaysF0.n6 prog vc:=by repeat' first|kernel_rfl|(intro w;kernel_rfl)|exact rG (by kernel_rfl) (by kernel_rfl)|decide|constructor
def yD:Go.Shelf.Ren:=⟨fun|6=>40|15=>93|14=>95|28=>151|29=>152|20=>153|21=>154|22=>155|23=>156|24=>157|25=>158|26=>159|27=>160|46=>229|47=>225|48=>226|49=>230|50=>231|57=>310|n=>n,fun|22=>64|24=>113|25=>121|3=>3|39=>160|0=>0|53=>28|55=>29|4=>4|46=>272|45=>271|50=>100|5=>5|9=>9|66=>339|70=>343|76=>389|77=>390|n=>n,fun|n=>n⟩
theorem G9:Go.Proofs.SlLaysF0.n6 prog yD:=by repeat' first|kernel_rfl|(intro w;kernel_rfl)|exact rG (by kernel_rfl) (by kernel_rfl)|decide|constructor
def wP:Go.Shelf.Ren:=⟨fun|6=>133|15=>93|14=>217|28=>151|29=>152|20=>298|21=>299|22=>300|23=>301|24=>302|25=>303|26=>304|27=>305|46=>347|47=>225|48=>226|49=>348|50=>349|57=>364|n=>n,fun|22=>78|24=>162|25=>264|3=>3|39=>160|0=>0|53=>28|55=>29|4=>4|46=>272|45=>271|50=>100|5=>5|9=>9|66=>339|70=>343|76=>389|77=>390|n=>n,fun|n=>n⟩
theorem Ex:Go.Proofs.SlLaysF0.n6 prog wP:=by repeat' first|kernel_rfl|(intro w;kernel_rfl)|exact rG (by kernel_rfl) (by kernel_rfl)|decide|constructor
def wQ:Go.Shelf.Ren:=⟨fun|6=>169|15=>93|14=>243|28=>151|29=>152|20=>321|21=>322|22=>323|23=>324|24=>325|25=>326|26=>327|27=>328|46=>352|47=>225|48=>226|49=>353|50=>354|57=>365|n=>n,fun|22=>217|24=>220|25=>290|3=>3|39=>160|0=>0|53=>28|55=>29|4=>4|46=>272|45=>271|50=>100|5=>5|9=>9|66=>339|70=>343|76=>389|77=>390|n=>n,fun|n=>n⟩
theorem Ey:Go.Proofs.SlLaysF0.n6 prog wQ:=by repeat' first|kernel_rfl|(intro w;kernel_rfl)|exact rG (by kernel_rfl) (by kernel_rfl)|decide|constructor
end
end Go.Proofs.YtfammloeljmplaaGreatDoor
