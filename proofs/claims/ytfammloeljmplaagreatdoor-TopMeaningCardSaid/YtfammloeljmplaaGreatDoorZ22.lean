/- The library's further contracts; conditions: each lemma's own. -/
import Derived.Shelf.SlIter.Nil
import Derived.Shelf.SlIterI.Nil
import Derived.Shelf.SortM.Plain
import Derived.Shelf.SortM.SortNone
import Derived.Test.YtfammloeljmplaaGreatDoorZ21
namespace Go.Proofs.YtfammloeljmplaaGreatDoor
open Go.Proofs.Tryz
set_option maxRecDepth 100000
set_option maxHeartbeats 8000000
set_option linter.unusedVariables false
set_option linter.unusedSimpArgs false
section
theorem mU{P:Program}{f:FuncId}{B:Func}(b:(((P.funcs[f]?).map (·.name)).getD "" == "runtime.NumGoroutine")=false)(a:P.funcs[f]? =some {B with name:=((P.funcs[f]?).map (·.name)).getD "" }):Bears P f B:=⟨_,b,a⟩
open Go.Shelf
def py:Go.Shelf.Ren:=⟨fun|7=>85|10=>139|n=>n,fun|23=>192|26=>9|3=>44|28=>199|0=>0|27=>198|33=>253|4=>4|n=>n,fun|n=>n⟩
theorem EX:Go.Proofs.SlLaysZ.n7 prog py:=by repeat' first|kernel_rfl|(intro w;kernel_rfl)|exact mU (by kernel_rfl) (by kernel_rfl)|decide|constructor
def nF:Go.Shelf.Ren:=⟨fun|6=>84|8=>138|9=>129|11=>221|13=>93|12=>211|23=>151|24=>152|14=>279|15=>280|16=>281|17=>282|18=>283|19=>284|20=>285|21=>286|22=>287|25=>340|26=>225|27=>226|28=>341|29=>342|30=>343|31=>363|n=>n,fun|26=>9|28=>199|24=>196|0=>0|3=>3|37=>160|48=>28|50=>29|4=>4|40=>272|39=>271|45=>100|5=>5|9=>9|51=>339|55=>343|57=>389|58=>390|33=>253|n=>n,fun|n=>n⟩
theorem Hv:Go.Proofs.SlLaysZ.n6 prog nF:=by repeat' first|kernel_rfl|(intro w;kernel_rfl)|exact mU (by kernel_rfl) (by kernel_rfl)|decide|constructor
def CN:Go.Shelf.Ren:=⟨fun|6=>129|8=>93|9=>211|19=>151|20=>152|21=>279|22=>280|23=>281|24=>282|25=>283|26=>284|27=>285|28=>286|29=>287|36=>340|31=>225|32=>226|37=>341|38=>342|39=>343|41=>363|n=>n,fun|27=>196|29=>9|3=>3|32=>160|26=>196|0=>0|44=>28|46=>29|4=>4|36=>272|35=>271|41=>100|5=>5|9=>9|53=>339|57=>343|63=>389|64=>390|n=>n,fun|n=>n⟩
theorem EY:Go.Proofs.SlLaysM.n6 prog CN:=by repeat' first|kernel_rfl|(intro w;kernel_rfl)|exact mU (by kernel_rfl) (by kernel_rfl)|decide|constructor
def pz:Go.Shelf.Ren:=⟨fun|7=>47|10=>99|n=>n,fun|23=>130|26=>3|3=>3|28=>139|0=>0|27=>138|33=>216|4=>4|n=>n,fun|n=>n⟩
theorem E4:Go.Proofs.SlLaysZI.n7 prog pz:=by repeat' first|kernel_rfl|(intro w;kernel_rfl)|exact mU (by kernel_rfl) (by kernel_rfl)|decide|constructor
def nG:Go.Shelf.Ren:=⟨fun|6=>46|8=>97|9=>98|11=>162|13=>93|12=>163|23=>151|24=>152|14=>232|15=>233|16=>234|17=>235|18=>236|19=>237|20=>238|21=>239|22=>240|25=>311|26=>225|27=>226|28=>312|29=>313|30=>306|31=>351|n=>n,fun|26=>3|28=>139|24=>86|0=>0|3=>3|37=>160|48=>28|50=>29|4=>4|40=>272|39=>271|45=>100|5=>5|9=>9|51=>339|55=>343|57=>389|58=>390|33=>216|n=>n,fun|n=>n⟩
theorem Hw:Go.Proofs.SlLaysZI.n6 prog nG:=by repeat' first|kernel_rfl|(intro w;kernel_rfl)|exact mU (by kernel_rfl) (by kernel_rfl)|decide|constructor
def CO:Go.Shelf.Ren:=⟨fun|5=>98|8=>93|7=>163|19=>151|20=>152|10=>232|11=>233|12=>234|13=>235|14=>236|15=>237|16=>238|17=>239|18=>240|30=>311|31=>225|32=>226|33=>312|34=>313|35=>306|40=>351|n=>n,fun|23=>86|25=>3|3=>3|32=>160|22=>86|0=>0|44=>28|46=>29|4=>4|36=>272|35=>271|41=>100|5=>5|9=>9|53=>339|57=>343|63=>389|64=>390|n=>n,fun|n=>n⟩
theorem E8:Go.Proofs.SlLaysM.n5 prog CO:=by repeat' first|kernel_rfl|(intro w;kernel_rfl)|exact mU (by kernel_rfl) (by kernel_rfl)|decide|constructor
end
end Go.Proofs.YtfammloeljmplaaGreatDoor
