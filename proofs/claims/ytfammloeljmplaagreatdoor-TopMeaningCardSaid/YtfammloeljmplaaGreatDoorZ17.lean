/- The library's bit lengths; conditions: each lemma's own. -/
import Derived.Shelf.Small.Bits
import Derived.Test.YtfammloeljmplaaGreatDoorProg
import Derived.Test.YtfammloeljmplaaGreatDoorZC
open Go.Value renaming int->TY
open Go.IntKind renaming i64->T6,u64->T8
open Go renaming World->Ub
namespace Go.Proofs.YtfammloeljmplaaGreatDoor
open Go.Proofs.Tryz
set_option maxRecDepth 100000
set_option maxHeartbeats 8000000
set_option linter.unusedVariables false
set_option linter.unusedSimpArgs false
section
open Go.Shelf
def yW:Go.Shelf.Ren:=⟨fun|125=>93|128=>151|129=>152|n=>n,fun|46=>160|3=>3|51=>28|53=>29|4=>4|5=>5|9=>9|n=>n,fun|n=>n⟩
theorem Hr:Go.Proofs.Lays.n125 prog yW:=by repeat' first|kernel_rfl|(intro w;kernel_rfl)|decide|constructor
theorem qQ(x:Int)(w:Ub)(b:0<=x)(a:x<=18446744073709551615):
 TX 93 #[TY T8 x] w (TY T6 (Lib.bitLen x.toNat)):=Any.bits_Len Hr x w b a
end
end Go.Proofs.YtfammloeljmplaaGreatDoor
