/- The library's comparison of ints; conditions: each lemma's own. -/
import Derived.Shelf.Small.Wraps
import Derived.Test.YtfammloeljmplaaGreatDoorProg
import Derived.Test.YtfammloeljmplaaGreatDoorZC
open Go.Value renaming int->TY
open Go.IntKind renaming i64->T6
open Go renaming World->Ub
namespace Go.Proofs.YtfammloeljmplaaGreatDoor
open Go.Proofs.Tryz
set_option maxRecDepth 100000
set_option maxHeartbeats 8000000
set_option linter.unusedVariables false
set_option linter.unusedSimpArgs false
section
open Go.Shelf
def yX:Go.Shelf.Ren:=⟨fun|122=>219|215=>306|n=>n,fun|3=>3|4=>4|n=>n,fun|n=>n⟩
theorem Hs:Go.Proofs.Lays.n122 prog yX:=by repeat' first|kernel_rfl|(intro w;kernel_rfl)|decide|constructor
open Go.RowKit in
theorem nD(x y:Int)(w:Ub):
 TX 219 #[TY T6 x,TY T6 y] w (TY T6 (Lib.compareInt x y)):=Any.cmp_Compare_int Hs x y w
end
end Go.Proofs.YtfammloeljmplaaGreatDoor
