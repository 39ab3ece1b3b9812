/- Short forms of contracts; conditions: each lemma's own. -/
import Derived.Test.YtfammloeljmplaaGreatDoorRows
import Derived.Below
namespace Go.Proofs.YtfammloeljmplaaGreatDoor
open Go.RowKit
abbrev TV(n:FuncId)(a:Array Value)(w:World)(v:Value):Prop:=Calls Tryz.prog n a w fun e w'=>e=.returned v∧Below w.heap.size w w'
abbrev TW(n:FuncId)(a:Array Value)(w:World)(v:Value):Prop:=Calls Tryz.prog n a w fun e w'=>e=.returned v∧w=w'
abbrev TX(n:FuncId)(a:Array Value)(w:World)(v:Value):Prop:=Calls Tryz.prog n a w fun e w'=>e=.returned v∧w'=w
end Go.Proofs.YtfammloeljmplaaGreatDoor
