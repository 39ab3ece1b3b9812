/- Short names of the kit's lemmas; hidden facts in groups; conditions: each lemma's own. -/
import Derived.Below
import Derived.Laws.OwnMore
import Derived.Deep.AppendLies
import Derived.Deep.Draws
import Derived.Laws.Rows
import Derived.Maps.AppendAt
import Derived.RegionTactic
import Derived.OwnWalk
import Derived.Orders
import Derived.Lib.Hide
import Derived.Test.YtfammloeljmplaaGreatDoorZA
namespace Go.Proofs.YtfammloeljmplaaGreatDoor
abbrev R5:=@Go.RowKit.Below.grown
abbrev iN:=@Go.RowKit.Below.heap_alloc
abbrev cK:=@Go.RowKit.Below.heap_setCell
abbrev aw:=@Go.RowKit.Below.refl
abbrev tG:=@Go.Calls.mono
abbrev cS:=@Go.DataW.trod_int
abbrev RD:=@Go.DataW.trod_lt
abbrev iO:=@Go.DataW.trod_struct
abbrev Ql:=@Go.WideShapes.sorted_perm
abbrev Mu:=@Go.MapKept.bytes_beq
abbrev eV:=@Go.MapKept.run_getObj_map
abbrev zL:=@Go.MapKept.run_setObj_map
abbrev jE:=@Go.Oper.wp_mono
abbrev bd:=@Go.Result.andThen_ok
abbrev aY:=@Go.Sem.run_bind
abbrev jF:=@Go.Sem.run_pure
abbrev cz:=@Go.World.cell?_alloc_lt
abbrev lS:=@Go.World.cell?_of_block
abbrev dn:=@Go.World.cell?_setCell_other
abbrev jA:=@Go.World.cell?_setCell_same'
abbrev fL:=@Go.World.cell?_spot
abbrev zM:=@Go.World.frozen?_of_block
abbrev lr:=@Go.World.frozen?_setCell
abbrev cj:=@Go.World.grownBy.refl
abbrev iR:=@Go.World.grownBy_alloc
abbrev mz:=@Go.World.news_of_block
abbrev J5:=@Go.World.ownsRow.kept
abbrev aX:=@Go.World.ownsRow_nil
abbrev cE:=@Go.World.size_alloc
abbrev fM:=@Go.block_lt_of_cell
abbrev aO:=@Go.bodyPost_ret
abbrev Dt:=@Go.cell_of_row
abbrev cq:=@Go.heap_alloc_new
abbrev cZ:=@Go.info_parts
abbrev eJ:=@Go.results_cell_row
abbrev l5:=@Go.results_none
abbrev kQ:=@Go.run_loadVar_row
abbrev cJ:=@Go.run_underlying
abbrev P9:=@Go.setRow_heap
abbrev zN:=@Go.setRow_other
abbrev p6:=@Go.step_append_lies
abbrev dv:=@Go.wpList_load_row
abbrev jG:=@Go.wpList_plain
abbrev Jd:=@Go.wp_region_any
theorem aA {p0 p1:Prop} (h0:p0) (h1:p1):Go.RowKit.Hid p0∧Go.RowKit.Hid p1:=⟨h0,h1⟩
theorem aC {p0 p1 p2:Prop} (h0:p0) (h1:p1) (h2:p2):Go.RowKit.Hid p0∧Go.RowKit.Hid p1∧Go.RowKit.Hid p2:=⟨h0,h1,h2⟩
theorem aB {p0 p1 p2 p3:Prop} (h0:p0) (h1:p1) (h2:p2) (h3:p3):Go.RowKit.Hid p0∧Go.RowKit.Hid p1∧Go.RowKit.Hid p2∧Go.RowKit.Hid p3:=⟨h0,h1,h2,h3⟩
theorem aG {p0 p1 p2 p3 p4:Prop} (h0:p0) (h1:p1) (h2:p2) (h3:p3) (h4:p4):Go.RowKit.Hid p0∧Go.RowKit.Hid p1∧Go.RowKit.Hid p2∧Go.RowKit.Hid p3∧Go.RowKit.Hid p4:=⟨h0,h1,h2,h3,h4⟩
theorem aF {p0 p1 p2 p3 p4 p5:Prop} (h0:p0) (h1:p1) (h2:p2) (h3:p3) (h4:p4) (h5:p5):Go.RowKit.Hid p0∧Go.RowKit.Hid p1∧Go.RowKit.Hid p2∧Go.RowKit.Hid p3∧Go.RowKit.Hid p4∧Go.RowKit.Hid p5:=⟨h0,h1,h2,h3,h4,h5⟩
theorem az {p0 p1 p2 p3 p4 p5 p6:Prop} (h0:p0) (h1:p1) (h2:p2) (h3:p3) (h4:p4) (h5:p5) (h6:p6):Go.RowKit.Hid p0∧Go.RowKit.Hid p1∧Go.RowKit.Hid p2∧Go.RowKit.Hid p3∧Go.RowKit.Hid p4∧Go.RowKit.Hid p5∧Go.RowKit.Hid p6:=⟨h0,h1,h2,h3,h4,h5,h6⟩
theorem aD {p0 p1 p2 p3 p4 p5 p6 p7:Prop} (h0:p0) (h1:p1) (h2:p2) (h3:p3) (h4:p4) (h5:p5) (h6:p6) (h7:p7):Go.RowKit.Hid p0∧Go.RowKit.Hid p1∧Go.RowKit.Hid p2∧Go.RowKit.Hid p3∧Go.RowKit.Hid p4∧Go.RowKit.Hid p5∧Go.RowKit.Hid p6∧Go.RowKit.Hid p7:=⟨h0,h1,h2,h3,h4,h5,h6,h7⟩
theorem ay {p0 p1 p2 p3 p4 p5 p6 p7 p8:Prop} (h0:p0) (h1:p1) (h2:p2) (h3:p3) (h4:p4) (h5:p5) (h6:p6) (h7:p7) (h8:p8):Go.RowKit.Hid p0∧Go.RowKit.Hid p1∧Go.RowKit.Hid p2∧Go.RowKit.Hid p3∧Go.RowKit.Hid p4∧Go.RowKit.Hid p5∧Go.RowKit.Hid p6∧Go.RowKit.Hid p7∧Go.RowKit.Hid p8:=⟨h0,h1,h2,h3,h4,h5,h6,h7,h8⟩
end Go.Proofs.YtfammloeljmplaaGreatDoor
