/-
  Rows of instructions that a call makes.
-/
import Derived.Test.YtpinnockcnmofaaGreatDoorData
namespace Go.Proofs.YtpinnockcnmofaaGreatDoor
open Go.RowKit

theorem info_inst : (Tryz.prog.info? 47).map (fun i => (i.zero, i.size, i.bytes)) = some (some (.agg #[.int .u16 0, .int .u8 0, .int .u8 0, .int .u32 0]), 4, 8) := by kernel_rfl

/-- What a call that makes instructions hands back. -/
def MakesInsts (l : List I) (w : World) (e : Ending) (w' : World) : Prop :=
  ∃ v, e = .returned v ∧ w'.ownsRow w.heap.size 47 4 v l.length (cellsI l) ∧ Below w.heap.size w w'
end Go.Proofs.YtpinnockcnmofaaGreatDoor
