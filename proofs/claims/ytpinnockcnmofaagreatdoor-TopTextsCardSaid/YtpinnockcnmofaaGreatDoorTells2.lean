/-
  A place and an error's number.
-/
import Derived.Test.YtpinnockcnmofaaGreatDoorData
namespace Go.Proofs.YtpinnockcnmofaaGreatDoor
open Go.RowKit
set_option linter.unusedVariables false

def TellsTwo (p : Nat × Nat) (w : World) (e : Ending) (w' : World) : Prop := e = .returned (.tuple #[.int .i64 (p.1 : Nat), .int .i64 (p.2 : Nat)]) ∧ Below w.heap.size w w'
end Go.Proofs.YtpinnockcnmofaaGreatDoor
