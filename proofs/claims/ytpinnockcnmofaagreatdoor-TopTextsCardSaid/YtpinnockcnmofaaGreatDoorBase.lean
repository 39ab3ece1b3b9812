/-
  What the walks of this claim stand on: imports, and small words.
-/
import Derived.Test.YtpinnockcnmofaaGreatDoorRows
import Derived.Test.YtpinnockcnmofaaGreatDoorAny
import Derived.Test.YtpinnockcnmofaaGreatDoorWords
import Derived.Test.YtpinnockcnmofaaGreatDoorIntMaps
import Derived.WalkKit
import Derived.ProofKit
import Derived.OpenShut
import Derived.ShutString
import Derived.ChangeOld
import Derived.Below
import Derived.Outline
import Derived.Carry
import Derived.WalkSpells
import Derived.WalkLawsBesides
import Derived.Lib.Hide
import Derived.Deep.DeepFit
import Derived.Deep.QuietTactic
import Derived.BigQuiet
import Derived.StillTailTactics
import Derived.Deep.LoopGhost
import Derived.IntWalk
import Derived.Deep.RegionHeld3
import Derived.Deep.AppendLies
namespace Go.Proofs.YtpinnockcnmofaaGreatDoor
open Go.RowKit

theorem follows : (Tryz.prog).follows .mixedOrders = true := by kernel_rfl
end Go.Proofs.YtpinnockcnmofaaGreatDoor
