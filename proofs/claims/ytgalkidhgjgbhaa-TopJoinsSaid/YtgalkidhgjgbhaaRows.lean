/-
  No cell of these rows narrows 'for every input' (looked for: loops, veiled, ifaces, maps, wideKeys, modest, calm, conditions, laid).
  DERIVED. THE GIVEN ROWS OF THIS SEAT. 12 by the template 'for every input the law returns true; each argument reads behind the call as it read before'; 0 by the template 'total and deterministic' (their statements: YtgalkidhgjgbhaaTotals.lean).
  GIVEN WITH THE SEED: the statements are not yours to turn. If you find one false, say at which input.
  Laid BY PROGRAM, IN A SANDBOX (cutbox-rows.mjs): the forced cells as the released guide's own fill.sh prints them over the translation 4983db2d74151687… (all of the seat's roots in one cut). By AI agents, Wed Nov 11 2026. No macro, syntax, notation, axiom, sorry.
-/
import Derived.Test.YtgalkidhgjgbhaaChecked
import GoSem.Claim
import GoSem.ClaimJoined
import GoSem.ClaimMapViews
import Derived.JoinedTies
import Derived.KernelRfl
namespace Go.Proofs.Ytgalkidhgjgbhaa
/- THE CELL 'sum', in the pinned program and in every row, IS THE sha256 OF THE DUMP (.gsa) THAT YtgalkidhgjgbhaaProg.lean LOADS. Nothing in Lean hashes anything: it is a label: what it is worth is what the hold of that sum in a sandbox is worth. -/
noncomputable def Try.pinned : Pinned := { name := "ytgalkidhgjgbhaa", sum := "4983db2d74151687be10f25c816524f65670f07fc47eeb9c722420b5046655f0", checked := Try.checked }
namespace Rows
def none {H : Type} : Left H := { results := [], args := [] }

/-- 'strainertop.TopJoins': WHATEVER THE INPUT: true; the input reads as it did. -/
def topJoinsSpec : ChangeSpec := { name := "topJoins", fn := fun _ => fun
  | [d1, d2, d3] => { results := [.lit (.bool true)], args := [d1, d2, d3] }
  | _ => none }
def topJoinsRow : OpenClaim := { program := "ytgalkidhgjgbhaa", sum := "4983db2d74151687be10f25c816524f65670f07fc47eeb9c722420b5046655f0", func := "strainer/strainertop.TopJoins", spec := "topJoins", unfollowed := true, recurses := true, apart := false }
def TopJoinsSaid : Prop := topJoinsRow.holds Try.pinned (OpenSpec.ofChange topJoinsSpec)

/-- ITS FALSE NEIGHBOUR: 'it returns false'. Refute it at one input. -/
def topJoinsWrong : ChangeSpec := { name := "topJoins", fn := fun _ => fun
  | [d1, d2, d3] => { results := [.lit (.bool false)], args := [d1, d2, d3] }
  | _ => none }
def TopJoinsWrongFalsely : Prop := topJoinsRow.holds Try.pinned (OpenSpec.ofChange topJoinsWrong)

/-- 'strainerlaw04.CheckTells': WHATEVER THE INPUT: true; the input reads as it did. -/
def checkTellsSpec : ChangeSpec := { name := "checkTells", fn := fun _ => fun
  | [d] => { results := [.lit (.bool true)], args := [d] }
  | _ => none }
def checkTellsRow : OpenClaim := { program := "ytgalkidhgjgbhaa", sum := "4983db2d74151687be10f25c816524f65670f07fc47eeb9c722420b5046655f0", func := "strainer/strainerlaw04.CheckTells", spec := "checkTells", unfollowed := true, recurses := true, apart := false }
def CheckTellsSaid : Prop := checkTellsRow.holds Try.pinned (OpenSpec.ofChange checkTellsSpec)

/-- ITS FALSE NEIGHBOUR: 'it returns false'. Refute it at one input. -/
def checkTellsWrong : ChangeSpec := { name := "checkTells", fn := fun _ => fun
  | [d] => { results := [.lit (.bool false)], args := [d] }
  | _ => none }
def CheckTellsWrongFalsely : Prop := checkTellsRow.holds Try.pinned (OpenSpec.ofChange checkTellsWrong)

/-- 'strainerlaw04.CheckStored': WHATEVER THE INPUT: true; the input reads as it did. -/
def checkStoredSpec : ChangeSpec := { name := "checkStored", fn := fun _ => fun
  | [d] => { results := [.lit (.bool true)], args := [d] }
  | _ => none }
def checkStoredRow : OpenClaim := { program := "ytgalkidhgjgbhaa", sum := "4983db2d74151687be10f25c816524f65670f07fc47eeb9c722420b5046655f0", func := "strainer/strainerlaw04.CheckStored", spec := "checkStored", unfollowed := true, recurses := true, apart := false }
def CheckStoredSaid : Prop := checkStoredRow.holds Try.pinned (OpenSpec.ofChange checkStoredSpec)

/-- ITS FALSE NEIGHBOUR: 'it returns false'. Refute it at one input. -/
def checkStoredWrong : ChangeSpec := { name := "checkStored", fn := fun _ => fun
  | [d] => { results := [.lit (.bool false)], args := [d] }
  | _ => none }
def CheckStoredWrongFalsely : Prop := checkStoredRow.holds Try.pinned (OpenSpec.ofChange checkStoredWrong)

/-- 'strainerlaw04.CheckFree': WHATEVER THE INPUT: true; the input reads as it did. -/
def checkFreeSpec : ChangeSpec := { name := "checkFree", fn := fun _ => fun
  | [d1, d2] => { results := [.lit (.bool true)], args := [d1, d2] }
  | _ => none }
def checkFreeRow : OpenClaim := { program := "ytgalkidhgjgbhaa", sum := "4983db2d74151687be10f25c816524f65670f07fc47eeb9c722420b5046655f0", func := "strainer/strainerlaw04.CheckFree", spec := "checkFree", unfollowed := true, recurses := true, apart := false }
def CheckFreeSaid : Prop := checkFreeRow.holds Try.pinned (OpenSpec.ofChange checkFreeSpec)

/-- ITS FALSE NEIGHBOUR: 'it returns false'. Refute it at one input. -/
def checkFreeWrong : ChangeSpec := { name := "checkFree", fn := fun _ => fun
  | [d1, d2] => { results := [.lit (.bool false)], args := [d1, d2] }
  | _ => none }
def CheckFreeWrongFalsely : Prop := checkFreeRow.holds Try.pinned (OpenSpec.ofChange checkFreeWrong)

/-- 'strainerlaw04.CheckAhead': WHATEVER THE INPUT: true; the input reads as it did. -/
def checkAheadSpec : ChangeSpec := { name := "checkAhead", fn := fun _ => fun
  | [d1, d2] => { results := [.lit (.bool true)], args := [d1, d2] }
  | _ => none }
def checkAheadRow : OpenClaim := { program := "ytgalkidhgjgbhaa", sum := "4983db2d74151687be10f25c816524f65670f07fc47eeb9c722420b5046655f0", func := "strainer/strainerlaw04.CheckAhead", spec := "checkAhead", unfollowed := true, recurses := true, apart := false }
def CheckAheadSaid : Prop := checkAheadRow.holds Try.pinned (OpenSpec.ofChange checkAheadSpec)

/-- ITS FALSE NEIGHBOUR: 'it returns false'. Refute it at one input. -/
def checkAheadWrong : ChangeSpec := { name := "checkAhead", fn := fun _ => fun
  | [d1, d2] => { results := [.lit (.bool false)], args := [d1, d2] }
  | _ => none }
def CheckAheadWrongFalsely : Prop := checkAheadRow.holds Try.pinned (OpenSpec.ofChange checkAheadWrong)

/-- 'strainerlaw04.CheckLong': WHATEVER THE INPUT: true; the input reads as it did. -/
def checkLongSpec : ChangeSpec := { name := "checkLong", fn := fun _ => fun
  | [d] => { results := [.lit (.bool true)], args := [d] }
  | _ => none }
def checkLongRow : OpenClaim := { program := "ytgalkidhgjgbhaa", sum := "4983db2d74151687be10f25c816524f65670f07fc47eeb9c722420b5046655f0", func := "strainer/strainerlaw04.CheckLong", spec := "checkLong", unfollowed := true, recurses := true, apart := false }
def CheckLongSaid : Prop := checkLongRow.holds Try.pinned (OpenSpec.ofChange checkLongSpec)

/-- ITS FALSE NEIGHBOUR: 'it returns false'. Refute it at one input. -/
def checkLongWrong : ChangeSpec := { name := "checkLong", fn := fun _ => fun
  | [d] => { results := [.lit (.bool false)], args := [d] }
  | _ => none }
def CheckLongWrongFalsely : Prop := checkLongRow.holds Try.pinned (OpenSpec.ofChange checkLongWrong)

/-- 'strainerlaw04.CheckStraight': WHATEVER THE INPUT: true; the input reads as it did. -/
def checkStraightSpec : ChangeSpec := { name := "checkStraight", fn := fun _ => fun
  | [d] => { results := [.lit (.bool true)], args := [d] }
  | _ => none }
def checkStraightRow : OpenClaim := { program := "ytgalkidhgjgbhaa", sum := "4983db2d74151687be10f25c816524f65670f07fc47eeb9c722420b5046655f0", func := "strainer/strainerlaw04.CheckStraight", spec := "checkStraight", unfollowed := true, recurses := true, apart := false }
def CheckStraightSaid : Prop := checkStraightRow.holds Try.pinned (OpenSpec.ofChange checkStraightSpec)

/-- ITS FALSE NEIGHBOUR: 'it returns false'. Refute it at one input. -/
def checkStraightWrong : ChangeSpec := { name := "checkStraight", fn := fun _ => fun
  | [d] => { results := [.lit (.bool false)], args := [d] }
  | _ => none }
def CheckStraightWrongFalsely : Prop := checkStraightRow.holds Try.pinned (OpenSpec.ofChange checkStraightWrong)

/-- 'strainerlaw21.AsmChains': WHATEVER THE INPUT: true; the input reads as it did. -/
def asmChainsSpec : ChangeSpec := { name := "asmChains", fn := fun _ => fun
  | [d1, d2] => { results := [.lit (.bool true)], args := [d1, d2] }
  | _ => none }
def asmChainsRow : OpenClaim := { program := "ytgalkidhgjgbhaa", sum := "4983db2d74151687be10f25c816524f65670f07fc47eeb9c722420b5046655f0", func := "strainer/strainerlaw21.AsmChains", spec := "asmChains", unfollowed := true, recurses := true, apart := false }
def AsmChainsSaid : Prop := asmChainsRow.holds Try.pinned (OpenSpec.ofChange asmChainsSpec)

/-- ITS FALSE NEIGHBOUR: 'it returns false'. Refute it at one input. -/
def asmChainsWrong : ChangeSpec := { name := "asmChains", fn := fun _ => fun
  | [d1, d2] => { results := [.lit (.bool false)], args := [d1, d2] }
  | _ => none }
def AsmChainsWrongFalsely : Prop := asmChainsRow.holds Try.pinned (OpenSpec.ofChange asmChainsWrong)

/-- 'strainerlaw21.AsmPrunes': WHATEVER THE INPUT: true; the input reads as it did. -/
def asmPrunesSpec : ChangeSpec := { name := "asmPrunes", fn := fun _ => fun
  | [d1, d2] => { results := [.lit (.bool true)], args := [d1, d2] }
  | _ => none }
def asmPrunesRow : OpenClaim := { program := "ytgalkidhgjgbhaa", sum := "4983db2d74151687be10f25c816524f65670f07fc47eeb9c722420b5046655f0", func := "strainer/strainerlaw21.AsmPrunes", spec := "asmPrunes", unfollowed := true, recurses := true, apart := false }
def AsmPrunesSaid : Prop := asmPrunesRow.holds Try.pinned (OpenSpec.ofChange asmPrunesSpec)

/-- ITS FALSE NEIGHBOUR: 'it returns false'. Refute it at one input. -/
def asmPrunesWrong : ChangeSpec := { name := "asmPrunes", fn := fun _ => fun
  | [d1, d2] => { results := [.lit (.bool false)], args := [d1, d2] }
  | _ => none }
def AsmPrunesWrongFalsely : Prop := asmPrunesRow.holds Try.pinned (OpenSpec.ofChange asmPrunesWrong)

/-- 'strainerlaw21.AsmFar': WHATEVER THE INPUT: true; the input reads as it did. -/
def asmFarSpec : ChangeSpec := { name := "asmFar", fn := fun _ => fun
  | [d] => { results := [.lit (.bool true)], args := [d] }
  | _ => none }
def asmFarRow : OpenClaim := { program := "ytgalkidhgjgbhaa", sum := "4983db2d74151687be10f25c816524f65670f07fc47eeb9c722420b5046655f0", func := "strainer/strainerlaw21.AsmFar", spec := "asmFar", unfollowed := true, recurses := true, apart := false }
def AsmFarSaid : Prop := asmFarRow.holds Try.pinned (OpenSpec.ofChange asmFarSpec)

/-- ITS FALSE NEIGHBOUR: 'it returns false'. Refute it at one input. -/
def asmFarWrong : ChangeSpec := { name := "asmFar", fn := fun _ => fun
  | [d] => { results := [.lit (.bool false)], args := [d] }
  | _ => none }
def AsmFarWrongFalsely : Prop := asmFarRow.holds Try.pinned (OpenSpec.ofChange asmFarWrong)

/-- 'strainerlaw21.AsmLong': WHATEVER THE INPUT: true; the input reads as it did. -/
def asmLongSpec : ChangeSpec := { name := "asmLong", fn := fun _ => fun
  | [d] => { results := [.lit (.bool true)], args := [d] }
  | _ => none }
def asmLongRow : OpenClaim := { program := "ytgalkidhgjgbhaa", sum := "4983db2d74151687be10f25c816524f65670f07fc47eeb9c722420b5046655f0", func := "strainer/strainerlaw21.AsmLong", spec := "asmLong", unfollowed := true, recurses := true, apart := false }
def AsmLongSaid : Prop := asmLongRow.holds Try.pinned (OpenSpec.ofChange asmLongSpec)

/-- ITS FALSE NEIGHBOUR: 'it returns false'. Refute it at one input. -/
def asmLongWrong : ChangeSpec := { name := "asmLong", fn := fun _ => fun
  | [d] => { results := [.lit (.bool false)], args := [d] }
  | _ => none }
def AsmLongWrongFalsely : Prop := asmLongRow.holds Try.pinned (OpenSpec.ofChange asmLongWrong)

/-- 'strainerlaw21.AsmCounts': WHATEVER THE INPUT: true; the input reads as it did. -/
def asmCountsSpec : ChangeSpec := { name := "asmCounts", fn := fun _ => fun
  | [d] => { results := [.lit (.bool true)], args := [d] }
  | _ => none }
def asmCountsRow : OpenClaim := { program := "ytgalkidhgjgbhaa", sum := "4983db2d74151687be10f25c816524f65670f07fc47eeb9c722420b5046655f0", func := "strainer/strainerlaw21.AsmCounts", spec := "asmCounts", unfollowed := true, recurses := true, apart := false }
def AsmCountsSaid : Prop := asmCountsRow.holds Try.pinned (OpenSpec.ofChange asmCountsSpec)

/-- ITS FALSE NEIGHBOUR: 'it returns false'. Refute it at one input. -/
def asmCountsWrong : ChangeSpec := { name := "asmCounts", fn := fun _ => fun
  | [d] => { results := [.lit (.bool false)], args := [d] }
  | _ => none }
def AsmCountsWrongFalsely : Prop := asmCountsRow.holds Try.pinned (OpenSpec.ofChange asmCountsWrong)

/- THE SECOND FORM. 'bulk': how many values and letters a reading holds, each counted each time it is reached (what is shared counts as often as it is met; a slice's spare places count too). A statement '..UptoSaid' is the law's where the arguments, and the package variables that the reading takes, are together of bulk at most 1048576: NARROWER than '..Said'. Prove '..Said' where nothing that the law and all that it calls make is longer than what came in: it says more and counts as full. Else prove '..UptoSaid'. A law counts once. -/
mutual
def uptoBulk {H : Type} : DataW H → Nat
  | .lit (.string bytes) => bytes.length + 1
  | .lit _ => 1
  | .nil => 1
  | .ptr d => uptoBulk d + 1
  | .slice elems spare => uptoBulkAll elems + uptoBulkAll spare + 1
  | .agg parts => uptoBulkAll parts + 1
  | .iface _ d => uptoBulk d + 1
  | .map entries => uptoBulkEntries entries + 1
  | .held _ => 1
def uptoBulkAll {H : Type} : List (DataW H) → Nat
  | [] => 0
  | d :: r => uptoBulk d + uptoBulkAll r
def uptoBulkEntries {H : Type} : List (Lit × DataW H) → Nat
  | [] => 0
  | x :: r => uptoBulkEntry x + uptoBulkEntries r
def uptoBulkEntry {H : Type} : Lit × DataW H → Nat
  | (.string bytes, d) => bytes.length + uptoBulk d + 1
  | (_, d) => uptoBulk d + 1
 end
def uptoSmall : (H : Type) → List (DataW H) → Bool := fun _ ds => decide (uptoBulkAll ds ≤ 1048576)
def OpenSpec.upto (s : _root_.Go.ChangeSpec) : _root_.Go.OpenSpec := { _root_.Go.OpenSpec.ofChange s with cond := some uptoSmall }

/-- 'strainertop.TopJoins', WHERE WHAT IT READS IS OF BULK AT MOST 1048576: true; the input reads as it did. -/
def topJoinsUptoRow : OpenClaim := { program := "ytgalkidhgjgbhaa", sum := "4983db2d74151687be10f25c816524f65670f07fc47eeb9c722420b5046655f0", func := "strainer/strainertop.TopJoins", spec := "topJoins", unfollowed := true, recurses := true, apart := false, narrowed := true }
def TopJoinsUptoSaid : Prop := topJoinsUptoRow.holds Try.pinned (OpenSpec.upto topJoinsSpec)

/-- 'strainerlaw04.CheckTells', WHERE WHAT IT READS IS OF BULK AT MOST 1048576: true; the input reads as it did. -/
def checkTellsUptoRow : OpenClaim := { program := "ytgalkidhgjgbhaa", sum := "4983db2d74151687be10f25c816524f65670f07fc47eeb9c722420b5046655f0", func := "strainer/strainerlaw04.CheckTells", spec := "checkTells", unfollowed := true, recurses := true, apart := false, narrowed := true }
def CheckTellsUptoSaid : Prop := checkTellsUptoRow.holds Try.pinned (OpenSpec.upto checkTellsSpec)

/-- 'strainerlaw04.CheckStored', WHERE WHAT IT READS IS OF BULK AT MOST 1048576: true; the input reads as it did. -/
def checkStoredUptoRow : OpenClaim := { program := "ytgalkidhgjgbhaa", sum := "4983db2d74151687be10f25c816524f65670f07fc47eeb9c722420b5046655f0", func := "strainer/strainerlaw04.CheckStored", spec := "checkStored", unfollowed := true, recurses := true, apart := false, narrowed := true }
def CheckStoredUptoSaid : Prop := checkStoredUptoRow.holds Try.pinned (OpenSpec.upto checkStoredSpec)

/-- 'strainerlaw04.CheckFree', WHERE WHAT IT READS IS OF BULK AT MOST 1048576: true; the input reads as it did. -/
def checkFreeUptoRow : OpenClaim := { program := "ytgalkidhgjgbhaa", sum := "4983db2d74151687be10f25c816524f65670f07fc47eeb9c722420b5046655f0", func := "strainer/strainerlaw04.CheckFree", spec := "checkFree", unfollowed := true, recurses := true, apart := false, narrowed := true }
def CheckFreeUptoSaid : Prop := checkFreeUptoRow.holds Try.pinned (OpenSpec.upto checkFreeSpec)

/-- 'strainerlaw04.CheckAhead', WHERE WHAT IT READS IS OF BULK AT MOST 1048576: true; the input reads as it did. -/
def checkAheadUptoRow : OpenClaim := { program := "ytgalkidhgjgbhaa", sum := "4983db2d74151687be10f25c816524f65670f07fc47eeb9c722420b5046655f0", func := "strainer/strainerlaw04.CheckAhead", spec := "checkAhead", unfollowed := true, recurses := true, apart := false, narrowed := true }
def CheckAheadUptoSaid : Prop := checkAheadUptoRow.holds Try.pinned (OpenSpec.upto checkAheadSpec)

/-- 'strainerlaw04.CheckLong', WHERE WHAT IT READS IS OF BULK AT MOST 1048576: true; the input reads as it did. -/
def checkLongUptoRow : OpenClaim := { program := "ytgalkidhgjgbhaa", sum := "4983db2d74151687be10f25c816524f65670f07fc47eeb9c722420b5046655f0", func := "strainer/strainerlaw04.CheckLong", spec := "checkLong", unfollowed := true, recurses := true, apart := false, narrowed := true }
def CheckLongUptoSaid : Prop := checkLongUptoRow.holds Try.pinned (OpenSpec.upto checkLongSpec)

/-- 'strainerlaw04.CheckStraight', WHERE WHAT IT READS IS OF BULK AT MOST 1048576: true; the input reads as it did. -/
def checkStraightUptoRow : OpenClaim := { program := "ytgalkidhgjgbhaa", sum := "4983db2d74151687be10f25c816524f65670f07fc47eeb9c722420b5046655f0", func := "strainer/strainerlaw04.CheckStraight", spec := "checkStraight", unfollowed := true, recurses := true, apart := false, narrowed := true }
def CheckStraightUptoSaid : Prop := checkStraightUptoRow.holds Try.pinned (OpenSpec.upto checkStraightSpec)

/-- 'strainerlaw21.AsmChains', WHERE WHAT IT READS IS OF BULK AT MOST 1048576: true; the input reads as it did. -/
def asmChainsUptoRow : OpenClaim := { program := "ytgalkidhgjgbhaa", sum := "4983db2d74151687be10f25c816524f65670f07fc47eeb9c722420b5046655f0", func := "strainer/strainerlaw21.AsmChains", spec := "asmChains", unfollowed := true, recurses := true, apart := false, narrowed := true }
def AsmChainsUptoSaid : Prop := asmChainsUptoRow.holds Try.pinned (OpenSpec.upto asmChainsSpec)

/-- 'strainerlaw21.AsmPrunes', WHERE WHAT IT READS IS OF BULK AT MOST 1048576: true; the input reads as it did. -/
def asmPrunesUptoRow : OpenClaim := { program := "ytgalkidhgjgbhaa", sum := "4983db2d74151687be10f25c816524f65670f07fc47eeb9c722420b5046655f0", func := "strainer/strainerlaw21.AsmPrunes", spec := "asmPrunes", unfollowed := true, recurses := true, apart := false, narrowed := true }
def AsmPrunesUptoSaid : Prop := asmPrunesUptoRow.holds Try.pinned (OpenSpec.upto asmPrunesSpec)

/-- 'strainerlaw21.AsmFar', WHERE WHAT IT READS IS OF BULK AT MOST 1048576: true; the input reads as it did. -/
def asmFarUptoRow : OpenClaim := { program := "ytgalkidhgjgbhaa", sum := "4983db2d74151687be10f25c816524f65670f07fc47eeb9c722420b5046655f0", func := "strainer/strainerlaw21.AsmFar", spec := "asmFar", unfollowed := true, recurses := true, apart := false, narrowed := true }
def AsmFarUptoSaid : Prop := asmFarUptoRow.holds Try.pinned (OpenSpec.upto asmFarSpec)

/-- 'strainerlaw21.AsmLong', WHERE WHAT IT READS IS OF BULK AT MOST 1048576: true; the input reads as it did. -/
def asmLongUptoRow : OpenClaim := { program := "ytgalkidhgjgbhaa", sum := "4983db2d74151687be10f25c816524f65670f07fc47eeb9c722420b5046655f0", func := "strainer/strainerlaw21.AsmLong", spec := "asmLong", unfollowed := true, recurses := true, apart := false, narrowed := true }
def AsmLongUptoSaid : Prop := asmLongUptoRow.holds Try.pinned (OpenSpec.upto asmLongSpec)

/-- 'strainerlaw21.AsmCounts', WHERE WHAT IT READS IS OF BULK AT MOST 1048576: true; the input reads as it did. -/
def asmCountsUptoRow : OpenClaim := { program := "ytgalkidhgjgbhaa", sum := "4983db2d74151687be10f25c816524f65670f07fc47eeb9c722420b5046655f0", func := "strainer/strainerlaw21.AsmCounts", spec := "asmCounts", unfollowed := true, recurses := true, apart := false, narrowed := true }
def AsmCountsUptoSaid : Prop := asmCountsUptoRow.holds Try.pinned (OpenSpec.upto asmCountsSpec)

end Rows
end Go.Proofs.Ytgalkidhgjgbhaa
