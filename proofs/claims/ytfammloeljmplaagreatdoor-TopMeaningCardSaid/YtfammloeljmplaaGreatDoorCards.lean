/-
  DERIVED. GIVEN WITH THE SEED: THE CARDS: each row of YtfammloeljmplaaGreatDoorRows.lean that lists a variable, with what it lists TIED to the program's text (the seventh form; the later family's looks); each row that meets fmt, with fmt's text TOLD by the authors' own Lean function (tested against real Go, not proved from fmt's source: count such statements apart). THE CARD IS WHAT COUNTS. Prove the row's statement (the work); the ties are given (YtfammloeljmplaaGreatDoorTie.lean); close each card by the builder's one call (the guide's Derived/Test/ToyasCard.lean, 'card_holds'). Laid BY PROGRAM, IN A SANDBOX (cutbox-door.mjs). By AI agents, Wed Nov 11 2026. No macro, syntax, notation, axiom, sorry.
-/
import Derived.Test.YtfammloeljmplaaGreatDoorRows
import GoSem.ClaimSeven
namespace Go.Proofs.YtfammloeljmplaaGreatDoor
namespace Rows

/-- THE TIED CARD OF 'strainertop.TopMeaning'. -/
def topMeaningCard : Claim7 := { stood := { row := topMeaningRow, standIns := [], harness := (true, "26cf2d567f939431de515d7a8b583aff4df3fb3a2483d2c25ddb141169f7a041"), looks := true }, kinds := [], alts := [], laidByText := true, laidKinds := [.data, .data, .data, .data, .pinned], laidTests := true, laidLooks := .later }
def TopMeaningCardSaid : Prop := Claim7.holds Tryz.pinned (.plain (OpenSpec.ofChange topMeaningSpec)) topMeaningCard

/-- THE SECOND FORM's CARD OF 'strainertop.TopMeaning'. -/
def topMeaningUptoCard : Claim7 := { stood := { row := topMeaningUptoRow, standIns := [], harness := (true, "26cf2d567f939431de515d7a8b583aff4df3fb3a2483d2c25ddb141169f7a041"), looks := true }, kinds := [], alts := [], laidByText := true, laidKinds := [.data, .data, .data, .data, .pinned], laidTests := true, laidLooks := .later }
def TopMeaningUptoCardSaid : Prop := Claim7.holds Tryz.pinned (.plain (OpenSpec.upto topMeaningSpec)) topMeaningUptoCard
end Rows
end Go.Proofs.YtfammloeljmplaaGreatDoor
