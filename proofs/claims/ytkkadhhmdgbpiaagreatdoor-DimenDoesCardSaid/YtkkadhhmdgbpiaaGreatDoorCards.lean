/-
  DERIVED. GIVEN WITH THE SEED: THE CARDS: each row of YtkkadhhmdgbpiaaGreatDoorRows.lean that lists a variable, with what it lists TIED to the program's text (the seventh form; the later family's looks); each row that meets fmt, with fmt's text TOLD by the authors' own Lean function (tested against real Go, not proved from fmt's source: count such statements apart). THE CARD IS WHAT COUNTS. Prove the row's statement (the work); the ties are given (YtkkadhhmdgbpiaaGreatDoorTie.lean); close each card by the builder's one call (the guide's Derived/Test/ToyasCard.lean, 'card_holds'). Laid BY PROGRAM, IN A SANDBOX (cutbox-door.mjs). By AI agents, Wed Nov 11 2026. No macro, syntax, notation, axiom, sorry.
-/
import Derived.Test.YtkkadhhmdgbpiaaGreatDoorRows
import GoSem.ClaimSeven
namespace Go.Proofs.YtkkadhhmdgbpiaaGreatDoor
namespace Rows

/-- THE TIED CARD OF 'vinculumlaw02.DimenDoes'. -/
def dimenDoesCard : Claim7 := { stood := { row := dimenDoesRow, standIns := [], harness := (true, "2fe4f9117e84bbd748485cbe7c1a84601adaf346c4745e977cbd784235fdd075"), looks := true }, kinds := [], alts := [], laidByText := true, laidKinds := [.data, .data, .data, .data, .sentinel, .sentinel, .pinned], laidTests := true, laidLooks := .later }
def DimenDoesCardSaid : Prop := Claim7.holds Tryz.pinned (.plain (OpenSpec.ofChange dimenDoesSpec)) dimenDoesCard

/-- THE SECOND FORM's CARD OF 'vinculumlaw02.DimenDoes'. -/
def dimenDoesUptoCard : Claim7 := { stood := { row := dimenDoesUptoRow, standIns := [], harness := (true, "2fe4f9117e84bbd748485cbe7c1a84601adaf346c4745e977cbd784235fdd075"), looks := true }, kinds := [], alts := [], laidByText := true, laidKinds := [.data, .data, .data, .data, .sentinel, .sentinel, .pinned], laidTests := true, laidLooks := .later }
def DimenDoesUptoCardSaid : Prop := Claim7.holds Tryz.pinned (.plain (OpenSpec.upto dimenDoesSpec)) dimenDoesUptoCard
end Rows
end Go.Proofs.YtkkadhhmdgbpiaaGreatDoor
