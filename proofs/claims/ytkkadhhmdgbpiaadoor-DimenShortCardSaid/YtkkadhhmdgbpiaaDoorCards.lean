/-
  DERIVED. GIVEN WITH THE SEED: THE CARDS: each row of YtkkadhhmdgbpiaaDoorRows.lean that lists a variable, with what it lists TIED to the program's text (the seventh form; the later family's looks); each row that meets fmt, with fmt's text TOLD by the authors' own Lean function (tested against real Go, not proved from fmt's source: count such statements apart). THE CARD IS WHAT COUNTS. Prove the row's statement (the work); the ties are given (YtkkadhhmdgbpiaaDoorTie.lean); close each card by the builder's one call (the guide's Derived/Test/ToyasCard.lean, 'card_holds'). Laid BY PROGRAM, IN A SANDBOX (cutbox-door.mjs). By AI agents, Wed Nov 11 2026. No macro, syntax, notation, axiom, sorry.
-/
import Derived.Test.YtkkadhhmdgbpiaaDoorRows
import GoSem.ClaimSeven
namespace Go.Proofs.YtkkadhhmdgbpiaaDoor
namespace Rows

/-- THE TIED CARD OF 'vinculumlaw02.DimenShort'. -/
def dimenShortCard : Claim7 := { stood := { row := dimenShortRow, standIns := [], harness := (true, "e85a0328ccc23b5dd7d8961f2bb89b9c46d1e03a4df1b38441570ce88c1280c5"), looks := true }, kinds := [], alts := [], laidByText := true, laidKinds := [.data, .data, .data, .data, .sentinel, .sentinel, .pinned], laidTests := true, laidLooks := .later }
def DimenShortCardSaid : Prop := Claim7.holds Tryd.pinned (.plain (OpenSpec.ofChange dimenShortSpec)) dimenShortCard

/-- THE TIED CARD OF 'vinculumlaw02.DimenNear'. -/
def dimenNearCard : Claim7 := { stood := { row := dimenNearRow, standIns := [], harness := (true, "e85a0328ccc23b5dd7d8961f2bb89b9c46d1e03a4df1b38441570ce88c1280c5"), looks := true }, kinds := [], alts := [], laidByText := true, laidKinds := [.data, .data, .data, .data, .sentinel, .sentinel, .pinned], laidTests := true, laidLooks := .later }
def DimenNearCardSaid : Prop := Claim7.holds Tryd.pinned (.plain (OpenSpec.ofChange dimenNearSpec)) dimenNearCard

/-- THE TIED CARD OF 'vinculumlaw02.DimenBack'. -/
def dimenBackCard : Claim7 := { stood := { row := dimenBackRow, standIns := [], harness := (true, "e85a0328ccc23b5dd7d8961f2bb89b9c46d1e03a4df1b38441570ce88c1280c5"), looks := true }, kinds := [], alts := [], laidByText := true, laidKinds := [.data, .data, .data, .data, .sentinel, .sentinel, .pinned], laidTests := true, laidLooks := .later }
def DimenBackCardSaid : Prop := Claim7.holds Tryd.pinned (.plain (OpenSpec.ofChange dimenBackSpec)) dimenBackCard

/-- THE TIED CARD OF 'vinculumlaw02.DimenZero'. -/
def dimenZeroCard : Claim7 := { stood := { row := dimenZeroRow, standIns := [], harness := (true, "e85a0328ccc23b5dd7d8961f2bb89b9c46d1e03a4df1b38441570ce88c1280c5"), looks := true }, kinds := [], alts := [], laidByText := true, laidKinds := [.data, .data, .data, .data, .sentinel, .sentinel, .pinned], laidTests := true, laidLooks := .later }
def DimenZeroCardSaid : Prop := Claim7.holds Tryd.pinned (.plain (OpenSpec.ofChange dimenZeroSpec)) dimenZeroCard

/-- THE TIED CARD OF 'vinculumlaw02.DimenScales'. -/
def dimenScalesCard : Claim7 := { stood := { row := dimenScalesRow, standIns := [], harness := (true, "e85a0328ccc23b5dd7d8961f2bb89b9c46d1e03a4df1b38441570ce88c1280c5"), looks := true }, kinds := [], alts := [], laidByText := true, laidKinds := [.data, .data, .data, .data, .sentinel, .sentinel, .pinned], laidTests := true, laidLooks := .later }
def DimenScalesCardSaid : Prop := Claim7.holds Tryd.pinned (.plain (OpenSpec.ofChange dimenScalesSpec)) dimenScalesCard

/-- THE SECOND FORM's CARD OF 'vinculumlaw02.DimenShort'. -/
def dimenShortUptoCard : Claim7 := { stood := { row := dimenShortUptoRow, standIns := [], harness := (true, "e85a0328ccc23b5dd7d8961f2bb89b9c46d1e03a4df1b38441570ce88c1280c5"), looks := true }, kinds := [], alts := [], laidByText := true, laidKinds := [.data, .data, .data, .data, .sentinel, .sentinel, .pinned], laidTests := true, laidLooks := .later }
def DimenShortUptoCardSaid : Prop := Claim7.holds Tryd.pinned (.plain (OpenSpec.upto dimenShortSpec)) dimenShortUptoCard

/-- THE SECOND FORM's CARD OF 'vinculumlaw02.DimenNear'. -/
def dimenNearUptoCard : Claim7 := { stood := { row := dimenNearUptoRow, standIns := [], harness := (true, "e85a0328ccc23b5dd7d8961f2bb89b9c46d1e03a4df1b38441570ce88c1280c5"), looks := true }, kinds := [], alts := [], laidByText := true, laidKinds := [.data, .data, .data, .data, .sentinel, .sentinel, .pinned], laidTests := true, laidLooks := .later }
def DimenNearUptoCardSaid : Prop := Claim7.holds Tryd.pinned (.plain (OpenSpec.upto dimenNearSpec)) dimenNearUptoCard

/-- THE SECOND FORM's CARD OF 'vinculumlaw02.DimenBack'. -/
def dimenBackUptoCard : Claim7 := { stood := { row := dimenBackUptoRow, standIns := [], harness := (true, "e85a0328ccc23b5dd7d8961f2bb89b9c46d1e03a4df1b38441570ce88c1280c5"), looks := true }, kinds := [], alts := [], laidByText := true, laidKinds := [.data, .data, .data, .data, .sentinel, .sentinel, .pinned], laidTests := true, laidLooks := .later }
def DimenBackUptoCardSaid : Prop := Claim7.holds Tryd.pinned (.plain (OpenSpec.upto dimenBackSpec)) dimenBackUptoCard

/-- THE SECOND FORM's CARD OF 'vinculumlaw02.DimenZero'. -/
def dimenZeroUptoCard : Claim7 := { stood := { row := dimenZeroUptoRow, standIns := [], harness := (true, "e85a0328ccc23b5dd7d8961f2bb89b9c46d1e03a4df1b38441570ce88c1280c5"), looks := true }, kinds := [], alts := [], laidByText := true, laidKinds := [.data, .data, .data, .data, .sentinel, .sentinel, .pinned], laidTests := true, laidLooks := .later }
def DimenZeroUptoCardSaid : Prop := Claim7.holds Tryd.pinned (.plain (OpenSpec.upto dimenZeroSpec)) dimenZeroUptoCard

/-- THE SECOND FORM's CARD OF 'vinculumlaw02.DimenScales'. -/
def dimenScalesUptoCard : Claim7 := { stood := { row := dimenScalesUptoRow, standIns := [], harness := (true, "e85a0328ccc23b5dd7d8961f2bb89b9c46d1e03a4df1b38441570ce88c1280c5"), looks := true }, kinds := [], alts := [], laidByText := true, laidKinds := [.data, .data, .data, .data, .sentinel, .sentinel, .pinned], laidTests := true, laidLooks := .later }
def DimenScalesUptoCardSaid : Prop := Claim7.holds Tryd.pinned (.plain (OpenSpec.upto dimenScalesSpec)) dimenScalesUptoCard
end Rows
end Go.Proofs.YtkkadhhmdgbpiaaDoor
