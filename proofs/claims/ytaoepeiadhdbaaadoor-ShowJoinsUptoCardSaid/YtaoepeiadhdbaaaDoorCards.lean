/-
  DERIVED. GIVEN WITH THE SEED: THE CARDS: each row of YtaoepeiadhdbaaaDoorRows.lean that lists a variable, with what it lists TIED to the program's text (the seventh form; the later family's looks); each row that meets fmt, with fmt's text TOLD by the authors' own Lean function (tested against real Go, not proved from fmt's source: count such statements apart). THE CARD IS WHAT COUNTS. Prove the row's statement (the work); the ties are given (YtaoepeiadhdbaaaDoorTie.lean); close each card by the builder's one call (the guide's Derived/Test/ToyasCard.lean, 'card_holds'). Laid BY PROGRAM, IN A SANDBOX (cutbox-door.mjs). By AI agents, Wed Nov 11 2026. No macro, syntax, notation, axiom, sorry.
-/
import Derived.Test.YtaoepeiadhdbaaaDoorRows
import GoSem.ClaimSeven
namespace Go.Proofs.YtaoepeiadhdbaaaDoor
namespace Rows

/-- THE TIED CARD OF 'vinculumlaw21.ShowJoins'. -/
def showJoinsCard : Claim7 := { stood := { row := showJoinsRow, standIns := [], harness := (true, "a7c9603e69e61d6da692a0a58ba6d65a0cb40ee914a4618a856b7cb05a57b6a6"), looks := false }, kinds := [], alts := [], laidByText := true, laidKinds := [.data, .data, .data], laidTests := true, laidLooks := .later }
def ShowJoinsCardSaid : Prop := Claim7.holds Tryd.pinned (.plain (OpenSpec.ofChange showJoinsSpec)) showJoinsCard

/-- THE TIED CARD OF 'vinculumlaw21.ShowInside'. -/
def showInsideCard : Claim7 := { stood := { row := showInsideRow, standIns := [], harness := (true, "a7c9603e69e61d6da692a0a58ba6d65a0cb40ee914a4618a856b7cb05a57b6a6"), looks := false }, kinds := [], alts := [], laidByText := true, laidKinds := [.data, .data, .data], laidTests := true, laidLooks := .later }
def ShowInsideCardSaid : Prop := Claim7.holds Tryd.pinned (.plain (OpenSpec.ofChange showInsideSpec)) showInsideCard

/-- THE SECOND FORM's CARD OF 'vinculumlaw21.ShowJoins'. -/
def showJoinsUptoCard : Claim7 := { stood := { row := showJoinsUptoRow, standIns := [], harness := (true, "a7c9603e69e61d6da692a0a58ba6d65a0cb40ee914a4618a856b7cb05a57b6a6"), looks := false }, kinds := [], alts := [], laidByText := true, laidKinds := [.data, .data, .data], laidTests := true, laidLooks := .later }
def ShowJoinsUptoCardSaid : Prop := Claim7.holds Tryd.pinned (.plain (OpenSpec.upto showJoinsSpec)) showJoinsUptoCard

/-- THE SECOND FORM's CARD OF 'vinculumlaw21.ShowInside'. -/
def showInsideUptoCard : Claim7 := { stood := { row := showInsideUptoRow, standIns := [], harness := (true, "a7c9603e69e61d6da692a0a58ba6d65a0cb40ee914a4618a856b7cb05a57b6a6"), looks := false }, kinds := [], alts := [], laidByText := true, laidKinds := [.data, .data, .data], laidTests := true, laidLooks := .later }
def ShowInsideUptoCardSaid : Prop := Claim7.holds Tryd.pinned (.plain (OpenSpec.upto showInsideSpec)) showInsideUptoCard
end Rows
end Go.Proofs.YtaoepeiadhdbaaaDoor
