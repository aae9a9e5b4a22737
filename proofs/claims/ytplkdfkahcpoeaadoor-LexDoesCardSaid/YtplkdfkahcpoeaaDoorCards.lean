/-
  DERIVED. GIVEN WITH THE SEED: THE CARDS: each row of YtplkdfkahcpoeaaDoorRows.lean that lists a variable, with what it lists TIED to the program's text (the seventh form; the later family's looks); each row that meets fmt, with fmt's text TOLD by the authors' own Lean function (tested against real Go, not proved from fmt's source: count such statements apart). THE CARD IS WHAT COUNTS. Prove the row's statement (the work); the ties are given (YtplkdfkahcpoeaaDoorTie.lean); close each card by the builder's one call (the guide's Derived/Test/ToyasCard.lean, 'card_holds'). Laid BY PROGRAM, IN A SANDBOX (cutbox-door.mjs). By AI agents, Wed Nov 11 2026. No macro, syntax, notation, axiom, sorry.
-/
import Derived.Test.YtplkdfkahcpoeaaDoorRows
import GoSem.ClaimSeven
namespace Go.Proofs.YtplkdfkahcpoeaaDoor
namespace Rows

/-- THE TIED CARD OF 'vinculumlaw19.LexDoes'. -/
def lexDoesCard : Claim7 := { stood := { row := lexDoesRow, standIns := [], harness := (true, "278a73860522aa45c4e94c075956ff83c454908a0d32cc6c603b2c46bf338130"), looks := false }, kinds := [], alts := [], laidByText := true, laidKinds := [.data, .data, .data, .data, .pinned], laidTests := true, laidLooks := .later }
def LexDoesCardSaid : Prop := Claim7.holds Tryd.pinned (.plain (OpenSpec.ofChange lexDoesSpec)) lexDoesCard

/-- THE TIED CARD OF 'vinculumlaw19.LexQuotes'. -/
def lexQuotesCard : Claim7 := { stood := { row := lexQuotesRow, standIns := [], harness := (true, "278a73860522aa45c4e94c075956ff83c454908a0d32cc6c603b2c46bf338130"), looks := false }, kinds := [], alts := [], laidByText := true, laidKinds := [.data, .data, .data, .data, .pinned], laidTests := true, laidLooks := .later }
def LexQuotesCardSaid : Prop := Claim7.holds Tryd.pinned (.plain (OpenSpec.ofChange lexQuotesSpec)) lexQuotesCard

/-- THE TIED CARD OF 'vinculumlaw19.LexWhite'. -/
def lexWhiteCard : Claim7 := { stood := { row := lexWhiteRow, standIns := [], harness := (true, "278a73860522aa45c4e94c075956ff83c454908a0d32cc6c603b2c46bf338130"), looks := false }, kinds := [], alts := [], laidByText := true, laidKinds := [.data, .data, .data, .data, .pinned], laidTests := true, laidLooks := .later }
def LexWhiteCardSaid : Prop := Claim7.holds Tryd.pinned (.plain (OpenSpec.ofChange lexWhiteSpec)) lexWhiteCard

/-- THE TIED CARD OF 'vinculumlaw19.LexJoins'. -/
def lexJoinsCard : Claim7 := { stood := { row := lexJoinsRow, standIns := [], harness := (true, "278a73860522aa45c4e94c075956ff83c454908a0d32cc6c603b2c46bf338130"), looks := false }, kinds := [], alts := [], laidByText := true, laidKinds := [.data, .data, .data, .data, .pinned], laidTests := true, laidLooks := .later }
def LexJoinsCardSaid : Prop := Claim7.holds Tryd.pinned (.plain (OpenSpec.ofChange lexJoinsSpec)) lexJoinsCard

/-- THE TIED CARD OF 'vinculumlaw19.LexPlaces'. -/
def lexPlacesCard : Claim7 := { stood := { row := lexPlacesRow, standIns := [], harness := (true, "278a73860522aa45c4e94c075956ff83c454908a0d32cc6c603b2c46bf338130"), looks := false }, kinds := [], alts := [], laidByText := true, laidKinds := [.data, .data, .data, .data, .pinned], laidTests := true, laidLooks := .later }
def LexPlacesCardSaid : Prop := Claim7.holds Tryd.pinned (.plain (OpenSpec.ofChange lexPlacesSpec)) lexPlacesCard

/-- THE SECOND FORM's CARD OF 'vinculumlaw19.LexDoes'. -/
def lexDoesUptoCard : Claim7 := { stood := { row := lexDoesUptoRow, standIns := [], harness := (true, "278a73860522aa45c4e94c075956ff83c454908a0d32cc6c603b2c46bf338130"), looks := false }, kinds := [], alts := [], laidByText := true, laidKinds := [.data, .data, .data, .data, .pinned], laidTests := true, laidLooks := .later }
def LexDoesUptoCardSaid : Prop := Claim7.holds Tryd.pinned (.plain (OpenSpec.upto lexDoesSpec)) lexDoesUptoCard

/-- THE SECOND FORM's CARD OF 'vinculumlaw19.LexQuotes'. -/
def lexQuotesUptoCard : Claim7 := { stood := { row := lexQuotesUptoRow, standIns := [], harness := (true, "278a73860522aa45c4e94c075956ff83c454908a0d32cc6c603b2c46bf338130"), looks := false }, kinds := [], alts := [], laidByText := true, laidKinds := [.data, .data, .data, .data, .pinned], laidTests := true, laidLooks := .later }
def LexQuotesUptoCardSaid : Prop := Claim7.holds Tryd.pinned (.plain (OpenSpec.upto lexQuotesSpec)) lexQuotesUptoCard

/-- THE SECOND FORM's CARD OF 'vinculumlaw19.LexWhite'. -/
def lexWhiteUptoCard : Claim7 := { stood := { row := lexWhiteUptoRow, standIns := [], harness := (true, "278a73860522aa45c4e94c075956ff83c454908a0d32cc6c603b2c46bf338130"), looks := false }, kinds := [], alts := [], laidByText := true, laidKinds := [.data, .data, .data, .data, .pinned], laidTests := true, laidLooks := .later }
def LexWhiteUptoCardSaid : Prop := Claim7.holds Tryd.pinned (.plain (OpenSpec.upto lexWhiteSpec)) lexWhiteUptoCard

/-- THE SECOND FORM's CARD OF 'vinculumlaw19.LexJoins'. -/
def lexJoinsUptoCard : Claim7 := { stood := { row := lexJoinsUptoRow, standIns := [], harness := (true, "278a73860522aa45c4e94c075956ff83c454908a0d32cc6c603b2c46bf338130"), looks := false }, kinds := [], alts := [], laidByText := true, laidKinds := [.data, .data, .data, .data, .pinned], laidTests := true, laidLooks := .later }
def LexJoinsUptoCardSaid : Prop := Claim7.holds Tryd.pinned (.plain (OpenSpec.upto lexJoinsSpec)) lexJoinsUptoCard

/-- THE SECOND FORM's CARD OF 'vinculumlaw19.LexPlaces'. -/
def lexPlacesUptoCard : Claim7 := { stood := { row := lexPlacesUptoRow, standIns := [], harness := (true, "278a73860522aa45c4e94c075956ff83c454908a0d32cc6c603b2c46bf338130"), looks := false }, kinds := [], alts := [], laidByText := true, laidKinds := [.data, .data, .data, .data, .pinned], laidTests := true, laidLooks := .later }
def LexPlacesUptoCardSaid : Prop := Claim7.holds Tryd.pinned (.plain (OpenSpec.upto lexPlacesSpec)) lexPlacesUptoCard
end Rows
end Go.Proofs.YtplkdfkahcpoeaaDoor
