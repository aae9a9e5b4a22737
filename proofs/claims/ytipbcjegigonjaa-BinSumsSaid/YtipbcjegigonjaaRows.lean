/-
  No cell of these rows narrows 'for every input' (looked for: loops, veiled, ifaces, maps, wideKeys, modest, calm, conditions, laid).
  DERIVED. THE GIVEN ROWS OF THIS SEAT. 5 by the template 'for every input the law returns true; each argument reads behind the call as it read before'; 0 by the template 'total and deterministic' (their statements: YtipbcjegigonjaaTotals.lean).
  GIVEN WITH THE SEED: the statements are not yours to turn. If you find one false, say at which input.
  Laid BY PROGRAM, IN A SANDBOX (cutbox-rows.mjs): the forced cells as the released guide's own fill.sh prints them over the translation 3145e6824d051ba8… (all of the seat's roots in one cut). By AI agents, Wed Nov 11 2026. No macro, syntax, notation, axiom, sorry.
-/
import Derived.Test.YtipbcjegigonjaaChecked
import GoSem.Claim
import GoSem.ClaimJoined
import GoSem.ClaimMapViews
import Derived.JoinedTies
import Derived.KernelRfl
namespace Go.Proofs.Ytipbcjegigonjaa
/- THE CELL 'sum', in the pinned program and in every row, IS THE sha256 OF THE DUMP (.gsa) THAT YtipbcjegigonjaaProg.lean LOADS. Nothing in Lean hashes anything: it is a label: what it is worth is what the hold of that sum in a sandbox is worth. -/
noncomputable def Try.pinned : Pinned := { name := "ytipbcjegigonjaa", sum := "3145e6824d051ba8fd20c8a93bc6cd2cfba7e9a4f0934d5ab2d8dd9b672c1c9c", checked := Try.checked }
namespace Rows
def none {H : Type} : Left H := { results := [], args := [] }

/-- 'vinculumlaw03.BinDoes': WHATEVER THE INPUT: true; the input reads as it did. -/
def binDoesSpec : ChangeSpec := { name := "binDoes", fn := fun _ => fun
  | [d1, d2, d3, d4] => { results := [.lit (.bool true)], args := [d1, d2, d3, d4] }
  | _ => none }
def binDoesRow : OpenClaim := { program := "ytipbcjegigonjaa", sum := "3145e6824d051ba8fd20c8a93bc6cd2cfba7e9a4f0934d5ab2d8dd9b672c1c9c", func := "vinculum/vinculumlaw03.BinDoes", spec := "binDoes", inPlace := ["internal/abi.NoEscape"], unfollowed := true, recurses := true, apart := false }
def BinDoesSaid : Prop := binDoesRow.holds Try.pinned (OpenSpec.ofChange binDoesSpec)

/-- ITS FALSE NEIGHBOUR: 'it returns false'. Refute it at one input. -/
def binDoesWrong : ChangeSpec := { name := "binDoes", fn := fun _ => fun
  | [d1, d2, d3, d4] => { results := [.lit (.bool false)], args := [d1, d2, d3, d4] }
  | _ => none }
def BinDoesWrongFalsely : Prop := binDoesRow.holds Try.pinned (OpenSpec.ofChange binDoesWrong)

/-- 'vinculumlaw03.BinBack': WHATEVER THE INPUT: true; the input reads as it did. -/
def binBackSpec : ChangeSpec := { name := "binBack", fn := fun _ => fun
  | [d1, d2, d3, d4] => { results := [.lit (.bool true)], args := [d1, d2, d3, d4] }
  | _ => none }
def binBackRow : OpenClaim := { program := "ytipbcjegigonjaa", sum := "3145e6824d051ba8fd20c8a93bc6cd2cfba7e9a4f0934d5ab2d8dd9b672c1c9c", func := "vinculum/vinculumlaw03.BinBack", spec := "binBack", inPlace := ["internal/abi.NoEscape"], unfollowed := true, recurses := true, apart := false }
def BinBackSaid : Prop := binBackRow.holds Try.pinned (OpenSpec.ofChange binBackSpec)

/-- ITS FALSE NEIGHBOUR: 'it returns false'. Refute it at one input. -/
def binBackWrong : ChangeSpec := { name := "binBack", fn := fun _ => fun
  | [d1, d2, d3, d4] => { results := [.lit (.bool false)], args := [d1, d2, d3, d4] }
  | _ => none }
def BinBackWrongFalsely : Prop := binBackRow.holds Try.pinned (OpenSpec.ofChange binBackWrong)

/-- 'vinculumlaw03.BinJoins': WHATEVER THE INPUT: true; the input reads as it did. -/
def binJoinsSpec : ChangeSpec := { name := "binJoins", fn := fun _ => fun
  | [d1, d2, d3, d4] => { results := [.lit (.bool true)], args := [d1, d2, d3, d4] }
  | _ => none }
def binJoinsRow : OpenClaim := { program := "ytipbcjegigonjaa", sum := "3145e6824d051ba8fd20c8a93bc6cd2cfba7e9a4f0934d5ab2d8dd9b672c1c9c", func := "vinculum/vinculumlaw03.BinJoins", spec := "binJoins", inPlace := ["internal/abi.NoEscape"], unfollowed := true, recurses := true, apart := false }
def BinJoinsSaid : Prop := binJoinsRow.holds Try.pinned (OpenSpec.ofChange binJoinsSpec)

/-- ITS FALSE NEIGHBOUR: 'it returns false'. Refute it at one input. -/
def binJoinsWrong : ChangeSpec := { name := "binJoins", fn := fun _ => fun
  | [d1, d2, d3, d4] => { results := [.lit (.bool false)], args := [d1, d2, d3, d4] }
  | _ => none }
def BinJoinsWrongFalsely : Prop := binJoinsRow.holds Try.pinned (OpenSpec.ofChange binJoinsWrong)

/-- 'vinculumlaw03.BinSums': WHATEVER THE INPUT: true; the input reads as it did. -/
def binSumsSpec : ChangeSpec := { name := "binSums", fn := fun _ => fun
  | [d1, d2] => { results := [.lit (.bool true)], args := [d1, d2] }
  | _ => none }
def binSumsRow : OpenClaim := { program := "ytipbcjegigonjaa", sum := "3145e6824d051ba8fd20c8a93bc6cd2cfba7e9a4f0934d5ab2d8dd9b672c1c9c", func := "vinculum/vinculumlaw03.BinSums", spec := "binSums", inPlace := ["internal/abi.NoEscape", "internal/bytealg.MakeNoZero"], unfollowed := true, recurses := true, apart := false }
def BinSumsSaid : Prop := binSumsRow.holds Try.pinned (OpenSpec.ofChange binSumsSpec)

/-- ITS FALSE NEIGHBOUR: 'it returns false'. Refute it at one input. -/
def binSumsWrong : ChangeSpec := { name := "binSums", fn := fun _ => fun
  | [d1, d2] => { results := [.lit (.bool false)], args := [d1, d2] }
  | _ => none }
def BinSumsWrongFalsely : Prop := binSumsRow.holds Try.pinned (OpenSpec.ofChange binSumsWrong)

/-- 'vinculumlaw03.BinPieces': WHATEVER THE INPUT: true; the input reads as it did. -/
def binPiecesSpec : ChangeSpec := { name := "binPieces", fn := fun _ => fun
  | [d1, d2, d3] => { results := [.lit (.bool true)], args := [d1, d2, d3] }
  | _ => none }
def binPiecesRow : OpenClaim := { program := "ytipbcjegigonjaa", sum := "3145e6824d051ba8fd20c8a93bc6cd2cfba7e9a4f0934d5ab2d8dd9b672c1c9c", func := "vinculum/vinculumlaw03.BinPieces", spec := "binPieces", inPlace := ["internal/abi.NoEscape", "internal/bytealg.MakeNoZero"], unfollowed := true, recurses := true, apart := false }
def BinPiecesSaid : Prop := binPiecesRow.holds Try.pinned (OpenSpec.ofChange binPiecesSpec)

/-- ITS FALSE NEIGHBOUR: 'it returns false'. Refute it at one input. -/
def binPiecesWrong : ChangeSpec := { name := "binPieces", fn := fun _ => fun
  | [d1, d2, d3] => { results := [.lit (.bool false)], args := [d1, d2, d3] }
  | _ => none }
def BinPiecesWrongFalsely : Prop := binPiecesRow.holds Try.pinned (OpenSpec.ofChange binPiecesWrong)

/- THE SECOND FORM. 'bulk': how many values and letters a reading holds, each counted each time it is reached (what is shared counts as often as it is met; a slice's spare places count too). A statement '..UptoSaid' is the law's where the arguments, and the package variables that the reading takes, are together of bulk at most 1048576: NARROWER than '..Said'. Prove '..Said' where nothing that the law and all that it calls make is longer than what came in: it says more and counts as full. Else prove '..UptoSaid'. A law counts once. -/
mutual
def uptoBulk {H : Type} : DataW H → Nat
  | .lit (.string bytes) => bytes.length + 1
  | .lit _ => 1
  | .nil => 1
  | .ptr d => uptoBulk d + 1
  | .slice elems spare => uptoBulkAll elems + uptoBulkAll spare + 1
  | .agg parts => uptoBulkAll parts + 1
  | .iface _ d => uptoBulk d + 1
  | .map entries => uptoBulkEntries entries + 1
  | .held _ => 1
def uptoBulkAll {H : Type} : List (DataW H) → Nat
  | [] => 0
  | d :: r => uptoBulk d + uptoBulkAll r
def uptoBulkEntries {H : Type} : List (Lit × DataW H) → Nat
  | [] => 0
  | x :: r => uptoBulkEntry x + uptoBulkEntries r
def uptoBulkEntry {H : Type} : Lit × DataW H → Nat
  | (.string bytes, d) => bytes.length + uptoBulk d + 1
  | (_, d) => uptoBulk d + 1
 end
def uptoSmall : (H : Type) → List (DataW H) → Bool := fun _ ds => decide (uptoBulkAll ds ≤ 1048576)
def OpenSpec.upto (s : _root_.Go.ChangeSpec) : _root_.Go.OpenSpec := { _root_.Go.OpenSpec.ofChange s with cond := some uptoSmall }

/-- 'vinculumlaw03.BinDoes', WHERE WHAT IT READS IS OF BULK AT MOST 1048576: true; the input reads as it did. -/
def binDoesUptoRow : OpenClaim := { program := "ytipbcjegigonjaa", sum := "3145e6824d051ba8fd20c8a93bc6cd2cfba7e9a4f0934d5ab2d8dd9b672c1c9c", func := "vinculum/vinculumlaw03.BinDoes", spec := "binDoes", inPlace := ["internal/abi.NoEscape"], unfollowed := true, recurses := true, apart := false, narrowed := true }
def BinDoesUptoSaid : Prop := binDoesUptoRow.holds Try.pinned (OpenSpec.upto binDoesSpec)

/-- 'vinculumlaw03.BinBack', WHERE WHAT IT READS IS OF BULK AT MOST 1048576: true; the input reads as it did. -/
def binBackUptoRow : OpenClaim := { program := "ytipbcjegigonjaa", sum := "3145e6824d051ba8fd20c8a93bc6cd2cfba7e9a4f0934d5ab2d8dd9b672c1c9c", func := "vinculum/vinculumlaw03.BinBack", spec := "binBack", inPlace := ["internal/abi.NoEscape"], unfollowed := true, recurses := true, apart := false, narrowed := true }
def BinBackUptoSaid : Prop := binBackUptoRow.holds Try.pinned (OpenSpec.upto binBackSpec)

/-- 'vinculumlaw03.BinJoins', WHERE WHAT IT READS IS OF BULK AT MOST 1048576: true; the input reads as it did. -/
def binJoinsUptoRow : OpenClaim := { program := "ytipbcjegigonjaa", sum := "3145e6824d051ba8fd20c8a93bc6cd2cfba7e9a4f0934d5ab2d8dd9b672c1c9c", func := "vinculum/vinculumlaw03.BinJoins", spec := "binJoins", inPlace := ["internal/abi.NoEscape"], unfollowed := true, recurses := true, apart := false, narrowed := true }
def BinJoinsUptoSaid : Prop := binJoinsUptoRow.holds Try.pinned (OpenSpec.upto binJoinsSpec)

/-- 'vinculumlaw03.BinSums', WHERE WHAT IT READS IS OF BULK AT MOST 1048576: true; the input reads as it did. -/
def binSumsUptoRow : OpenClaim := { program := "ytipbcjegigonjaa", sum := "3145e6824d051ba8fd20c8a93bc6cd2cfba7e9a4f0934d5ab2d8dd9b672c1c9c", func := "vinculum/vinculumlaw03.BinSums", spec := "binSums", inPlace := ["internal/abi.NoEscape", "internal/bytealg.MakeNoZero"], unfollowed := true, recurses := true, apart := false, narrowed := true }
def BinSumsUptoSaid : Prop := binSumsUptoRow.holds Try.pinned (OpenSpec.upto binSumsSpec)

/-- 'vinculumlaw03.BinPieces', WHERE WHAT IT READS IS OF BULK AT MOST 1048576: true; the input reads as it did. -/
def binPiecesUptoRow : OpenClaim := { program := "ytipbcjegigonjaa", sum := "3145e6824d051ba8fd20c8a93bc6cd2cfba7e9a4f0934d5ab2d8dd9b672c1c9c", func := "vinculum/vinculumlaw03.BinPieces", spec := "binPieces", inPlace := ["internal/abi.NoEscape", "internal/bytealg.MakeNoZero"], unfollowed := true, recurses := true, apart := false, narrowed := true }
def BinPiecesUptoSaid : Prop := binPiecesUptoRow.holds Try.pinned (OpenSpec.upto binPiecesSpec)

end Rows
end Go.Proofs.Ytipbcjegigonjaa
