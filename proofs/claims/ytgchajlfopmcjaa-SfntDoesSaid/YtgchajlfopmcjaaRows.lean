/-
  No cell of these rows narrows 'for every input' (looked for: loops, veiled, ifaces, maps, wideKeys, modest, calm, conditions, laid).
  DERIVED. THE GIVEN ROWS OF THIS SEAT. 5 by the template 'for every input the law returns true; each argument reads behind the call as it read before'; 0 by the template 'total and deterministic' (their statements: YtgchajlfopmcjaaTotals.lean).
  GIVEN WITH THE SEED: the statements are not yours to turn. If you find one false, say at which input.
  Laid BY PROGRAM, IN A SANDBOX (cutbox-rows.mjs): the forced cells as the released guide's own fill.sh prints them over the translation f0f2544457611754… (all of the seat's roots in one cut). By AI agents, Wed Nov 11 2026. No macro, syntax, notation, axiom, sorry.
-/
import Derived.Test.YtgchajlfopmcjaaChecked
import GoSem.Claim
import GoSem.ClaimJoined
import GoSem.ClaimMapViews
import Derived.JoinedTies
import Derived.KernelRfl
namespace Go.Proofs.Ytgchajlfopmcjaa
/- THE CELL 'sum', in the pinned program and in every row, IS THE sha256 OF THE DUMP (.gsa) THAT YtgchajlfopmcjaaProg.lean LOADS. Nothing in Lean hashes anything: it is a label: what it is worth is what the hold of that sum in a sandbox is worth. -/
noncomputable def Try.pinned : Pinned := { name := "ytgchajlfopmcjaa", sum := "f0f2544457611754483056af608425ea30dfaa2e4e9e9e2be75f8c4be8fe9a3c", checked := Try.checked }
namespace Rows
def none {H : Type} : Left H := { results := [], args := [] }

/-- 'vinculumlaw04.SfntDoes': WHATEVER THE INPUT: true; the input reads as it did. -/
def sfntDoesSpec : ChangeSpec := { name := "sfntDoes", fn := fun _ => fun
  | [d1, d2, d3, d4] => { results := [.lit (.bool true)], args := [d1, d2, d3, d4] }
  | _ => none }
def sfntDoesRow : OpenClaim := { program := "ytgchajlfopmcjaa", sum := "f0f2544457611754483056af608425ea30dfaa2e4e9e9e2be75f8c4be8fe9a3c", func := "vinculum/vinculumlaw04.SfntDoes", spec := "sfntDoes", inPlace := ["internal/abi.NoEscape", "internal/bytealg.MakeNoZero"], unfollowed := true, recurses := true, apart := false }
def SfntDoesSaid : Prop := sfntDoesRow.holds Try.pinned (OpenSpec.ofChange sfntDoesSpec)

/-- ITS FALSE NEIGHBOUR: 'it returns false'. Refute it at one input. -/
def sfntDoesWrong : ChangeSpec := { name := "sfntDoes", fn := fun _ => fun
  | [d1, d2, d3, d4] => { results := [.lit (.bool false)], args := [d1, d2, d3, d4] }
  | _ => none }
def SfntDoesWrongFalsely : Prop := sfntDoesRow.holds Try.pinned (OpenSpec.ofChange sfntDoesWrong)

/-- 'vinculumlaw04.SfntBack': WHATEVER THE INPUT: true; the input reads as it did. -/
def sfntBackSpec : ChangeSpec := { name := "sfntBack", fn := fun _ => fun
  | [d1, d2] => { results := [.lit (.bool true)], args := [d1, d2] }
  | _ => none }
def sfntBackRow : OpenClaim := { program := "ytgchajlfopmcjaa", sum := "f0f2544457611754483056af608425ea30dfaa2e4e9e9e2be75f8c4be8fe9a3c", func := "vinculum/vinculumlaw04.SfntBack", spec := "sfntBack", inPlace := ["internal/abi.NoEscape", "internal/bytealg.MakeNoZero"], unfollowed := true, recurses := true, apart := false }
def SfntBackSaid : Prop := sfntBackRow.holds Try.pinned (OpenSpec.ofChange sfntBackSpec)

/-- ITS FALSE NEIGHBOUR: 'it returns false'. Refute it at one input. -/
def sfntBackWrong : ChangeSpec := { name := "sfntBack", fn := fun _ => fun
  | [d1, d2] => { results := [.lit (.bool false)], args := [d1, d2] }
  | _ => none }
def SfntBackWrongFalsely : Prop := sfntBackRow.holds Try.pinned (OpenSpec.ofChange sfntBackWrong)

/-- 'vinculumlaw04.SfntAgain': WHATEVER THE INPUT: true; the input reads as it did. -/
def sfntAgainSpec : ChangeSpec := { name := "sfntAgain", fn := fun _ => fun
  | [d] => { results := [.lit (.bool true)], args := [d] }
  | _ => none }
def sfntAgainRow : OpenClaim := { program := "ytgchajlfopmcjaa", sum := "f0f2544457611754483056af608425ea30dfaa2e4e9e9e2be75f8c4be8fe9a3c", func := "vinculum/vinculumlaw04.SfntAgain", spec := "sfntAgain", inPlace := ["internal/abi.NoEscape", "internal/bytealg.MakeNoZero"], unfollowed := true, recurses := true, apart := false }
def SfntAgainSaid : Prop := sfntAgainRow.holds Try.pinned (OpenSpec.ofChange sfntAgainSpec)

/-- ITS FALSE NEIGHBOUR: 'it returns false'. Refute it at one input. -/
def sfntAgainWrong : ChangeSpec := { name := "sfntAgain", fn := fun _ => fun
  | [d] => { results := [.lit (.bool false)], args := [d] }
  | _ => none }
def SfntAgainWrongFalsely : Prop := sfntAgainRow.holds Try.pinned (OpenSpec.ofChange sfntAgainWrong)

/-- 'vinculumlaw04.SfntChanged': WHATEVER THE INPUT: true; the input reads as it did. -/
def sfntChangedSpec : ChangeSpec := { name := "sfntChanged", fn := fun _ => fun
  | [d1, d2, d3, d4] => { results := [.lit (.bool true)], args := [d1, d2, d3, d4] }
  | _ => none }
def sfntChangedRow : OpenClaim := { program := "ytgchajlfopmcjaa", sum := "f0f2544457611754483056af608425ea30dfaa2e4e9e9e2be75f8c4be8fe9a3c", func := "vinculum/vinculumlaw04.SfntChanged", spec := "sfntChanged", inPlace := ["internal/abi.NoEscape", "internal/bytealg.MakeNoZero"], unfollowed := true, recurses := true, apart := false }
def SfntChangedSaid : Prop := sfntChangedRow.holds Try.pinned (OpenSpec.ofChange sfntChangedSpec)

/-- ITS FALSE NEIGHBOUR: 'it returns false'. Refute it at one input. -/
def sfntChangedWrong : ChangeSpec := { name := "sfntChanged", fn := fun _ => fun
  | [d1, d2, d3, d4] => { results := [.lit (.bool false)], args := [d1, d2, d3, d4] }
  | _ => none }
def SfntChangedWrongFalsely : Prop := sfntChangedRow.holds Try.pinned (OpenSpec.ofChange sfntChangedWrong)

/-- 'vinculumlaw04.SfntSums': WHATEVER THE INPUT: true; the input reads as it did. -/
def sfntSumsSpec : ChangeSpec := { name := "sfntSums", fn := fun _ => fun
  | [d1, d2] => { results := [.lit (.bool true)], args := [d1, d2] }
  | _ => none }
def sfntSumsRow : OpenClaim := { program := "ytgchajlfopmcjaa", sum := "f0f2544457611754483056af608425ea30dfaa2e4e9e9e2be75f8c4be8fe9a3c", func := "vinculum/vinculumlaw04.SfntSums", spec := "sfntSums", inPlace := ["internal/abi.NoEscape", "internal/bytealg.MakeNoZero"], unfollowed := true, recurses := true, apart := false }
def SfntSumsSaid : Prop := sfntSumsRow.holds Try.pinned (OpenSpec.ofChange sfntSumsSpec)

/-- ITS FALSE NEIGHBOUR: 'it returns false'. Refute it at one input. -/
def sfntSumsWrong : ChangeSpec := { name := "sfntSums", fn := fun _ => fun
  | [d1, d2] => { results := [.lit (.bool false)], args := [d1, d2] }
  | _ => none }
def SfntSumsWrongFalsely : Prop := sfntSumsRow.holds Try.pinned (OpenSpec.ofChange sfntSumsWrong)

/- THE SECOND FORM. 'bulk': how many values and letters a reading holds, each counted each time it is reached (what is shared counts as often as it is met; a slice's spare places count too). A statement '..UptoSaid' is the law's where the arguments, and the package variables that the reading takes, are together of bulk at most 1048576: NARROWER than '..Said'. Prove '..Said' where nothing that the law and all that it calls make is longer than what came in: it says more and counts as full. Else prove '..UptoSaid'. A law counts once. -/
mutual
def uptoBulk {H : Type} : DataW H → Nat
  | .lit (.string bytes) => bytes.length + 1
  | .lit _ => 1
  | .nil => 1
  | .ptr d => uptoBulk d + 1
  | .slice elems spare => uptoBulkAll elems + uptoBulkAll spare + 1
  | .agg parts => uptoBulkAll parts + 1
  | .iface _ d => uptoBulk d + 1
  | .map entries => uptoBulkEntries entries + 1
  | .held _ => 1
def uptoBulkAll {H : Type} : List (DataW H) → Nat
  | [] => 0
  | d :: r => uptoBulk d + uptoBulkAll r
def uptoBulkEntries {H : Type} : List (Lit × DataW H) → Nat
  | [] => 0
  | x :: r => uptoBulkEntry x + uptoBulkEntries r
def uptoBulkEntry {H : Type} : Lit × DataW H → Nat
  | (.string bytes, d) => bytes.length + uptoBulk d + 1
  | (_, d) => uptoBulk d + 1
 end
def uptoSmall : (H : Type) → List (DataW H) → Bool := fun _ ds => decide (uptoBulkAll ds ≤ 1048576)
def OpenSpec.upto (s : _root_.Go.ChangeSpec) : _root_.Go.OpenSpec := { _root_.Go.OpenSpec.ofChange s with cond := some uptoSmall }

/-- 'vinculumlaw04.SfntDoes', WHERE WHAT IT READS IS OF BULK AT MOST 1048576: true; the input reads as it did. -/
def sfntDoesUptoRow : OpenClaim := { program := "ytgchajlfopmcjaa", sum := "f0f2544457611754483056af608425ea30dfaa2e4e9e9e2be75f8c4be8fe9a3c", func := "vinculum/vinculumlaw04.SfntDoes", spec := "sfntDoes", inPlace := ["internal/abi.NoEscape", "internal/bytealg.MakeNoZero"], unfollowed := true, recurses := true, apart := false, narrowed := true }
def SfntDoesUptoSaid : Prop := sfntDoesUptoRow.holds Try.pinned (OpenSpec.upto sfntDoesSpec)

/-- 'vinculumlaw04.SfntBack', WHERE WHAT IT READS IS OF BULK AT MOST 1048576: true; the input reads as it did. -/
def sfntBackUptoRow : OpenClaim := { program := "ytgchajlfopmcjaa", sum := "f0f2544457611754483056af608425ea30dfaa2e4e9e9e2be75f8c4be8fe9a3c", func := "vinculum/vinculumlaw04.SfntBack", spec := "sfntBack", inPlace := ["internal/abi.NoEscape", "internal/bytealg.MakeNoZero"], unfollowed := true, recurses := true, apart := false, narrowed := true }
def SfntBackUptoSaid : Prop := sfntBackUptoRow.holds Try.pinned (OpenSpec.upto sfntBackSpec)

/-- 'vinculumlaw04.SfntAgain', WHERE WHAT IT READS IS OF BULK AT MOST 1048576: true; the input reads as it did. -/
def sfntAgainUptoRow : OpenClaim := { program := "ytgchajlfopmcjaa", sum := "f0f2544457611754483056af608425ea30dfaa2e4e9e9e2be75f8c4be8fe9a3c", func := "vinculum/vinculumlaw04.SfntAgain", spec := "sfntAgain", inPlace := ["internal/abi.NoEscape", "internal/bytealg.MakeNoZero"], unfollowed := true, recurses := true, apart := false, narrowed := true }
def SfntAgainUptoSaid : Prop := sfntAgainUptoRow.holds Try.pinned (OpenSpec.upto sfntAgainSpec)

/-- 'vinculumlaw04.SfntChanged', WHERE WHAT IT READS IS OF BULK AT MOST 1048576: true; the input reads as it did. -/
def sfntChangedUptoRow : OpenClaim := { program := "ytgchajlfopmcjaa", sum := "f0f2544457611754483056af608425ea30dfaa2e4e9e9e2be75f8c4be8fe9a3c", func := "vinculum/vinculumlaw04.SfntChanged", spec := "sfntChanged", inPlace := ["internal/abi.NoEscape", "internal/bytealg.MakeNoZero"], unfollowed := true, recurses := true, apart := false, narrowed := true }
def SfntChangedUptoSaid : Prop := sfntChangedUptoRow.holds Try.pinned (OpenSpec.upto sfntChangedSpec)

/-- 'vinculumlaw04.SfntSums', WHERE WHAT IT READS IS OF BULK AT MOST 1048576: true; the input reads as it did. -/
def sfntSumsUptoRow : OpenClaim := { program := "ytgchajlfopmcjaa", sum := "f0f2544457611754483056af608425ea30dfaa2e4e9e9e2be75f8c4be8fe9a3c", func := "vinculum/vinculumlaw04.SfntSums", spec := "sfntSums", inPlace := ["internal/abi.NoEscape", "internal/bytealg.MakeNoZero"], unfollowed := true, recurses := true, apart := false, narrowed := true }
def SfntSumsUptoSaid : Prop := sfntSumsUptoRow.holds Try.pinned (OpenSpec.upto sfntSumsSpec)

end Rows
end Go.Proofs.Ytgchajlfopmcjaa
