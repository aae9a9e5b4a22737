/-
  No cell of these rows narrows 'for every input' (looked for: loops, veiled, ifaces, maps, wideKeys, modest, calm, conditions, laid).
  DERIVED. THE GIVEN ROWS OF THIS SEAT. 4 by the template 'for every input the law returns true; each argument reads behind the call as it read before'; 0 by the template 'total and deterministic' (their statements: YtfeodnceegkmjaaTotals.lean).
  GIVEN WITH THE SEED: the statements are not yours to turn. If you find one false, say at which input.
  Laid BY PROGRAM, IN A SANDBOX (cutbox-rows.mjs): the forced cells as the released guide's own fill.sh prints them over the translation d79dcebf8831f725… (all of the seat's roots in one cut). By AI agents, Wed Nov 11 2026. No macro, syntax, notation, axiom, sorry.
-/
import Derived.Test.YtfeodnceegkmjaaChecked
import GoSem.Claim
import GoSem.ClaimJoined
import GoSem.ClaimMapViews
import Derived.JoinedTies
import Derived.KernelRfl
namespace Go.Proofs.Ytfeodnceegkmjaa
/- THE CELL 'sum', in the pinned program and in every row, IS THE sha256 OF THE DUMP (.gsa) THAT YtfeodnceegkmjaaProg.lean LOADS. Nothing in Lean hashes anything: it is a label: what it is worth is what the hold of that sum in a sandbox is worth. -/
noncomputable def Try.pinned : Pinned := { name := "ytfeodnceegkmjaa", sum := "d79dcebf8831f7250eb36f2a77c4939ec0765efcd3611fee60efeccc30e8284e", checked := Try.checked }
namespace Rows
def none {H : Type} : Left H := { results := [], args := [] }

/-- 'vinculumlaw05.HeadDoes': WHATEVER THE INPUT: true; the input reads as it did. -/
def headDoesSpec : ChangeSpec := { name := "headDoes", fn := fun _ => fun
  | [d1, d2, d3, d4, d5, d6] => { results := [.lit (.bool true)], args := [d1, d2, d3, d4, d5, d6] }
  | _ => none }
def headDoesRow : OpenClaim := { program := "ytfeodnceegkmjaa", sum := "d79dcebf8831f7250eb36f2a77c4939ec0765efcd3611fee60efeccc30e8284e", func := "vinculum/vinculumlaw05.HeadDoes", spec := "headDoes", inPlace := ["internal/abi.NoEscape", "internal/bytealg.MakeNoZero"], unfollowed := true, recurses := true, apart := false }
def HeadDoesSaid : Prop := headDoesRow.holds Try.pinned (OpenSpec.ofChange headDoesSpec)

/-- ITS FALSE NEIGHBOUR: 'it returns false'. Refute it at one input. -/
def headDoesWrong : ChangeSpec := { name := "headDoes", fn := fun _ => fun
  | [d1, d2, d3, d4, d5, d6] => { results := [.lit (.bool false)], args := [d1, d2, d3, d4, d5, d6] }
  | _ => none }
def HeadDoesWrongFalsely : Prop := headDoesRow.holds Try.pinned (OpenSpec.ofChange headDoesWrong)

/-- 'vinculumlaw05.HeadBack': WHATEVER THE INPUT: true; the input reads as it did. -/
def headBackSpec : ChangeSpec := { name := "headBack", fn := fun _ => fun
  | [d1, d2] => { results := [.lit (.bool true)], args := [d1, d2] }
  | _ => none }
def headBackRow : OpenClaim := { program := "ytfeodnceegkmjaa", sum := "d79dcebf8831f7250eb36f2a77c4939ec0765efcd3611fee60efeccc30e8284e", func := "vinculum/vinculumlaw05.HeadBack", spec := "headBack", inPlace := ["internal/abi.NoEscape", "internal/bytealg.MakeNoZero"], unfollowed := true, recurses := true, apart := false }
def HeadBackSaid : Prop := headBackRow.holds Try.pinned (OpenSpec.ofChange headBackSpec)

/-- ITS FALSE NEIGHBOUR: 'it returns false'. Refute it at one input. -/
def headBackWrong : ChangeSpec := { name := "headBack", fn := fun _ => fun
  | [d1, d2] => { results := [.lit (.bool false)], args := [d1, d2] }
  | _ => none }
def HeadBackWrongFalsely : Prop := headBackRow.holds Try.pinned (OpenSpec.ofChange headBackWrong)

/-- 'vinculumlaw05.HeadOnly': WHATEVER THE INPUT: true; the input reads as it did. -/
def headOnlySpec : ChangeSpec := { name := "headOnly", fn := fun _ => fun
  | [d1, d2, d3, d4, d5] => { results := [.lit (.bool true)], args := [d1, d2, d3, d4, d5] }
  | _ => none }
def headOnlyRow : OpenClaim := { program := "ytfeodnceegkmjaa", sum := "d79dcebf8831f7250eb36f2a77c4939ec0765efcd3611fee60efeccc30e8284e", func := "vinculum/vinculumlaw05.HeadOnly", spec := "headOnly", inPlace := ["internal/abi.NoEscape", "internal/bytealg.MakeNoZero"], unfollowed := true, recurses := true, apart := false }
def HeadOnlySaid : Prop := headOnlyRow.holds Try.pinned (OpenSpec.ofChange headOnlySpec)

/-- ITS FALSE NEIGHBOUR: 'it returns false'. Refute it at one input. -/
def headOnlyWrong : ChangeSpec := { name := "headOnly", fn := fun _ => fun
  | [d1, d2, d3, d4, d5] => { results := [.lit (.bool false)], args := [d1, d2, d3, d4, d5] }
  | _ => none }
def HeadOnlyWrongFalsely : Prop := headOnlyRow.holds Try.pinned (OpenSpec.ofChange headOnlyWrong)

/-- 'vinculumlaw05.HeadUnits': WHATEVER THE INPUT: true; the input reads as it did. -/
def headUnitsSpec : ChangeSpec := { name := "headUnits", fn := fun _ => fun
  | [d1, d2, d3] => { results := [.lit (.bool true)], args := [d1, d2, d3] }
  | _ => none }
def headUnitsRow : OpenClaim := { program := "ytfeodnceegkmjaa", sum := "d79dcebf8831f7250eb36f2a77c4939ec0765efcd3611fee60efeccc30e8284e", func := "vinculum/vinculumlaw05.HeadUnits", spec := "headUnits", inPlace := ["internal/abi.NoEscape", "internal/bytealg.MakeNoZero"], unfollowed := true, recurses := true, apart := false }
def HeadUnitsSaid : Prop := headUnitsRow.holds Try.pinned (OpenSpec.ofChange headUnitsSpec)

/-- ITS FALSE NEIGHBOUR: 'it returns false'. Refute it at one input. -/
def headUnitsWrong : ChangeSpec := { name := "headUnits", fn := fun _ => fun
  | [d1, d2, d3] => { results := [.lit (.bool false)], args := [d1, d2, d3] }
  | _ => none }
def HeadUnitsWrongFalsely : Prop := headUnitsRow.holds Try.pinned (OpenSpec.ofChange headUnitsWrong)

/- THE SECOND FORM. 'bulk': how many values and letters a reading holds, each counted each time it is reached (what is shared counts as often as it is met; a slice's spare places count too). A statement '..UptoSaid' is the law's where the arguments, and the package variables that the reading takes, are together of bulk at most 1048576: NARROWER than '..Said'. Prove '..Said' where nothing that the law and all that it calls make is longer than what came in: it says more and counts as full. Else prove '..UptoSaid'. A law counts once. -/
mutual
def uptoBulk {H : Type} : DataW H → Nat
  | .lit (.string bytes) => bytes.length + 1
  | .lit _ => 1
  | .nil => 1
  | .ptr d => uptoBulk d + 1
  | .slice elems spare => uptoBulkAll elems + uptoBulkAll spare + 1
  | .agg parts => uptoBulkAll parts + 1
  | .iface _ d => uptoBulk d + 1
  | .map entries => uptoBulkEntries entries + 1
  | .held _ => 1
def uptoBulkAll {H : Type} : List (DataW H) → Nat
  | [] => 0
  | d :: r => uptoBulk d + uptoBulkAll r
def uptoBulkEntries {H : Type} : List (Lit × DataW H) → Nat
  | [] => 0
  | x :: r => uptoBulkEntry x + uptoBulkEntries r
def uptoBulkEntry {H : Type} : Lit × DataW H → Nat
  | (.string bytes, d) => bytes.length + uptoBulk d + 1
  | (_, d) => uptoBulk d + 1
 end
def uptoSmall : (H : Type) → List (DataW H) → Bool := fun _ ds => decide (uptoBulkAll ds ≤ 1048576)
def OpenSpec.upto (s : _root_.Go.ChangeSpec) : _root_.Go.OpenSpec := { _root_.Go.OpenSpec.ofChange s with cond := some uptoSmall }

/-- 'vinculumlaw05.HeadDoes', WHERE WHAT IT READS IS OF BULK AT MOST 1048576: true; the input reads as it did. -/
def headDoesUptoRow : OpenClaim := { program := "ytfeodnceegkmjaa", sum := "d79dcebf8831f7250eb36f2a77c4939ec0765efcd3611fee60efeccc30e8284e", func := "vinculum/vinculumlaw05.HeadDoes", spec := "headDoes", inPlace := ["internal/abi.NoEscape", "internal/bytealg.MakeNoZero"], unfollowed := true, recurses := true, apart := false, narrowed := true }
def HeadDoesUptoSaid : Prop := headDoesUptoRow.holds Try.pinned (OpenSpec.upto headDoesSpec)

/-- 'vinculumlaw05.HeadBack', WHERE WHAT IT READS IS OF BULK AT MOST 1048576: true; the input reads as it did. -/
def headBackUptoRow : OpenClaim := { program := "ytfeodnceegkmjaa", sum := "d79dcebf8831f7250eb36f2a77c4939ec0765efcd3611fee60efeccc30e8284e", func := "vinculum/vinculumlaw05.HeadBack", spec := "headBack", inPlace := ["internal/abi.NoEscape", "internal/bytealg.MakeNoZero"], unfollowed := true, recurses := true, apart := false, narrowed := true }
def HeadBackUptoSaid : Prop := headBackUptoRow.holds Try.pinned (OpenSpec.upto headBackSpec)

/-- 'vinculumlaw05.HeadOnly', WHERE WHAT IT READS IS OF BULK AT MOST 1048576: true; the input reads as it did. -/
def headOnlyUptoRow : OpenClaim := { program := "ytfeodnceegkmjaa", sum := "d79dcebf8831f7250eb36f2a77c4939ec0765efcd3611fee60efeccc30e8284e", func := "vinculum/vinculumlaw05.HeadOnly", spec := "headOnly", inPlace := ["internal/abi.NoEscape", "internal/bytealg.MakeNoZero"], unfollowed := true, recurses := true, apart := false, narrowed := true }
def HeadOnlyUptoSaid : Prop := headOnlyUptoRow.holds Try.pinned (OpenSpec.upto headOnlySpec)

/-- 'vinculumlaw05.HeadUnits', WHERE WHAT IT READS IS OF BULK AT MOST 1048576: true; the input reads as it did. -/
def headUnitsUptoRow : OpenClaim := { program := "ytfeodnceegkmjaa", sum := "d79dcebf8831f7250eb36f2a77c4939ec0765efcd3611fee60efeccc30e8284e", func := "vinculum/vinculumlaw05.HeadUnits", spec := "headUnits", inPlace := ["internal/abi.NoEscape", "internal/bytealg.MakeNoZero"], unfollowed := true, recurses := true, apart := false, narrowed := true }
def HeadUnitsUptoSaid : Prop := headUnitsUptoRow.holds Try.pinned (OpenSpec.upto headUnitsSpec)

end Rows
end Go.Proofs.Ytfeodnceegkmjaa
