/-
  No cell of these rows narrows 'for every input' (looked for: loops, veiled, ifaces, maps, wideKeys, modest, calm, conditions, laid).
  DERIVED. THE GIVEN ROWS OF THIS SEAT. 4 by the template 'for every input the law returns true; each argument reads behind the call as it read before'; 0 by the template 'total and deterministic' (their statements: YtgleffjeaognfaaTotals.lean).
  GIVEN WITH THE SEED: the statements are not yours to turn. If you find one false, say at which input.
  Laid BY PROGRAM, IN A SANDBOX (cutbox-rows.mjs): the forced cells as the released guide's own fill.sh prints them over the translation bbb5c39acb3b940d… (all of the seat's roots in one cut). By AI agents, Wed Nov 11 2026. No macro, syntax, notation, axiom, sorry.
-/
import Derived.Test.YtgleffjeaognfaaChecked
import GoSem.Claim
import GoSem.ClaimJoined
import GoSem.ClaimMapViews
import Derived.JoinedTies
import Derived.KernelRfl
namespace Go.Proofs.Ytgleffjeaognfaa
/- THE CELL 'sum', in the pinned program and in every row, IS THE sha256 OF THE DUMP (.gsa) THAT YtgleffjeaognfaaProg.lean LOADS. Nothing in Lean hashes anything: it is a label: what it is worth is what the hold of that sum in a sandbox is worth. -/
noncomputable def Try.pinned : Pinned := { name := "ytgleffjeaognfaa", sum := "bbb5c39acb3b940d3ea5d2e4180a072f09bf02082af338243072db0ac8e1564f", checked := Try.checked }
namespace Rows
def none {H : Type} : Left H := { results := [], args := [] }

/-- 'vinculumlaw13.KonstDoes': WHATEVER THE INPUT: true; the input reads as it did. -/
def konstDoesSpec : ChangeSpec := { name := "konstDoes", fn := fun _ => fun
  | [d1, d2, d3, d4, d5] => { results := [.lit (.bool true)], args := [d1, d2, d3, d4, d5] }
  | _ => none }
def konstDoesRow : OpenClaim := { program := "ytgleffjeaognfaa", sum := "bbb5c39acb3b940d3ea5d2e4180a072f09bf02082af338243072db0ac8e1564f", func := "vinculum/vinculumlaw13.KonstDoes", spec := "konstDoes", inPlace := ["internal/abi.NoEscape"], unfollowed := true, recurses := true, apart := false }
def KonstDoesSaid : Prop := konstDoesRow.holds Try.pinned (OpenSpec.ofChange konstDoesSpec)

/-- ITS FALSE NEIGHBOUR: 'it returns false'. Refute it at one input. -/
def konstDoesWrong : ChangeSpec := { name := "konstDoes", fn := fun _ => fun
  | [d1, d2, d3, d4, d5] => { results := [.lit (.bool false)], args := [d1, d2, d3, d4, d5] }
  | _ => none }
def KonstDoesWrongFalsely : Prop := konstDoesRow.holds Try.pinned (OpenSpec.ofChange konstDoesWrong)

/-- 'vinculumlaw13.KonstBack': WHATEVER THE INPUT: true; the input reads as it did. -/
def konstBackSpec : ChangeSpec := { name := "konstBack", fn := fun _ => fun
  | [d1, d2, d3] => { results := [.lit (.bool true)], args := [d1, d2, d3] }
  | _ => none }
def konstBackRow : OpenClaim := { program := "ytgleffjeaognfaa", sum := "bbb5c39acb3b940d3ea5d2e4180a072f09bf02082af338243072db0ac8e1564f", func := "vinculum/vinculumlaw13.KonstBack", spec := "konstBack", inPlace := ["internal/abi.NoEscape"], unfollowed := true, recurses := true, apart := false }
def KonstBackSaid : Prop := konstBackRow.holds Try.pinned (OpenSpec.ofChange konstBackSpec)

/-- ITS FALSE NEIGHBOUR: 'it returns false'. Refute it at one input. -/
def konstBackWrong : ChangeSpec := { name := "konstBack", fn := fun _ => fun
  | [d1, d2, d3] => { results := [.lit (.bool false)], args := [d1, d2, d3] }
  | _ => none }
def KonstBackWrongFalsely : Prop := konstBackRow.holds Try.pinned (OpenSpec.ofChange konstBackWrong)

/-- 'vinculumlaw13.KonstOnly': WHATEVER THE INPUT: true; the input reads as it did. -/
def konstOnlySpec : ChangeSpec := { name := "konstOnly", fn := fun _ => fun
  | [d1, d2] => { results := [.lit (.bool true)], args := [d1, d2] }
  | _ => none }
def konstOnlyRow : OpenClaim := { program := "ytgleffjeaognfaa", sum := "bbb5c39acb3b940d3ea5d2e4180a072f09bf02082af338243072db0ac8e1564f", func := "vinculum/vinculumlaw13.KonstOnly", spec := "konstOnly", inPlace := ["internal/abi.NoEscape"], unfollowed := true, recurses := true, apart := false }
def KonstOnlySaid : Prop := konstOnlyRow.holds Try.pinned (OpenSpec.ofChange konstOnlySpec)

/-- ITS FALSE NEIGHBOUR: 'it returns false'. Refute it at one input. -/
def konstOnlyWrong : ChangeSpec := { name := "konstOnly", fn := fun _ => fun
  | [d1, d2] => { results := [.lit (.bool false)], args := [d1, d2] }
  | _ => none }
def KonstOnlyWrongFalsely : Prop := konstOnlyRow.holds Try.pinned (OpenSpec.ofChange konstOnlyWrong)

/-- 'vinculumlaw13.KonstNames': WHATEVER THE INPUT: true; the input reads as it did. -/
def konstNamesSpec : ChangeSpec := { name := "konstNames", fn := fun _ => fun
  | [d1, d2] => { results := [.lit (.bool true)], args := [d1, d2] }
  | _ => none }
def konstNamesRow : OpenClaim := { program := "ytgleffjeaognfaa", sum := "bbb5c39acb3b940d3ea5d2e4180a072f09bf02082af338243072db0ac8e1564f", func := "vinculum/vinculumlaw13.KonstNames", spec := "konstNames", inPlace := ["internal/abi.NoEscape"], unfollowed := true, recurses := true, apart := false }
def KonstNamesSaid : Prop := konstNamesRow.holds Try.pinned (OpenSpec.ofChange konstNamesSpec)

/-- ITS FALSE NEIGHBOUR: 'it returns false'. Refute it at one input. -/
def konstNamesWrong : ChangeSpec := { name := "konstNames", fn := fun _ => fun
  | [d1, d2] => { results := [.lit (.bool false)], args := [d1, d2] }
  | _ => none }
def KonstNamesWrongFalsely : Prop := konstNamesRow.holds Try.pinned (OpenSpec.ofChange konstNamesWrong)

/- THE SECOND FORM. 'bulk': how many values and letters a reading holds, each counted each time it is reached (what is shared counts as often as it is met; a slice's spare places count too). A statement '..UptoSaid' is the law's where the arguments, and the package variables that the reading takes, are together of bulk at most 1048576: NARROWER than '..Said'. Prove '..Said' where nothing that the law and all that it calls make is longer than what came in: it says more and counts as full. Else prove '..UptoSaid'. A law counts once. -/
mutual
def uptoBulk {H : Type} : DataW H → Nat
  | .lit (.string bytes) => bytes.length + 1
  | .lit _ => 1
  | .nil => 1
  | .ptr d => uptoBulk d + 1
  | .slice elems spare => uptoBulkAll elems + uptoBulkAll spare + 1
  | .agg parts => uptoBulkAll parts + 1
  | .iface _ d => uptoBulk d + 1
  | .map entries => uptoBulkEntries entries + 1
  | .held _ => 1
def uptoBulkAll {H : Type} : List (DataW H) → Nat
  | [] => 0
  | d :: r => uptoBulk d + uptoBulkAll r
def uptoBulkEntries {H : Type} : List (Lit × DataW H) → Nat
  | [] => 0
  | x :: r => uptoBulkEntry x + uptoBulkEntries r
def uptoBulkEntry {H : Type} : Lit × DataW H → Nat
  | (.string bytes, d) => bytes.length + uptoBulk d + 1
  | (_, d) => uptoBulk d + 1
 end
def uptoSmall : (H : Type) → List (DataW H) → Bool := fun _ ds => decide (uptoBulkAll ds ≤ 1048576)
def OpenSpec.upto (s : _root_.Go.ChangeSpec) : _root_.Go.OpenSpec := { _root_.Go.OpenSpec.ofChange s with cond := some uptoSmall }

/-- 'vinculumlaw13.KonstDoes', WHERE WHAT IT READS IS OF BULK AT MOST 1048576: true; the input reads as it did. -/
def konstDoesUptoRow : OpenClaim := { program := "ytgleffjeaognfaa", sum := "bbb5c39acb3b940d3ea5d2e4180a072f09bf02082af338243072db0ac8e1564f", func := "vinculum/vinculumlaw13.KonstDoes", spec := "konstDoes", inPlace := ["internal/abi.NoEscape"], unfollowed := true, recurses := true, apart := false, narrowed := true }
def KonstDoesUptoSaid : Prop := konstDoesUptoRow.holds Try.pinned (OpenSpec.upto konstDoesSpec)

/-- 'vinculumlaw13.KonstBack', WHERE WHAT IT READS IS OF BULK AT MOST 1048576: true; the input reads as it did. -/
def konstBackUptoRow : OpenClaim := { program := "ytgleffjeaognfaa", sum := "bbb5c39acb3b940d3ea5d2e4180a072f09bf02082af338243072db0ac8e1564f", func := "vinculum/vinculumlaw13.KonstBack", spec := "konstBack", inPlace := ["internal/abi.NoEscape"], unfollowed := true, recurses := true, apart := false, narrowed := true }
def KonstBackUptoSaid : Prop := konstBackUptoRow.holds Try.pinned (OpenSpec.upto konstBackSpec)

/-- 'vinculumlaw13.KonstOnly', WHERE WHAT IT READS IS OF BULK AT MOST 1048576: true; the input reads as it did. -/
def konstOnlyUptoRow : OpenClaim := { program := "ytgleffjeaognfaa", sum := "bbb5c39acb3b940d3ea5d2e4180a072f09bf02082af338243072db0ac8e1564f", func := "vinculum/vinculumlaw13.KonstOnly", spec := "konstOnly", inPlace := ["internal/abi.NoEscape"], unfollowed := true, recurses := true, apart := false, narrowed := true }
def KonstOnlyUptoSaid : Prop := konstOnlyUptoRow.holds Try.pinned (OpenSpec.upto konstOnlySpec)

/-- 'vinculumlaw13.KonstNames', WHERE WHAT IT READS IS OF BULK AT MOST 1048576: true; the input reads as it did. -/
def konstNamesUptoRow : OpenClaim := { program := "ytgleffjeaognfaa", sum := "bbb5c39acb3b940d3ea5d2e4180a072f09bf02082af338243072db0ac8e1564f", func := "vinculum/vinculumlaw13.KonstNames", spec := "konstNames", inPlace := ["internal/abi.NoEscape"], unfollowed := true, recurses := true, apart := false, narrowed := true }
def KonstNamesUptoSaid : Prop := konstNamesUptoRow.holds Try.pinned (OpenSpec.upto konstNamesSpec)

end Rows
end Go.Proofs.Ytgleffjeaognfaa
