/-
  No cell of these rows narrows 'for every input' (looked for: loops, veiled, ifaces, maps, wideKeys, modest, calm, conditions, laid).
  DERIVED. THE GIVEN ROWS OF THIS SEAT. 4 by the template 'for every input the law returns true; each argument reads behind the call as it read before'; 0 by the template 'total and deterministic' (their statements: YticfflihniifaaaTotals.lean).
  GIVEN WITH THE SEED: the statements are not yours to turn. If you find one false, say at which input.
  Laid BY PROGRAM, IN A SANDBOX (cutbox-rows.mjs): the forced cells as the released guide's own fill.sh prints them over the translation cbe8eb2ab01b8d07… (all of the seat's roots in one cut). By AI agents, Wed Nov 11 2026. No macro, syntax, notation, axiom, sorry.
-/
import Derived.Test.YticfflihniifaaaChecked
import GoSem.Claim
import GoSem.ClaimJoined
import GoSem.ClaimMapViews
import Derived.JoinedTies
import Derived.KernelRfl
namespace Go.Proofs.Yticfflihniifaaa
/- THE CELL 'sum', in the pinned program and in every row, IS THE sha256 OF THE DUMP (.gsa) THAT YticfflihniifaaaProg.lean LOADS. Nothing in Lean hashes anything: it is a label: what it is worth is what the hold of that sum in a sandbox is worth. -/
noncomputable def Try.pinned : Pinned := { name := "yticfflihniifaaa", sum := "cbe8eb2ab01b8d074717d72ef066fd41762e775455fe3db805fd1ede54c2038b", checked := Try.checked }
namespace Rows
def none {H : Type} : Left H := { results := [], args := [] }

/-- 'vinculumlaw22.StyleKonst': WHATEVER THE INPUT: true; the input reads as it did. -/
def styleKonstSpec : ChangeSpec := { name := "styleKonst", fn := fun _ => fun
  | [d1, d2, d3, d4] => { results := [.lit (.bool true)], args := [d1, d2, d3, d4] }
  | _ => none }
def styleKonstRow : OpenClaim := { program := "yticfflihniifaaa", sum := "cbe8eb2ab01b8d074717d72ef066fd41762e775455fe3db805fd1ede54c2038b", func := "vinculum/vinculumlaw22.StyleKonst", spec := "styleKonst", inPlace := ["internal/abi.NoEscape"], unfollowed := true, recurses := true, apart := false }
def StyleKonstSaid : Prop := styleKonstRow.holds Try.pinned (OpenSpec.ofChange styleKonstSpec)

/-- ITS FALSE NEIGHBOUR: 'it returns false'. Refute it at one input. -/
def styleKonstWrong : ChangeSpec := { name := "styleKonst", fn := fun _ => fun
  | [d1, d2, d3, d4] => { results := [.lit (.bool false)], args := [d1, d2, d3, d4] }
  | _ => none }
def StyleKonstWrongFalsely : Prop := styleKonstRow.holds Try.pinned (OpenSpec.ofChange styleKonstWrong)

/-- 'vinculumlaw22.StyleSizes': WHATEVER THE INPUT: true; the input reads as it did. -/
def styleSizesSpec : ChangeSpec := { name := "styleSizes", fn := fun _ => fun
  | [d1, d2, d3] => { results := [.lit (.bool true)], args := [d1, d2, d3] }
  | _ => none }
def styleSizesRow : OpenClaim := { program := "yticfflihniifaaa", sum := "cbe8eb2ab01b8d074717d72ef066fd41762e775455fe3db805fd1ede54c2038b", func := "vinculum/vinculumlaw22.StyleSizes", spec := "styleSizes", inPlace := ["internal/abi.NoEscape"], unfollowed := true, recurses := true, apart := false }
def StyleSizesSaid : Prop := styleSizesRow.holds Try.pinned (OpenSpec.ofChange styleSizesSpec)

/-- ITS FALSE NEIGHBOUR: 'it returns false'. Refute it at one input. -/
def styleSizesWrong : ChangeSpec := { name := "styleSizes", fn := fun _ => fun
  | [d1, d2, d3] => { results := [.lit (.bool false)], args := [d1, d2, d3] }
  | _ => none }
def StyleSizesWrongFalsely : Prop := styleSizesRow.holds Try.pinned (OpenSpec.ofChange styleSizesWrong)

/-- 'vinculumlaw22.StyleDoes': WHATEVER THE INPUT: true; the input reads as it did. -/
def styleDoesSpec : ChangeSpec := { name := "styleDoes", fn := fun _ => fun
  | [d1, d2, d3, d4] => { results := [.lit (.bool true)], args := [d1, d2, d3, d4] }
  | _ => none }
def styleDoesRow : OpenClaim := { program := "yticfflihniifaaa", sum := "cbe8eb2ab01b8d074717d72ef066fd41762e775455fe3db805fd1ede54c2038b", func := "vinculum/vinculumlaw22.StyleDoes", spec := "styleDoes", inPlace := ["internal/abi.NoEscape"], unfollowed := true, recurses := true, apart := false }
def StyleDoesSaid : Prop := styleDoesRow.holds Try.pinned (OpenSpec.ofChange styleDoesSpec)

/-- ITS FALSE NEIGHBOUR: 'it returns false'. Refute it at one input. -/
def styleDoesWrong : ChangeSpec := { name := "styleDoes", fn := fun _ => fun
  | [d1, d2, d3, d4] => { results := [.lit (.bool false)], args := [d1, d2, d3, d4] }
  | _ => none }
def StyleDoesWrongFalsely : Prop := styleDoesRow.holds Try.pinned (OpenSpec.ofChange styleDoesWrong)

/-- 'vinculumlaw22.StyleDown': WHATEVER THE INPUT: true; the input reads as it did. -/
def styleDownSpec : ChangeSpec := { name := "styleDown", fn := fun _ => fun
  | [d] => { results := [.lit (.bool true)], args := [d] }
  | _ => none }
def styleDownRow : OpenClaim := { program := "yticfflihniifaaa", sum := "cbe8eb2ab01b8d074717d72ef066fd41762e775455fe3db805fd1ede54c2038b", func := "vinculum/vinculumlaw22.StyleDown", spec := "styleDown", inPlace := ["internal/abi.NoEscape"], unfollowed := true, recurses := true, apart := false }
def StyleDownSaid : Prop := styleDownRow.holds Try.pinned (OpenSpec.ofChange styleDownSpec)

/-- ITS FALSE NEIGHBOUR: 'it returns false'. Refute it at one input. -/
def styleDownWrong : ChangeSpec := { name := "styleDown", fn := fun _ => fun
  | [d] => { results := [.lit (.bool false)], args := [d] }
  | _ => none }
def StyleDownWrongFalsely : Prop := styleDownRow.holds Try.pinned (OpenSpec.ofChange styleDownWrong)

/- THE SECOND FORM. 'bulk': how many values and letters a reading holds, each counted each time it is reached (what is shared counts as often as it is met; a slice's spare places count too). A statement '..UptoSaid' is the law's where the arguments, and the package variables that the reading takes, are together of bulk at most 1048576: NARROWER than '..Said'. Prove '..Said' where nothing that the law and all that it calls make is longer than what came in: it says more and counts as full. Else prove '..UptoSaid'. A law counts once. -/
mutual
def uptoBulk {H : Type} : DataW H → Nat
  | .lit (.string bytes) => bytes.length + 1
  | .lit _ => 1
  | .nil => 1
  | .ptr d => uptoBulk d + 1
  | .slice elems spare => uptoBulkAll elems + uptoBulkAll spare + 1
  | .agg parts => uptoBulkAll parts + 1
  | .iface _ d => uptoBulk d + 1
  | .map entries => uptoBulkEntries entries + 1
  | .held _ => 1
def uptoBulkAll {H : Type} : List (DataW H) → Nat
  | [] => 0
  | d :: r => uptoBulk d + uptoBulkAll r
def uptoBulkEntries {H : Type} : List (Lit × DataW H) → Nat
  | [] => 0
  | x :: r => uptoBulkEntry x + uptoBulkEntries r
def uptoBulkEntry {H : Type} : Lit × DataW H → Nat
  | (.string bytes, d) => bytes.length + uptoBulk d + 1
  | (_, d) => uptoBulk d + 1
 end
def uptoSmall : (H : Type) → List (DataW H) → Bool := fun _ ds => decide (uptoBulkAll ds ≤ 1048576)
def OpenSpec.upto (s : _root_.Go.ChangeSpec) : _root_.Go.OpenSpec := { _root_.Go.OpenSpec.ofChange s with cond := some uptoSmall }

/-- 'vinculumlaw22.StyleKonst', WHERE WHAT IT READS IS OF BULK AT MOST 1048576: true; the input reads as it did. -/
def styleKonstUptoRow : OpenClaim := { program := "yticfflihniifaaa", sum := "cbe8eb2ab01b8d074717d72ef066fd41762e775455fe3db805fd1ede54c2038b", func := "vinculum/vinculumlaw22.StyleKonst", spec := "styleKonst", inPlace := ["internal/abi.NoEscape"], unfollowed := true, recurses := true, apart := false, narrowed := true }
def StyleKonstUptoSaid : Prop := styleKonstUptoRow.holds Try.pinned (OpenSpec.upto styleKonstSpec)

/-- 'vinculumlaw22.StyleSizes', WHERE WHAT IT READS IS OF BULK AT MOST 1048576: true; the input reads as it did. -/
def styleSizesUptoRow : OpenClaim := { program := "yticfflihniifaaa", sum := "cbe8eb2ab01b8d074717d72ef066fd41762e775455fe3db805fd1ede54c2038b", func := "vinculum/vinculumlaw22.StyleSizes", spec := "styleSizes", inPlace := ["internal/abi.NoEscape"], unfollowed := true, recurses := true, apart := false, narrowed := true }
def StyleSizesUptoSaid : Prop := styleSizesUptoRow.holds Try.pinned (OpenSpec.upto styleSizesSpec)

/-- 'vinculumlaw22.StyleDoes', WHERE WHAT IT READS IS OF BULK AT MOST 1048576: true; the input reads as it did. -/
def styleDoesUptoRow : OpenClaim := { program := "yticfflihniifaaa", sum := "cbe8eb2ab01b8d074717d72ef066fd41762e775455fe3db805fd1ede54c2038b", func := "vinculum/vinculumlaw22.StyleDoes", spec := "styleDoes", inPlace := ["internal/abi.NoEscape"], unfollowed := true, recurses := true, apart := false, narrowed := true }
def StyleDoesUptoSaid : Prop := styleDoesUptoRow.holds Try.pinned (OpenSpec.upto styleDoesSpec)

/-- 'vinculumlaw22.StyleDown', WHERE WHAT IT READS IS OF BULK AT MOST 1048576: true; the input reads as it did. -/
def styleDownUptoRow : OpenClaim := { program := "yticfflihniifaaa", sum := "cbe8eb2ab01b8d074717d72ef066fd41762e775455fe3db805fd1ede54c2038b", func := "vinculum/vinculumlaw22.StyleDown", spec := "styleDown", inPlace := ["internal/abi.NoEscape"], unfollowed := true, recurses := true, apart := false, narrowed := true }
def StyleDownUptoSaid : Prop := styleDownUptoRow.holds Try.pinned (OpenSpec.upto styleDownSpec)

end Rows
end Go.Proofs.Yticfflihniifaaa
