/- Layer 2: what the rows' listed tables give, and a world that holds them. -/
import Derived.Test.YtkkadhhmdgbpiaaGreatDoorCards
import Derived.Test.YtkkadhhmdgbpiaaGreatDoorTie
import Derived.Test.YtkkadhhmdgbpiaaGreatDoorDimTold
import Derived.Lib.LaidIn
import Derived.Lib.LaidU8T
import Derived.Deep.DeepHandedRow
import Derived.Deep.DeepWitnessRowRef
import Derived.WalkKit
import Derived.ProofKit
import Derived.OpenShut
import Derived.ShutString
import Derived.SizedLaws
namespace Go.Proofs.YtkkadhhmdgbpiaaGreatDoor.DR
open Go.Shelf
open Go.ChangeShapes Go.WideShapes Go.ChangeAt Go.RowKit Go.Lib
open Go.ChangeMaps (open_string shut_string)
set_option linter.unusedVariables false
theorem own : ownKnob Tryz.prog.godebug = none := by kernel_rfl
theorem laidOut : laidOutB Tryz.prog = true := by kernel_rfl
def L7 : List (String × DataW Unit) := [("math/bits.deBruijn32tab", Rows.laid_math_bits_deBruijn32tab), ("math/bits.deBruijn64tab", Rows.laid_math_bits_deBruijn64tab), ("internal/strconv.uint64pow10", Rows.laid_internal_strconv_uint64pow10), ("unicode/utf8.acceptRanges", Rows.laid_unicode_utf8_acceptRanges), ("strconv.ErrRange", Rows.laid_strconv_ErrRange), ("strconv.ErrSyntax", Rows.laid_strconv_ErrSyntax), ("unicode/utf8.first", Rows.laid_unicode_utf8_first)]
def db64 : List Int := [0, 1, 56, 2, 57, 49, 28, 3, 61, 58, 42, 50, 38, 29, 17, 4, 62, 47, 59, 36, 45, 43, 51, 22, 53, 39, 33, 30, 24, 18, 12, 5, 63, 55, 48, 27, 60, 41, 37, 16, 46, 35, 44, 21, 52, 32, 23, 11, 54, 26, 40, 15, 34, 20, 31, 10, 25, 14, 19, 9, 13, 8, 7, 6]
def db32 : List Int := [0, 1, 28, 2, 29, 14, 24, 3, 30, 22, 20, 15, 25, 17, 4, 8, 31, 27, 13, 23, 21, 19, 16, 7, 26, 12, 18, 6, 11, 5, 10, 9]
def pow10 : List Int := [1, 10, 100, 1000, 10000, 100000, 1000000, 10000000, 100000000, 1000000000, 10000000000, 100000000000, 1000000000000, 10000000000000, 100000000000000, 1000000000000000, 10000000000000000, 100000000000000000, 1000000000000000000, 10000000000000000000]
theorem e10 : (Rows.laid_internal_strconv_uint64pow10 : DataW Unit) = Lib.tabData .u64 Lib.pow10Tab := by kernel_rfl
theorem eF : (Rows.laid_unicode_utf8_first : DataW Unit) = Lib.firstData := by kernel_rfl
theorem eA : (Rows.laid_unicode_utf8_acceptRanges : DataW Unit) = Lib.acceptData := by kernel_rfl
theorem tabs {W : World} (h : laidMet Tryz.prog L7 W) (hsh : W.ShapedOpen Tryz.prog) : P.DimTabs W := by
  have hF : Lib.VarReads Tryz.prog W "unicode/utf8.first" Lib.firstData := by rw [← eF]; exact Lib.laidMet.reads h (.tail _ (.tail _ (.tail _ (.tail _ (.tail _ (.tail _ (.head _)))))))
  have hA : Lib.VarReads Tryz.prog W "unicode/utf8.acceptRanges" Lib.acceptData := by rw [← eA]; exact Lib.laidMet.reads h (.tail _ (.tail _ (.tail _ (.head _))))
  refine ⟨?_, utf8Tabs_of_readsT (U8Types.of260 Tryz.lays260) ⟨by kernel_rfl, by kernel_rfl, by kernel_rfl, by kernel_rfl, by kernel_rfl, by kernel_rfl, by kernel_rfl⟩ hF hA, Tryz.laysM145.s1_3 W hsh⟩
  have h10 : Lib.VarReads Tryz.prog W "internal/strconv.uint64pow10" (Lib.tabData .u64 Lib.pow10Tab) := by rw [← e10]; exact Lib.laidMet.reads h (.tail _ (.tail _ (.head _)))
  obtain ⟨g, t, cs, fuel, p, hg, hty, hvar, hd⟩ := h10
  have hg' : Tryz.prog.globalNamed "internal/strconv.uint64pow10" = some 4 := by kernel_rfl
  obtain rfl := Option.some.inj (hg'.symm.trans hg)
  have hy : (Tryz.prog.globals[4]?).map (·.type) = some 109 := by kernel_rfl
  obtain rfl := Option.some.inj (hy.symm.trans hty)
  have hcs := Lib.cells_of_tab Tryz.underlying109 Tryz.underlying52 (by kernel_rfl) (by kernel_rfl) hd
  unfold Lib.TabIs
  rw [hvar, ← hcs]
/-- A world for the witness. -/
noncomputable def laidWorld (os : Os) : World :=
  let w0 := World.holding Tryz.prog os ⟨#[], #[], []⟩
  let put (h : Array Obj) (g : Nat) (cs : Array Value) : Array Obj := h.modify g fun
    | .cells _ t frozen => .cells cs t frozen
    | o => o
  let h1 := put w0.heap 5 (Lib.firstTab.map fun z => Value.int .u8 z).toArray
  let h2 := put h1 6 ((List.range 16).flatMap fun i => [Value.int .u8 (Lib.accLo i), Value.int .u8 (Lib.accHi i)]).toArray
  let h3 := put h2 8 (db64.map fun z => Value.int .u8 z).toArray
  let h4 := put h3 7 (db32.map fun z => Value.int .u8 z).toArray
  let h5 := put h4 4 (pow10.map fun z => Value.int .u64 z).toArray
  let h6 := put h5 3 #[.iface 119 (.pointer (some ⟨h5.size, 0, none⟩))]
  let h7 := h6.push (.cells #[.string ⟨#[118, 97, 108, 117, 101, 32, 111, 117, 116, 32, 111, 102, 32, 114, 97, 110, 103, 101]⟩] 121 (0, 0))
  let h8 := put h7 2 #[.iface 119 (.pointer (some ⟨h7.size, 0, none⟩))]
  let h9 := h8.push (.cells #[.string ⟨#[105, 110, 118, 97, 108, 105, 100, 32, 115, 121, 110, 116, 97, 120]⟩] 121 (0, 0))
  { w0 with heap := h9 }
theorem laid_met (os : Os) (args : Array Value) : laidMet Tryz.prog L7 ((laidWorld os).forCall (fun _ _ => 0) ⟨#[], args, []⟩).memory :=
  (LaidIn.of_run (l := L7) [7, 8, 4, 6, 3, 2, 5, 9, 10, 11, 12, 13, 14, 15, 16, 17, 18, 19, 20, 21, 22, 23, 24, 25, 26, 27, 28, 29, 30] 8 (by kernel_rfl) (by kernel_rfl) (by kernel_rfl) (by kernel_rfl)).met
end Go.Proofs.YtkkadhhmdgbpiaaGreatDoor.DR
