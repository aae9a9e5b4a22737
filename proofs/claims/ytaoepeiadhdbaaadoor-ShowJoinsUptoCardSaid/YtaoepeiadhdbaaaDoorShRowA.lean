/- Noads that come in; the rows' tables. -/
import Derived.Test.YtaoepeiadhdbaaaDoorNd
import Derived.Test.YtaoepeiadhdbaaaDoorCards
import Derived.Test.YtaoepeiadhdbaaaDoorTie
import Derived.Test.YtaoepeiadhdbaaaDoorShJoinA
import Derived.Lib.LaidIn
import Derived.Lib.LaidU8T
import Derived.Deep.DeepHandedRow
import Derived.Deep.DeepWitnessRowRef
import Derived.WalkKit
import Derived.ProofKit
import Derived.OpenShut
import Derived.ShutString
import Derived.SizedLaws
namespace Go.Proofs.YtaoepeiadhdbaaaDoor.ND
open Go.RowKit Go.ChangeShapes Go.WideShapes Go.Deep Go.Proofs.YtaoepeiadhdbaaaDoorW.PrintWords
set_option linter.unusedVariables false
set_option maxRecDepth 100000
theorem noads_open {H : Type} {enc : TypeId × Value → H} {W : World} {base : Nat} {spare : Nat → Bool} {held : Bool} : ∀ (N : Nat) (fuel : Nat) (v : Value) (x : DataW H × List MemPlace), DataW.trod enc Tryd.prog W base spare held fuel 22 [v] = some x → bulk x.1 ≤ N → ∃ l : List (Nn N), rdL N W v l ∧ wtL N l + 1 ≤ bulk x.1
  | 0, fuel, v, x, hx, hb => by have := bulk_pos x.1; omega
  | N + 1, fuel, v, x, hx, hb => by
    refine slice_open (α := Nz (Nn N)) ⟨0, 0, 0, 0, 0, [], [], false, false, [], []⟩ (rdZ (rdN N) W) (wtZ (wtN N)) 11 Tryd.underlying22 (by kernel_rfl) hx ?_
    intro n cs y hcs ht' hlt
    obtain ⟨xs, m, _, rfl, _, hxl, hff⟩ := DataW.trod_struct Tryd.underlying33 ht'
    have hxl : xs.length = 11 := hxl
    match cs, hcs, xs, hxl with
    | [c0, c1, c2, c3, c4, c5, c6, c7, c8, c9, c10], _, [x0, x1, x2, x3, x4, x5, x6, x7, x8, x9, x10], _ =>
      have i1 : Tryd.prog.cellsOf 3 = 1 := by kernel_rfl
      have i2 : Tryd.prog.cellsOf 4 = 1 := by kernel_rfl
      have i3 : Tryd.prog.cellsOf 22 = 1 := by kernel_rfl
      have i4 : Tryd.prog.cellsOf 31 = 1 := by kernel_rfl
      have i5 : Tryd.prog.cellsOf 30 = 1 := by kernel_rfl
      have g0 : DataW.trod enc Tryd.prog W base spare held m 3 (([c0, c1, c2, c3, c4, c5, c6, c7, c8, c9, c10].drop 0).take (Tryd.prog.cellsOf 3)) = some x0 := hff 0 _ rfl
      rw [i1] at g0
      replace g0 : DataW.trod enc Tryd.prog W base spare held m 3 [c0] = some x0 := g0
      have g1 : DataW.trod enc Tryd.prog W base spare held m 3 (([c0, c1, c2, c3, c4, c5, c6, c7, c8, c9, c10].drop 1).take (Tryd.prog.cellsOf 3)) = some x1 := hff 1 _ rfl
      rw [i1] at g1
      replace g1 : DataW.trod enc Tryd.prog W base spare held m 3 [c1] = some x1 := g1
      have g2 : DataW.trod enc Tryd.prog W base spare held m 3 (([c0, c1, c2, c3, c4, c5, c6, c7, c8, c9, c10].drop 2).take (Tryd.prog.cellsOf 3)) = some x2 := hff 2 _ rfl
      rw [i1] at g2
      replace g2 : DataW.trod enc Tryd.prog W base spare held m 3 [c2] = some x2 := g2
      have g3 : DataW.trod enc Tryd.prog W base spare held m 3 (([c0, c1, c2, c3, c4, c5, c6, c7, c8, c9, c10].drop 3).take (Tryd.prog.cellsOf 3)) = some x3 := hff 3 _ rfl
      rw [i1] at g3
      replace g3 : DataW.trod enc Tryd.prog W base spare held m 3 [c3] = some x3 := g3
      have g4 : DataW.trod enc Tryd.prog W base spare held m 3 (([c0, c1, c2, c3, c4, c5, c6, c7, c8, c9, c10].drop 4).take (Tryd.prog.cellsOf 3)) = some x4 := hff 4 _ rfl
      rw [i1] at g4
      replace g4 : DataW.trod enc Tryd.prog W base spare held m 3 [c4] = some x4 := g4
      have g5 : DataW.trod enc Tryd.prog W base spare held m 30 (([c0, c1, c2, c3, c4, c5, c6, c7, c8, c9, c10].drop 5).take (Tryd.prog.cellsOf 30)) = some x5 := hff 5 _ rfl
      rw [i5] at g5
      replace g5 : DataW.trod enc Tryd.prog W base spare held m 30 [c5] = some x5 := g5
      have g6 : DataW.trod enc Tryd.prog W base spare held m 31 (([c0, c1, c2, c3, c4, c5, c6, c7, c8, c9, c10].drop 6).take (Tryd.prog.cellsOf 31)) = some x6 := hff 6 _ rfl
      rw [i4] at g6
      replace g6 : DataW.trod enc Tryd.prog W base spare held m 31 [c6] = some x6 := g6
      have g7 : DataW.trod enc Tryd.prog W base spare held m 4 (([c0, c1, c2, c3, c4, c5, c6, c7, c8, c9, c10].drop 7).take (Tryd.prog.cellsOf 4)) = some x7 := hff 7 _ rfl
      rw [i2] at g7
      replace g7 : DataW.trod enc Tryd.prog W base spare held m 4 [c7] = some x7 := g7
      have g8 : DataW.trod enc Tryd.prog W base spare held m 4 (([c0, c1, c2, c3, c4, c5, c6, c7, c8, c9, c10].drop 8).take (Tryd.prog.cellsOf 4)) = some x8 := hff 8 _ rfl
      rw [i2] at g8
      replace g8 : DataW.trod enc Tryd.prog W base spare held m 4 [c8] = some x8 := g8
      have g9 : DataW.trod enc Tryd.prog W base spare held m 22 (([c0, c1, c2, c3, c4, c5, c6, c7, c8, c9, c10].drop 9).take (Tryd.prog.cellsOf 22)) = some x9 := hff 9 _ rfl
      rw [i3] at g9
      replace g9 : DataW.trod enc Tryd.prog W base spare held m 22 [c9] = some x9 := g9
      have g10 : DataW.trod enc Tryd.prog W base spare held m 22 (([c0, c1, c2, c3, c4, c5, c6, c7, c8, c9, c10].drop 10).take (Tryd.prog.cellsOf 22)) = some x10 := hff 10 _ rfl
      rw [i3] at g10
      replace g10 : DataW.trod enc Tryd.prog W base spare held m 22 [c10] = some x10 := g10
      have wfI : ∀ n : Int, (Lit.int .i64 n).wf = true → inI n := fun n h => by
        have : IntKind.i64.min ≤ n ∧ n ≤ IntKind.i64.max := by simpa [Lit.wf] using h
        have e1 : IntKind.i64.min = -9223372036854775808 := by decide
        have e2 : IntKind.i64.max = 9223372036854775807 := by decide
        rw [e1, e2] at this
        exact this
      obtain ⟨n0, e0, _, w0⟩ := DataW.trod_int Tryd.underlying3 g0
      obtain ⟨n1, e1, _, w1⟩ := DataW.trod_int Tryd.underlying3 g1
      obtain ⟨n2, e2, _, w2⟩ := DataW.trod_int Tryd.underlying3 g2
      obtain ⟨n3, e3, _, w3⟩ := DataW.trod_int Tryd.underlying3 g3
      obtain ⟨n4, e4, _, w4⟩ := DataW.trod_int Tryd.underlying3 g4
      obtain ⟨b7, e7, _⟩ := DataW.trod_bool Tryd.underlying4 g7
      obtain ⟨b8, e8, _⟩ := DataW.trod_bool Tryd.underlying4 g8
      simp only [List.cons.injEq, and_true] at e0 e1 e2 e3 e4 e7 e8
      subst e0 e1 e2 e3 e4 e7 e8
      have hsum : bulk (DataW.agg ([x0, x1, x2, x3, x4, x5, x6, x7, x8, x9, x10].map (·.1))) = bulk x0.1 + bulk x1.1 + bulk x2.1 + bulk x3.1 + bulk x4.1 + bulk x5.1 + bulk x6.1 + bulk x7.1 + bulk x8.1 + bulk x9.1 + bulk x10.1 + 1 := by
        rw [bulk_agg]
        simp only [List.map_cons, List.map_nil, bulks_cons, bulks_nil]
        omega
      rw [hsum] at hlt ⊢
      obtain ⟨lr, r1, r2⟩ := slice_open (α := Int) 0 (fun n cs => cs = [.int .i64 n] ∧ inI n) (fun _ => 1) 1 Tryd.underlying31 i1 g6 (by
        intro n cs y hcs ht' hlt
        obtain ⟨z, e, _, wz⟩ := DataW.trod_int Tryd.underlying3 ht'
        exact ⟨z, ⟨e, wfI _ wz⟩, bulk_pos _⟩)
      obtain ⟨lp, p1, p2⟩ := slice_open (α := List (Nn N)) [] (fun l cs => ∃ v, cs = [v] ∧ rdS (rdN N W) 11 W v l) (fun p => 1 + sumL (wtN N) p) 1 Tryd.underlying30 i3 g5 (by
        intro n cs y hcs ht' hlt
        match cs, hcs with
        | [c], _ =>
          obtain ⟨l, l1, l2⟩ := noads_open N n c y ht' (by omega)
          exact ⟨l, ⟨c, rfl, l1⟩, by unfold wtL at l2; omega⟩)
      obtain ⟨lu, u1, u2⟩ := noads_open N m c9 x9 g9 (by omega)
      obtain ⟨lb, b1, b2⟩ := noads_open N m c10 x10 g10 (by omega)
      refine ⟨⟨n0, n1, n2, n3, n4, lp, lr, b7, b8, lu, lb⟩, ⟨wfI _ w0, wfI _ w1, wfI _ w2, wfI _ w3, wfI _ w4, c5, c6, c9, c10, rfl, p1, r1, u1, b1⟩, ?_⟩
      unfold wtZ
      have hlen := sumL_len (fun _ : Int => 1) lr (fun _ _ => Nat.le_refl _)
      dsimp only
      unfold wtL at u2 b2
      omega
end Go.Proofs.YtaoepeiadhdbaaaDoor.ND
namespace Go.Proofs.YtaoepeiadhdbaaaDoor.SR
open Go.Shelf
open Go.ChangeShapes Go.WideShapes Go.ChangeAt Go.RowKit Go.Lib Go.Deep
open Go.ChangeMaps (open_string shut_string)
set_option linter.unusedVariables false
theorem own : ownKnob Tryd.prog.godebug = none := by kernel_rfl
theorem laidOut : laidOutB Tryd.prog = true := by kernel_rfl
def L3 : List (String × DataW Unit) := [("math/bits.deBruijn32tab", Rows.laid_math_bits_deBruijn32tab), ("math/bits.deBruijn64tab", Rows.laid_math_bits_deBruijn64tab), ("internal/strconv.uint64pow10", Rows.laid_internal_strconv_uint64pow10)]
def db64 : List Int := [0, 1, 56, 2, 57, 49, 28, 3, 61, 58, 42, 50, 38, 29, 17, 4, 62, 47, 59, 36, 45, 43, 51, 22, 53, 39, 33, 30, 24, 18, 12, 5, 63, 55, 48, 27, 60, 41, 37, 16, 46, 35, 44, 21, 52, 32, 23, 11, 54, 26, 40, 15, 34, 20, 31, 10, 25, 14, 19, 9, 13, 8, 7, 6]
def db32 : List Int := [0, 1, 28, 2, 29, 14, 24, 3, 30, 22, 20, 15, 25, 17, 4, 8, 31, 27, 13, 23, 21, 19, 16, 7, 26, 12, 18, 6, 11, 5, 10, 9]
def pow10 : List Int := [1, 10, 100, 1000, 10000, 100000, 1000000, 10000000, 100000000, 1000000000, 10000000000, 100000000000, 1000000000000, 10000000000000, 100000000000000, 1000000000000000, 10000000000000000, 100000000000000000, 1000000000000000000, 10000000000000000000]
theorem e64 : (Rows.laid_math_bits_deBruijn64tab : DataW Unit) = Lib.tabData .u8 db64 := by kernel_rfl
theorem e10 : (Rows.laid_internal_strconv_uint64pow10 : DataW Unit) = Lib.tabData .u64 Lib.pow10Tab := by kernel_rfl
theorem tabs {W : World} (h : laidMet Tryd.prog L3 W) : P.LexTabs W := by
  constructor
  · have h10 : Lib.VarReads Tryd.prog W "internal/strconv.uint64pow10" (Lib.tabData .u64 Lib.pow10Tab) := by rw [← e10]; exact Lib.laidMet.reads h (.tail _ (.tail _ (.head _)))
    obtain ⟨g, t, cs, fuel, p, hg, hty, hvar, hd⟩ := h10
    have hg' : Tryd.prog.globalNamed "internal/strconv.uint64pow10" = some 0 := by kernel_rfl
    obtain rfl := Option.some.inj (hg'.symm.trans hg)
    have hy : (Tryd.prog.globals[0]?).map (·.type) = some 96 := by kernel_rfl
    obtain rfl := Option.some.inj (hy.symm.trans hty)
    have hcs := Lib.cells_of_tab Tryd.underlying96 Tryd.underlying87 (by kernel_rfl) (by kernel_rfl) hd
    unfold Lib.TabIs
    rw [hvar, ← hcs]
  · have h64 : Lib.VarReads Tryd.prog W "math/bits.deBruijn64tab" (Lib.tabData .u8 db64) := by rw [← e64]; exact Lib.laidMet.reads h (.tail _ (.head _))
    obtain ⟨g, t, cs, fuel, p, hg, hty, hvar, hd⟩ := h64
    have hg' : Tryd.prog.globalNamed "math/bits.deBruijn64tab" = some 3 := by kernel_rfl
    obtain rfl := Option.some.inj (hg'.symm.trans hg)
    have hy : (Tryd.prog.globals[3]?).map (·.type) = some 102 := by kernel_rfl
    obtain rfl := Option.some.inj (hy.symm.trans hty)
    have hcs := Lib.cells_of_tab Tryd.underlying102 Tryd.underlying5 (by kernel_rfl) (by kernel_rfl) hd
    have := World.var?_cell hg hvar 15
    rw [this, ← Array.getElem?_toList, hcs]
    rfl
/-- A world for the witness. -/
noncomputable def laidWorld (os : Os) : World :=
  let w0 := World.holding Tryd.prog os ⟨#[], #[], []⟩
  let put (h : Array Obj) (g : Nat) (cs : Array Value) : Array Obj := h.modify g fun
    | .cells _ t frozen => .cells cs t frozen
    | o => o
  let h3 := put w0.heap 3 (db64.map fun z => Value.int .u8 z).toArray
  let h4 := put h3 2 (db32.map fun z => Value.int .u8 z).toArray
  let h5 := put h4 0 (pow10.map fun z => Value.int .u64 z).toArray
  { w0 with heap := h5 }
theorem laid_met (os : Os) (args : Array Value) : laidMet Tryd.prog L3 ((laidWorld os).forCall (fun _ _ => 0) ⟨#[], args, []⟩).memory :=
  (LaidIn.of_run (l := L3) [2, 3, 0] 8 (by kernel_rfl) (by kernel_rfl) (by kernel_rfl) (by kernel_rfl)).met
/-- An argument that is a list of noads. -/
theorem noads_arg {H : Type} {enc : TypeId × Value → H} {W : World} {base : Nat} {spare : Nat → Bool} {held : Bool} {m : Nat} {v : Value} {d : DataW H} {p : List MemPlace} (h : DataW.trod enc Tryd.prog W base spare held m 22 [v] = some (d, p)) (N : Nat) (hN : ND.bulk d ≤ N) :
    (∃ l : List (ND.Nn N), ND.rdL N W v l ∧ ND.wtL N l + 1 ≤ ND.bulk d) ∧ (v = .slice none 0 0 ∨ ∃ a n c, v = .slice (some a) n c) := by
  refine ⟨ND.noads_open N m v (d, p) h hN, ?_⟩
  rcases open_slice Tryd.underlying22 h with ⟨hcs, _⟩ | ⟨a, len, cap, _, _, _, _, hcs, _⟩
  · exact .inl (by simpa using hcs)
  · exact .inr ⟨a, len, cap, by simpa using hcs⟩
end Go.Proofs.YtaoepeiadhdbaaaDoor.SR
