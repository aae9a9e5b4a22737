/- ref19's Moved, walked where its answer is true. Condition: places that differ by so much. -/
import Derived.Test.YtplkdfkahcpoeaaDoorLexAll
import Derived.Test.YtplkdfkahcpoeaaDoorPx1
namespace Go.Proofs.YtplkdfkahcpoeaaDoor.P
open Go.Shelf Go.RowKit Go.Proofs.YtplkdfkahcpoeaaDoorW.PrintWords Go.Proofs.YtplkdfkahcpoeaaDoorW.PrintLast Go.Proofs.YtplkdfkahcpoeaaDoorW.PrintMore
set_option linter.unusedVariables false
set_option linter.unusedSimpArgs false
set_option maxRecDepth 100000
/-- A token at a place so much greater. -/
def movT (by_ : Int) (x : S37) : S37 := ⟨x.f0, x.f1, x.f2, x.f3 + by_⟩
set_option maxHeartbeats 8000000 in
theorem moved_calls (A0 : Option Addr) (c0 : Nat) (l : List S37) (A1 : Option Addr) (c1 : Nat) (by_ : Int) (w : World) (hr0 : Kd.C k37 w A0 l.length l) (hr1 : Kd.C k37 w A1 l.length (l.map (movT by_)))
    (hc0 : l.length ≤ c0) (hc1 : l.length ≤ c1) (hl : l.length ≤ 1000000000) (hb : ∀ x ∈ l, 0 ≤ x.f3 ∧ x.f3 ≤ 1000000000) (h0 : 0 ≤ by_) (h1 : by_ ≤ 1000000000) :
    Calls Tryd.prog 19 #[.slice A0 l.length c0, .slice A1 l.length c1, .int .i64 by_] w fun e w' => e = .returned (.bool true) ∧ Below w.heap.size w w' := by
  have HR0 := Lib.hid hr0
  have HR1 := Lib.hid hr1
  have HX := Lib.hid hb
  have HY := Lib.hid (show 0 ≤ by_ ∧ by_ ≤ 1000000000 from ⟨h0, h1⟩)
  have HL := Lib.hid hl
  have H0 := Lib.hid (Below.refl w.heap.size w)
  clear hr0 hr1 hb h0 h1 hl
  go_enter Tryd.func19, Tryd.ntmps19
  go_wp2
  go_loopg [7] (l.length + 1) (fun gk v7 wr => ∃ p : Int, v7 = .int .i64 p ∧ Hid (0 ≤ p ∧ p ≤ (l.length : Int) ∧ (l.length : Int) + 1 ≤ p + gk) ∧ Hid (Below w.heap.size w wr))
  case atStart => exact ⟨0, rfl, Lib.hid ⟨by omega, by omega, by omega⟩, H0⟩
  case round =>
    clear H0
    obtain ⟨p, rfl, HP, HB⟩ := hrel
    obtain ⟨hp0, hp1, hp2⟩ := HP.out
    by_cases h : p < (l.length : Int)
    · have c1 : decide (p < (l.length : Int)) = true := decide_eq_true h
      obtain ⟨ad0, rfl, x0, x1, x2, x3⟩ := at_T37 HR0.out p hp0 h
      obtain ⟨ad1, rfl, y0, y1, y2, y3⟩ := at_T37 HR1.out p hp0 h
      have hmap : rd_T37 (l.map (movT by_)) p = movT by_ (rd_T37 l p) := by
        unfold rd_T37
        have hlt : p.toNat < l.length := by omega
        rw [List.getD_eq_getElem?_getD, List.getD_eq_getElem?_getD, List.getElem?_map, List.getElem?_eq_getElem hlt]
        rfl
      have hbd : 0 ≤ (rd_T37 l p).f3 ∧ (rd_T37 l p).f3 ≤ 1000000000 := by
        have hlt : p.toNat < l.length := by omega
        refine HX.out _ ?_
        unfold rd_T37
        rw [List.getD_eq_getElem?_getD, List.getElem?_eq_getElem hlt]
        exact List.getElem_mem _
      rw [hmap] at y0 y1 y2 y3
      simp only [movT] at y0 y1 y2 y3
      generalize rd_T37 l p = X at *
      obtain ⟨a, b, c, d⟩ := X
      simp only at x0 x1 x2 x3 y0 y1 y2 y3 hbd
      replace x0 := (HB.out.cell (World.block_lt_of_cell? w _ x0)).trans x0
      replace x1 := (HB.out.cell (World.block_lt_of_cell? w _ x1)).trans x1
      replace x2 := (HB.out.cell (World.block_lt_of_cell? w _ x2)).trans x2
      replace x3 := (HB.out.cell (World.block_lt_of_cell? w _ x3)).trans x3
      replace y0 := (HB.out.cell (World.block_lt_of_cell? w _ y0)).trans y0
      replace y1 := (HB.out.cell (World.block_lt_of_cell? w _ y1)).trans y1
      replace y2 := (HB.out.cell (World.block_lt_of_cell? w _ y2)).trans y2
      replace y3 := (HB.out.cell (World.block_lt_of_cell? w _ y3)).trans y3
      obtain ⟨D, hD⟩ : ∃ D, d + by_ = D := ⟨_, rfl⟩
      rw [hD] at y3
      have wr1 : IntKind.i64.wrap (D - by_) = d := (IntWalk.i64_in _ (by have := HY.out; omega)).trans (by omega)
      have wr2 : IntKind.i64.wrap (p + 1) = p + 1 := IntWalk.i64_in _ (by have := HL.out; omega)
      have g0 := eq_true hp0
      have g1 := eq_true h
      have HH := Lib.hid (show 0 ≤ p ∧ p < (l.length : Int) from ⟨hp0, h⟩)
      have e0 : (!(a == a) || (!(b == b) || (!(c.toList == c.toList) || !(d == d)))) = false := by simp
      clear hmap hbd hD hp0 hp1 hp2 h
      go_wp2
      have hq := fun k w => eqA37 k w a a b b c c d d
      generalize hW : wr.alloc (.cells #[.int .i64 a, .int .i64 b, .string c, .int .i64 d] 37) = W
      have hBW : Below wr.heap.size wr W := by rw [← hW]; exact (Below.refl _ wr).alloc (Nat.le_refl _) _
      have hblk : W.heap[wr.heap.size]? = some (.cells #[.int .i64 a, .int .i64 b, .string c, .int .i64 d] 37) := by rw [← hW]; exact heap_alloc_new wr _
      clear hW y0 y1 y2 y3
      replace x0 := (hBW.cell (World.block_lt_of_cell? wr _ x0)).trans x0
      replace x1 := (hBW.cell (World.block_lt_of_cell? wr _ x1)).trans x1
      replace x2 := (hBW.cell (World.block_lt_of_cell? wr _ x2)).trans x2
      replace x3 := (hBW.cell (World.block_lt_of_cell? wr _ x3)).trans x3
      have z0 : W.cell? ⟨wr.heap.size, 0, none⟩ = some (.int .i64 a) := Joins.cell_of_block hblk 0
      have z1 : W.cell? ⟨wr.heap.size, 1, none⟩ = some (.int .i64 b) := Joins.cell_of_block hblk 1
      have z2 : W.cell? ⟨wr.heap.size, 2, none⟩ = some (.string c) := Joins.cell_of_block hblk 2
      have z3 : W.cell? ⟨wr.heap.size, 3, none⟩ = some (.int .i64 d) := Joins.cell_of_block hblk 3
      have HBW := Lib.hid (HB.out.trans (hBW.mono HB.out.size))
      clear hblk hBW HB
      go_quiet (fail)
      go_wp2
      go_roundg (gk - 1)
      case measure => have := HP.out; have := HH.out; omega
      case rel => exact ⟨p + 1, rfl, Lib.hid (by have := HP.out; have := HH.out; omega), Lib.hid (pw_below_drewN HBW.out _)⟩
    · have c1 : decide (p < (l.length : Int)) = false := decide_eq_false h
      clear h hp0 hp1 hp2
      go_wp2
      go_ret
      exact ⟨rfl, HB.out⟩
end Go.Proofs.YtplkdfkahcpoeaaDoor.P
