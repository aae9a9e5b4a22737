/- strconv.FormatInt at base 16 of a number from 1 to 127, walked. Condition: the library's table stands. -/
import Derived.Test.YtplkdfkahcpoeaaDoorLexNext
namespace Go.Proofs.YtplkdfkahcpoeaaDoor.P
open Go.Shelf Go.RowKit Go.Proofs.YtplkdfkahcpoeaaDoorW.PrintWords Go.Proofs.YtplkdfkahcpoeaaDoorW.PrintLast Go.Proofs.YtplkdfkahcpoeaaDoorW.PrintMore
set_option linter.unusedVariables false
set_option linter.unusedSimpArgs false
set_option maxRecDepth 100000
def dgs : ByteArray := ⟨#[48, 49, 50, 51, 52, 53, 54, 55, 56, 57, 97, 98, 99, 100, 101, 102, 103, 104, 105, 106, 107, 108, 109, 110, 111, 112, 113, 114, 115, 116, 117, 118, 119, 120, 121, 122]⟩
def dg (u : Int) : Int := bt dgs u
set_option maxHeartbeats 1000000 in
theorem tz_calls (w : World) (h : w.cell? ⟨5, 15, none⟩ = some (.int .u8 4)) : Calls Tryd.prog 67 #[.int .u64 16] w fun e w' => e = .returned (.int .i64 4) ∧ w = w' := by
  have hi : IntKind.u64.wrap (Go.bits .and .u64 16 (IntKind.u64.wrap (-16)) * 285870213051353865) / 288230376151711744 = 15 := by decide +kernel
  go_enter Tryd.func67, Tryd.ntmps67
  go_wp2
  go_ret
  exact ⟨rfl, rfl⟩
theorem p2_calls (w : World) : Calls Tryd.prog 66 #[.int .i64 16] w fun e w' => e = .returned (.bool true) ∧ w = w' := by
  have hi : (Go.bits .and .i64 16 15 == 0) = true := by decide +kernel
  go_enter Tryd.func66, Tryd.ntmps66
  go_wp2
  go_ret
  exact ⟨rfl, rfl⟩
theorem zero_64 : Tryd.zeroCells87[64]? = some (.int .u8 0) := by kernel_rfl
theorem zero_63 : Tryd.zeroCells87[63]? = some (.int .u8 0) := by kernel_rfl
theorem and15 : ∀ u : Fin 128, Go.bits .and .u64 (u.val : Int) 15 = (u.val : Int) % 16 := by decide +kernel
theorem reads1 {W : World} {b o : Nat} {d : Int} {v : Value} (h : W.cell? ⟨b, o, none⟩ = some v) : ReadsInt (W.setCell ⟨b, o, none⟩ (.int .u8 d)) .u8 (some ⟨b, o, none⟩) 1 [d] :=
  ⟨rfl, by decide, fun _ => ⟨_, rfl, fun j hj => by
    obtain rfl : j = 0 := by omega
    have := World.cell?_setCell_same W ⟨b, o, none⟩ (.int .u8 d) h
    exact this⟩⟩
theorem reads2 {W : World} {b o : Nat} {d d2 : Int} {v : Value} (h : W.cell? ⟨b, o, none⟩ = some v) (h2 : W.cell? ⟨b, o + 1, none⟩ = some (.int .u8 d2)) : ReadsInt (W.setCell ⟨b, o, none⟩ (.int .u8 d)) .u8 (some ⟨b, o, none⟩) 2 [d, d2] :=
  ⟨rfl, by decide, fun _ => ⟨_, rfl, fun j hj => by
    obtain rfl | rfl : j = 0 ∨ j = 1 := by omega
    · have := World.cell?_setCell_same W ⟨b, o, none⟩ (.int .u8 d) h
      exact this
    · have := World.cell?_setCell_other (w := W) (a := ⟨b, o, none⟩) (b := ⟨b, o + 1, none⟩) (v := .int .u8 d) (h := by intro e; injection e with _ e; omega)
      exact this.trans h2⟩⟩
set_option maxHeartbeats 4000000 in
theorem bits_lo (u : Int) (h1 : 1 ≤ u) (h2 : u < 16) (w : World) (hT : LexTabs w) : Calls Tryd.prog 57 #[.slice none 0 0, .int .u64 u, .int .i64 16, .bool false, .bool false] w fun e w' => e = .returned (.tuple #[.slice none 0 0, .string (strOfNums [dg u])]) ∧ Below w.heap.size w w' := by
  have HT := Lib.hid hT
  have HZ := Lib.hid tz_calls
  have HP := Lib.hid p2_calls
  clear hT
  have hx := bt_at dgs u
  have hy : bt dgs u = dg u := rfl
  rw [hy] at hx
  unfold dgs at hx
  generalize dg u = d at hx
  clear hy
  go_enter Tryd.func57, Tryd.ntmps57
  go_wp2_with fail
  refine (HP.out _).mono ?_
  rintro e w1 ⟨rfl, rfl⟩
  go_wp2_with fail
  refine (HZ.out _ (HT.out.below ((Below.refl _ w).alloc (Nat.le_refl _) _)).2).mono ?_
  rintro e w1 ⟨rfl, rfl⟩
  go_wp2_with fail
  generalize hW : w.alloc (.cells Tryd.zeroCells87 87) = W
  have hb : Below w.heap.size w W := by rw [← hW]; exact (Below.refl _ w).alloc (Nat.le_refl _) _
  have hblk : W.heap[w.heap.size]? = some (.cells Tryd.zeroCells87 87) := by rw [← hW]; exact heap_alloc_new w _
  clear hW
  have c64 : W.cell? ⟨w.heap.size, 64, none⟩ = some (.int .u8 0) := (Joins.cell_of_block hblk 64).trans zero_64
  have f64 : W.frozen? ⟨w.heap.size, 64, none⟩ = false := Joins.unfrozen_of_block hblk 64
  have hrd := reads1 (d := d) c64
  have kc := string_of_reads (P := Tryd.prog) (src := 59) (dst := 9) (c := 1) Tryd.underlying59 Tryd.underlying5 Tryd.underlying9 hrd
  have HB := Lib.hid hb
  have d1 : decide (16 ≤ u) = false := decide_eq_false (by omega)
  have p1 := eq_true (show 0 ≤ u by omega)
  have p2 := eq_true (show u < 36 by omega)
  clear hb hblk hrd h1 h2
  go_loopw [1, 13] (fun v1 v13 wr => v1 = .int .u64 u ∧ v13 = .int .i64 65 ∧ W = wr) (fun _ _ _ => 1)
  case atStart => exact ⟨rfl, rfl, rfl⟩
  case round =>
    obtain ⟨rfl, rfl, rfl⟩ := hrel
    go_wp2_with fail
    go_ret2
    exact ⟨rfl, HB.out.setCell (Nat.le_refl _) _⟩
set_option maxHeartbeats 4000000 in
theorem bits_hi (u : Int) (h1 : 16 ≤ u) (h2 : u < 128) (w : World) (hT : LexTabs w) : Calls Tryd.prog 57 #[.slice none 0 0, .int .u64 u, .int .i64 16, .bool false, .bool false] w fun e w' => e = .returned (.tuple #[.slice none 0 0, .string (strOfNums [dg (u / 16), dg (u % 16)])]) ∧ Below w.heap.size w w' := by
  have HT := Lib.hid hT
  have HZ := Lib.hid tz_calls
  have HP := Lib.hid p2_calls
  clear hT
  have ha := and15 ⟨u.toNat, by omega⟩
  rw [show ((u.toNat : Nat) : Int) = u by omega] at ha
  obtain ⟨q, hq⟩ : ∃ q, u / 16 = q := ⟨_, rfl⟩
  obtain ⟨m, hm⟩ : ∃ m, u % 16 = m := ⟨_, rfl⟩
  rw [hm] at ha
  have hx := bt_at dgs q
  have hx2 := bt_at dgs m
  rw [show bt dgs q = dg q from rfl] at hx
  rw [show bt dgs m = dg m from rfl] at hx2
  unfold dgs at hx hx2
  rw [hq, hm]
  generalize dg q = d at hx ⊢
  generalize dg m = d2 at hx2 ⊢
  go_enter Tryd.func57, Tryd.ntmps57
  go_wp2_with fail
  refine (HP.out _).mono ?_
  rintro e w1 ⟨rfl, rfl⟩
  go_wp2_with fail
  refine (HZ.out _ (HT.out.below ((Below.refl _ w).alloc (Nat.le_refl _) _)).2).mono ?_
  rintro e w1 ⟨rfl, rfl⟩
  go_wp2_with fail
  generalize hW : w.alloc (.cells Tryd.zeroCells87 87) = W
  have hb : Below w.heap.size w W := by rw [← hW]; exact (Below.refl _ w).alloc (Nat.le_refl _) _
  have hblk : W.heap[w.heap.size]? = some (.cells Tryd.zeroCells87 87) := by rw [← hW]; exact heap_alloc_new w _
  clear hW
  have c64 : W.cell? ⟨w.heap.size, 64, none⟩ = some (.int .u8 0) := (Joins.cell_of_block hblk 64).trans zero_64
  have f64 : W.frozen? ⟨w.heap.size, 64, none⟩ = false := Joins.unfrozen_of_block hblk 64
  have c63 : W.cell? ⟨w.heap.size, 63, none⟩ = some (.int .u8 0) := (Joins.cell_of_block hblk 63).trans zero_63
  have f63 : W.frozen? ⟨w.heap.size, 63, none⟩ = false := Joins.unfrozen_of_block hblk 63
  generalize hV : W.setCell ⟨w.heap.size, 64, none⟩ (.int .u8 d2) = V
  have c63 : V.cell? ⟨w.heap.size, 63, none⟩ = some (.int .u8 0) := by rw [← hV, World.cell?_setCell_other (h := by intro e; cases e)]; exact c63
  have v64 : V.cell? ⟨w.heap.size, 64, none⟩ = some (.int .u8 d2) := by rw [← hV]; exact World.cell?_setCell_same _ _ _ c64
  have f63 : V.frozen? ⟨w.heap.size, 63, none⟩ = false := by rw [← hV, World.frozen?_setCell]; exact f63
  have hbV : Below w.heap.size w V := by rw [← hV]; exact hb.setCell (Nat.le_refl _) _
  have hrd := reads2 (d := d) c63 v64
  have kc := string_of_reads (P := Tryd.prog) (src := 59) (dst := 9) (c := 2) Tryd.underlying59 Tryd.underlying5 Tryd.underlying9 hrd
  have HB := Lib.hid hbV
  have HV := Lib.hid hV
  have d1 : decide (16 ≤ u) = true := decide_eq_true (by omega)
  have d2' : decide (16 ≤ q) = false := decide_eq_false (by omega)
  have p1 := eq_true (show 0 ≤ q by omega)
  have p2 := eq_true (show q < 36 by omega)
  have p3 := eq_true (show 0 ≤ m by omega)
  have p4 := eq_true (show m < 36 by omega)
  have HQ := Lib.hid hq
  clear hb hblk hrd h1 h2 hV hbV hq hm v64
  go_loopg [1, 13] 2 (fun gk v1 v13 wr => Hid ((gk = 2 ∧ v1 = .int .u64 u ∧ v13 = .int .i64 65 ∧ W = wr) ∨ (gk = 1 ∧ v1 = .int .u64 q ∧ v13 = .int .i64 64 ∧ V = wr)))
  case atStart => exact Lib.hid (.inl ⟨rfl, rfl, rfl, rfl⟩)
  case round =>
    rcases hrel.out with ⟨rfl, rfl, rfl, rfl⟩ | ⟨rfl, rfl, rfl, rfl⟩
    · have hq := HQ.out
      go_wp2_with fail
      go_roundg 1
      case measure => omega
      case rel => exact Lib.hid (.inr ⟨rfl, rfl, rfl, HV.out.symm⟩)
    · go_wp2_with fail
      go_ret2
      exact ⟨rfl, HB.out.setCell (Nat.le_refl _) _⟩
/-- A small number to the base 16. -/
def hexF (u : Int) : ByteArray := if u < 16 then strOfNums [dg u] else strOfNums [dg (u / 16), dg (u % 16)]
theorem bits_calls (u : Int) (h1 : 1 ≤ u) (h2 : u < 128) (w : World) (hT : LexTabs w) : Calls Tryd.prog 57 #[.slice none 0 0, .int .u64 u, .int .i64 16, .bool false, .bool false] w fun e w' => e = .returned (.tuple #[.slice none 0 0, .string (hexF u)]) ∧ Below w.heap.size w w' := by
  unfold hexF
  by_cases h : u < 16
  · rw [if_pos h]; exact bits_lo u h1 h w hT
  · rw [if_neg h]; exact bits_hi u (by omega) h2 w hT
theorem form_in (u : Int) (h1 : 1 ≤ u) (h2 : u < 128) (w : World) (hT : LexTabs w) : Calls Tryd.prog 41 #[.int .i64 u, .int .i64 16] w fun e w' => e = .returned (.string (hexF u)) ∧ Below w.heap.size w w' := by
  have HB := Lib.hid (bits_calls u h1 h2 w hT)
  have wr : IntKind.u64.wrap u = u := by rw [IntKind.wrap_u64]; omega
  have d1 : decide (u < 0) = false := decide_eq_false (by omega)
  generalize hexF u = s at HB ⊢
  clear h1 h2 hT
  go_enter Tryd.func41, Tryd.ntmps41
  go_wp2_with (go_at_call 57; refine HB.out.mono ?_; rintro e w1 ⟨rfl, hb⟩)
  go_ret
  exact ⟨rfl, hb⟩
theorem form_calls (u : Int) (h1 : 1 ≤ u) (h2 : u < 128) (w : World) (hT : LexTabs w) : Calls Tryd.prog 26 #[.int .i64 u, .int .i64 16] w fun e w' => e = .returned (.string (hexF u)) ∧ Below w.heap.size w w' := by
  have HB := Lib.hid (form_in u h1 h2 w hT)
  have wr : IntKind.u64.wrap u = u := by rw [IntKind.wrap_u64]; omega
  have d1 : decide (u < 0) = false := decide_eq_false (by omega)
  generalize hexF u = s at HB ⊢
  clear h1 h2 hT
  go_enter Tryd.func26, Tryd.ntmps26
  go_wp2_with (go_at_call 41; refine HB.out.mono ?_; rintro e w1 ⟨rfl, hb⟩)
  go_ret
  exact ⟨rfl, hb⟩
end Go.Proofs.YtplkdfkahcpoeaaDoor.P
