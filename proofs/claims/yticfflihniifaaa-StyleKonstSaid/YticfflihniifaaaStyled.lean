/- The fixed example of layer 22: it is told. No condition. -/
import Derived.Test.YticfflihniifaaaFontK
import Derived.Test.YticfflihniifaaaBinRight
namespace Go.Proofs.Yticfflihniifaaa.P
open Go.RowKit Go.Proofs.YticfflihniifaaaW.PrintWords Go.Proofs.YticfflihniifaaaW.PrintLast Go.Proofs.YticfflihniifaaaW.PrintMore
set_option linter.unusedVariables false
set_option linter.unusedSimpArgs false
def LK : List Int := 70 :: 50 :: 0 :: 0 :: 0 :: 250 :: List.replicate 50 0
theorem sz1 : szV LK 4 1000 = (700, 0) := by decide +kernel
theorem sz2 : szV LK 8 1000 = (0, 1) := by decide +kernel
theorem ko1 : koV 1000 1 1 0 0 LK 5 6 8000 = (1000, 0) := by decide +kernel
def vinculumlaw22_styled.f : Option Bool := some true
theorem LK_len : LK.length = 56 := by decide
theorem s_size1 (g : Nat) (W : World) (h : Kd.C (Kd.int .i64) W (some ⟨g, 0, none⟩) 56 LK) : Calls Try.prog 8 #[.slice (some ⟨g, 0, none⟩) 56 56, .int .i64 4, .int .i64 1000] W fun e w' => e = .returned (.tuple #[.int .i64 700, .int .i64 0]) ∧ Below W.heap.size W w' := by
  have := size_calls (some ⟨g, 0, none⟩) 56 LK 4 1000 W (by rw [LK_len]; exact h) (by rw [LK_len]; omega) (by rw [LK_len]; omega)
  rw [sz1, LK_len] at this; exact this
theorem s_size2 (g : Nat) (W : World) (h : Kd.C (Kd.int .i64) W (some ⟨g, 0, none⟩) 56 LK) : Calls Try.prog 8 #[.slice (some ⟨g, 0, none⟩) 56 56, .int .i64 8, .int .i64 1000] W fun e w' => e = .returned (.tuple #[.int .i64 0, .int .i64 1]) ∧ Below W.heap.size W w' := by
  have := size_calls (some ⟨g, 0, none⟩) 56 LK 8 1000 W (by rw [LK_len]; exact h) (by rw [LK_len]; omega) (by rw [LK_len]; omega)
  rw [sz2, LK_len] at this; exact this
theorem s_konst (g : Nat) (W : World) (h : Kd.C (Kd.int .i64) W (some ⟨g, 0, none⟩) 56 LK) : Calls Try.prog 7 #[.agg #[.int .i64 1000, .int .i64 1, .int .i64 1, .int .i64 0, .int .i64 0, .bool false, .slice none 0 0, .slice none 0 0, .slice none 0 0, .slice (some ⟨g, 0, none⟩) 56 56, .slice none 0 0, .slice none 0 0, .slice none 0 0, .slice none 0 0, .int .i64 0, .slice none 0 0, .slice none 0 0], .int .i64 5, .int .i64 6, .int .i64 8000] W
    fun e w' => e = .returned (.tuple #[.int .i64 1000, .int .i64 0]) ∧ Below W.heap.size W w' := by
  have := konst_calls 1000 1 1 0 0 false (.slice none 0 0) (.slice none 0 0) (.slice none 0 0) (.slice none 0 0) (.slice none 0 0) (.slice none 0 0) (.slice none 0 0) (.int .i64 0) (.slice none 0 0) (.slice none 0 0) (some ⟨g, 0, none⟩) 56 LK 5 6 8000 W (by rw [LK_len]; exact h) (by rw [LK_len]; omega) (by rw [LK_len]; omega)
  rw [ko1, LK_len] at this; exact this
theorem s_row (MC : Array Value) (h : MC = (LK.map (Value.int .i64)).toArray) (w : World) : Kd.C (Kd.int .i64) (w.alloc (.cells MC 3)) (some ⟨w.heap.size, 0, none⟩) 56 LK := by
  have := K_row LK (w.alloc (.cells MC 3)) w.heap.size (by rw [LK_len]; omega) (fun j hj => by
    simp only [World.cell?, heap_alloc_new]
    rw [h]
    simp [List.getD, List.getElem?_eq_getElem hj])
  rw [LK_len] at this; exact this
set_option maxHeartbeats 4000000 in
theorem styled_true (w : World) : Calls Try.prog 9 #[] w fun e w' => e = .returned (.bool true) ∧ Below w.heap.size w w' := by
  have hmk : ∀ W : World, (Instr.makeSlice 27 (.int .i64 56) (.int .i64 56)).run Try.prog W = .ok (.slice (some ⟨W.heap.size, 0, none⟩) 56 56) (W.alloc (.cells (madeCells #[.int .i64 0] 56) 3)) :=
    print_make 27 3 .i64 8 (by kernel_rfl) (by kernel_rfl) (by decide) 56 (by decide)
  have hm0 : (madeCells #[.int .i64 0] 56)[0]? = some (Value.int .i64 0) := by kernel_rfl
  have hm1 : (madeCells #[.int .i64 0] 56)[1]? = some (Value.int .i64 0) := by kernel_rfl
  have hm5 : (madeCells #[.int .i64 0] 56)[5]? = some (Value.int .i64 0) := by kernel_rfl
  have hms : ((((madeCells #[.int .i64 0] 56).setIfInBounds 0 (.int .i64 70)).setIfInBounds 1 (.int .i64 50)).setIfInBounds 5 (.int .i64 250)) = (LK.map (Value.int .i64)).toArray := by kernel_rfl
  generalize madeCells #[.int .i64 0] 56 = MC at hmk hm0 hm1 hm5 hms
  have HMS := Lib.hid hms
  clear hms
  go_enter Try.func9, Try.ntmps9
  go_wp2_with fail
  clear hmk hm0 hm1 hm5
  generalize ((MC.setIfInBounds 0 (.int .i64 70)).setIfInBounds 1 (.int .i64 50)).setIfInBounds 5 (.int .i64 250) = M2 at HMS ⊢
  have hC := s_row M2 HMS.out w
  have hbl := heap_alloc_new (w.alloc (.cells M2 3)) (.cells #[.int .i64 1000, .int .i64 1, .int .i64 1, .int .i64 0, .int .i64 0, .bool false, .slice none 0 0, .slice none 0 0, .slice none 0 0, .slice (some ⟨w.heap.size, 0, none⟩) 56 56, .slice none 0 0, .slice none 0 0, .slice none 0 0, .slice none 0 0, .int .i64 0, .slice none 0 0, .slice none 0 0] 36)
  have hC1 := Kd.C_alloc hC (.cells #[.int .i64 1000, .int .i64 1, .int .i64 1, .int .i64 0, .int .i64 0, .bool false, .slice none 0 0, .slice none 0 0, .slice none 0 0, .slice (some ⟨w.heap.size, 0, none⟩) 56 56, .slice none 0 0, .slice none 0 0, .slice none 0 0, .slice none 0 0, .int .i64 0, .slice none 0 0, .slice none 0 0] 36)
  have hB0 : Below w.heap.size w ((w.alloc (.cells M2 3)).alloc (.cells #[.int .i64 1000, .int .i64 1, .int .i64 1, .int .i64 0, .int .i64 0, .bool false, .slice none 0 0, .slice none 0 0, .slice none 0 0, .slice (some ⟨w.heap.size, 0, none⟩) 56 56, .slice none 0 0, .slice none 0 0, .slice none 0 0, .slice none 0 0, .int .i64 0, .slice none 0 0, .slice none 0 0] 36)) := ((Below.refl w.heap.size w).alloc (Nat.le_refl _) _).alloc (by simp) _
  generalize (w.alloc (.cells M2 3)).alloc (.cells #[.int .i64 1000, .int .i64 1, .int .i64 1, .int .i64 0, .int .i64 0, .bool false, .slice none 0 0, .slice none 0 0, .slice none 0 0, .slice (some ⟨w.heap.size, 0, none⟩) 56 56, .slice none 0 0, .slice none 0 0, .slice none 0 0, .slice none 0 0, .int .i64 0, .slice none 0 0, .slice none 0 0] 36) = W0 at hbl hC1 hB0 ⊢
  simp only [World.size_alloc] at hbl
  refine (s_size1 w.heap.size W0 hC1).mono ?_
  rintro e w1 ⟨rfl, hb1⟩
  have hb1l := (hb1.block (w.heap.size + 1) (blk_lt hbl)).trans hbl
  have q0 : w1.cell? ⟨w.heap.size + 1, 0, none⟩ = some (.int .i64 1000) := Joins.cell_of_block hb1l 0
  have q1 : w1.cell? ⟨w.heap.size + 1, 1, none⟩ = some (.int .i64 1) := Joins.cell_of_block hb1l 1
  have q2 : w1.cell? ⟨w.heap.size + 1, 2, none⟩ = some (.int .i64 1) := Joins.cell_of_block hb1l 2
  have q3 : w1.cell? ⟨w.heap.size + 1, 3, none⟩ = some (.int .i64 0) := Joins.cell_of_block hb1l 3
  have q4 : w1.cell? ⟨w.heap.size + 1, 4, none⟩ = some (.int .i64 0) := Joins.cell_of_block hb1l 4
  have q5 : w1.cell? ⟨w.heap.size + 1, 5, none⟩ = some (.bool false) := Joins.cell_of_block hb1l 5
  have q6 : w1.cell? ⟨w.heap.size + 1, 6, none⟩ = some (.slice none 0 0) := Joins.cell_of_block hb1l 6
  have q7 : w1.cell? ⟨w.heap.size + 1, 7, none⟩ = some (.slice none 0 0) := Joins.cell_of_block hb1l 7
  have q8 : w1.cell? ⟨w.heap.size + 1, 8, none⟩ = some (.slice none 0 0) := Joins.cell_of_block hb1l 8
  have q9 : w1.cell? ⟨w.heap.size + 1, 9, none⟩ = some (.slice (some ⟨w.heap.size, 0, none⟩) 56 56) := Joins.cell_of_block hb1l 9
  have q10 : w1.cell? ⟨w.heap.size + 1, 10, none⟩ = some (.slice none 0 0) := Joins.cell_of_block hb1l 10
  have q11 : w1.cell? ⟨w.heap.size + 1, 11, none⟩ = some (.slice none 0 0) := Joins.cell_of_block hb1l 11
  have q12 : w1.cell? ⟨w.heap.size + 1, 12, none⟩ = some (.slice none 0 0) := Joins.cell_of_block hb1l 12
  have q13 : w1.cell? ⟨w.heap.size + 1, 13, none⟩ = some (.slice none 0 0) := Joins.cell_of_block hb1l 13
  have q14 : w1.cell? ⟨w.heap.size + 1, 14, none⟩ = some (.int .i64 0) := Joins.cell_of_block hb1l 14
  have q15 : w1.cell? ⟨w.heap.size + 1, 15, none⟩ = some (.slice none 0 0) := Joins.cell_of_block hb1l 15
  have q16 : w1.cell? ⟨w.heap.size + 1, 16, none⟩ = some (.slice none 0 0) := Joins.cell_of_block hb1l 16
  have HC2 := Lib.hid (Kd.C_below hC1 hb1)
  have HB1 := Lib.hid (hB0.trans (hb1.mono hB0.size))
  clear hbl hC1 hB0 hC hb1l hb1
  go_wp2_with fail
  refine (s_konst w.heap.size w1 HC2.out).mono ?_
  rintro e w2 ⟨rfl, hb2⟩
  have HC3 := Lib.hid (Kd.C_below HC2.out hb2)
  have HB2 := Lib.hid (HB1.out.trans (hb2.mono HB1.out.size))
  clear hb2 HB1 HC2 q0 q1 q2 q3 q4 q5 q6 q7 q8 q9 q10 q11 q12 q13 q14 q15 q16
  go_wp2_with fail
  refine (s_size2 w.heap.size w2 HC3.out).mono ?_
  rintro e w3 ⟨rfl, hb3⟩
  have HB3 := Lib.hid (HB2.out.trans (hb3.mono HB2.out.size))
  clear hb3 HB2 HC3
  go_wp2_with (first
    | (go_at_call 16; refine (style_Is.calls 7 true _ rfl).mono ?_; rintro e w4 ⟨rfl, hd⟩; have HB4 := Lib.hid (HB3.out.trans (hd.below.mono HB3.out.size)); clear hd HB3)
    | (go_at_call 16; refine (style_Is.calls 8 false _ rfl).mono ?_; rintro e w5 ⟨rfl, hd⟩; have HB5 := Lib.hid (HB4.out.trans (hd.below.mono HB4.out.size)); clear hd HB4)
    | (go_at_call 19; refine (style_Sup.calls 1 5 _ rfl).mono ?_; rintro e w6 ⟨rfl, hb⟩; have HB6 := Lib.hid (HB5.out.trans (hb.mono HB5.out.size)); clear hb HB5)
    | (go_at_call 25; refine (style_Den.calls 0 3 _ rfl).mono ?_; rintro e w7 ⟨rfl, hb⟩; have HB7 := Lib.hid (HB6.out.trans (hb.mono HB6.out.size)); clear hb HB6))
  go_ret
  exact ⟨rfl, HB7.out⟩
theorem vinculumlaw22_styled.calls (r : Bool) (w : World) (h : vinculumlaw22_styled.f = some r) : Calls Try.prog 9 #[] w fun e w' => e = .returned (.bool r) ∧ Below w.heap.size w w' := by
  obtain rfl := Option.some.inj h
  exact styled_true w
end Go.Proofs.Yticfflihniifaaa.P
