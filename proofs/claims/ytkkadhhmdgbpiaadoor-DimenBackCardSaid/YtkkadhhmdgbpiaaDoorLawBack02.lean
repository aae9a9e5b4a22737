/- DimenBack, walked. -/
import Derived.Test.YtkkadhhmdgbpiaaDoorDimTold
import Derived.Test.YtkkadhhmdgbpiaaDoorRead02
import Derived.Test.YtkkadhhmdgbpiaaDoorFloat3
namespace Go.Proofs.YtkkadhhmdgbpiaaDoor.P
open Go.RowKit Go.Proofs.YtkkadhhmdgbpiaaDoorW.PrintWords Go.Proofs.YtkkadhhmdgbpiaaDoorW.PrintLast Go.Proofs.YtkkadhhmdgbpiaaDoorW.PrintMore
set_option linter.unusedVariables false
set_option linter.unusedSimpArgs false
attribute [local go_sem] max2_int min2_int max_two min_two max_three min_three max_four min_four
theorem lenB_iff (a : Int) : lenB a = true ↔ -1073741823 ≤ a ∧ a ≤ 1073741823 := by
  unfold lenB
  simp
theorem textE_size (a : Int) (h : lenB a = true) : (textE a).1.size ≤ 100 := by
  have h' := (lenB_iff a).1 h
  rw [DC.textE_bytes a h']
  have := kf_le (a.natAbs % 65536) 4 1
  obtain ⟨_, _, d3, _⟩ := DC.decDigits_from 4 (a.natAbs / 65536) (by omega)
  show (DC.txt _ _ _ _).toArray.size ≤ 100
  unfold DC.txt
  simp only [List.size_toArray, List.length_append, List.length_cons, DC.dig_len, List.length_nil]
  have : (if decide (a < 0) = true then [(45 : UInt8)] else []).length ≤ 1 := by split <;> simp
  omega
set_option maxHeartbeats 2000000 in
theorem back_calls (a : Int) (w : World) (ht : DimTabs w) : Calls Tryd.prog 5 #[.int .i64 a] w fun e w' => e = .returned (.bool true) ∧ Below w.heap.size w w' := by
  have h7 : ∀ w1, Below w.heap.size w w1 → Calls Tryd.prog 9 #[] w1 fun e w' => e = .returned (.bool true) ∧ Below w.heap.size w w' := fun w1 hb => (told_calls w1 (ht.below hb)).mono fun e w2 h => ⟨h.1, hb.trans (h.2.mono hb.size)⟩
  have hi : ∀ w1, Below w.heap.size w w1 → Calls Tryd.prog 12 #[.slice (some ⟨w1.heap.size, 0, none⟩) 1 1] (w1.alloc (.cells #[.int .i64 a] 3)) fun e w' => e = .returned (.bool (lenB a)) ∧ Below w.heap.size w w' := fun w1 hb => (is_calls a w1 _ rfl).mono fun e w2 h => ⟨h.1, (hb.alloc hb.size _).trans (h.2.below.mono (by have := hb.size; simp; omega))⟩
  cases hl : lenB a
  · have h4 : ∀ w1, Below w.heap.size w w1 → Calls Tryd.prog 8 #[.int .i64 a] w1 fun e w' => e = .returned (.tuple #[.string ⟨#[]⟩, .int .i64 1]) ∧ Below w.heap.size w w' := fun w1 hb => (Text_calls a w1 (ht.below hb)).mono fun e w2 h => ⟨by rw [h.1]; unfold textE; rw [hl, if_neg (by decide)], hb.trans (h.2.mono hb.size)⟩
    have h2 : ∀ w1, Below w.heap.size w w1 → Calls Tryd.prog 13 #[.int .i64 a] w1 fun e w' => e = .returned (.tuple #[.float .f64 0, .int .i64 1]) ∧ Below w.heap.size w w' := fun w1 hb => (float_calls a w1 (fun h => by rw [hl] at h; cases h)).mono fun e w2 h => ⟨by rw [h.1, hl, if_neg (by decide), if_neg (by decide)], hb.trans (h.2.mono hb.size)⟩
    have h8 := fun w1 => same_calls 0 0 w1
    rw [show ((0 : Nat) == 0) = true from rfl] at h8
    rw [hl] at hi
    have H2 := Lib.hid h2
    have H4 := Lib.hid h4
    have H7 := Lib.hid h7
    have H8 := Lib.hid h8
    have HI := Lib.hid hi
    have hb : Below w.heap.size w w := Below.refl _ _
    clear h2 h4 h7 h8 hi ht hl
    go_enter Tryd.func5, Tryd.ntmps5
    go_wp2_with (first
      | (go_at_call 13; with_reducible refine (H2.out _ hb).mono ?_; rintro e w1 ⟨rfl, hb⟩)
      | (go_at_call 8; with_reducible refine (H4.out _ hb).mono ?_; rintro e w1 ⟨rfl, hb⟩)
      | (go_at_call 12; refine (HI.out _ hb).mono ?_; rintro e w1 ⟨rfl, hb⟩)
      | (go_at_call 9; with_reducible refine (H7.out _ hb).mono ?_; rintro e w1 ⟨rfl, hb⟩)
      | (go_at_call 14; with_reducible refine (H8.out _).mono ?_; rintro e w1 ⟨rfl, hd⟩; replace hb := hb.trans (hd.below.mono hb.size)))
    go_ret
    exact ⟨rfl, hb⟩
  · have hr := (lenB_iff a).1 hl
    obtain ⟨f1, f2⟩ := FL.float_back a hr
    have hsz := textE_size a hl
    have h4 : ∀ w1, Below w.heap.size w w1 → Calls Tryd.prog 8 #[.int .i64 a] w1 fun e w' => e = .returned (.tuple #[.string (textE a).1, .int .i64 0]) ∧ Below w.heap.size w w' := fun w1 hb => (Text_calls a w1 (ht.below hb)).mono fun e w2 h => ⟨by rw [h.1, show (textE a).2 = 0 by unfold textE; rw [if_pos hl]], hb.trans (h.2.mono hb.size)⟩
    have h2 : ∀ w1, Below w.heap.size w w1 → Calls Tryd.prog 13 #[.int .i64 a] w1 fun e w' => e = .returned (.tuple #[.float .f64 (floatB a), .int .i64 0]) ∧ Below w.heap.size w w' := fun w1 hb => (float_calls a w1 (fun _ => (FL.ofInt_parts a (by omega)).2.1)).mono fun e w2 h => ⟨by rw [h.1, hl, if_pos rfl, if_pos rfl], hb.trans (h.2.mono hb.size)⟩
    have h6 : ∀ w1, Below w.heap.size w w1 → Calls Tryd.prog 10 #[.string (textE a).1] w1 fun e w' => e = .returned (.tuple #[.int .i64 a, .int .i64 0]) ∧ Below w.heap.size w w' := fun w1 hb => (parse_calls (textE a).1 w1 (ht.below hb) (by omega)).mono fun e w2 h => ⟨by rw [h.1, DC.text_back a hr], hb.trans (h.2.mono hb.size)⟩
    have h1 : ∀ w1, Below w.heap.size w w1 → Calls Tryd.prog 11 #[.float .f64 (floatB a)] w1 fun e w' => e = .returned (.tuple #[.int .i64 a, .int .i64 0]) ∧ Below w.heap.size w w' := fun w1 hb => (of_calls (floatB a) w1).mono fun e w2 h => ⟨by rw [h.1, f2], hb.trans (h.2.mono hb.size)⟩
    rw [hl] at hi
    generalize floatB a = F at *
    generalize (textE a).1 = S at *
    have H1 := Lib.hid h1
    have H2 := Lib.hid h2
    have H4 := Lib.hid h4
    have H6 := Lib.hid h6
    have H7 := Lib.hid h7
    have HI := Lib.hid hi
    have hb : Below w.heap.size w w := Below.refl _ _
    clear h1 h2 h4 h6 h7 hi ht hl f1 f2 hsz hr
    go_enter Tryd.func5, Tryd.ntmps5
    go_wp2_with (first
      | (go_at_call 11; with_reducible refine (H1.out _ hb).mono ?_; rintro e w1 ⟨rfl, hb⟩)
      | (go_at_call 13; with_reducible refine (H2.out _ hb).mono ?_; rintro e w1 ⟨rfl, hb⟩)
      | (go_at_call 8; with_reducible refine (H4.out _ hb).mono ?_; rintro e w1 ⟨rfl, hb⟩)
      | (go_at_call 10; with_reducible refine (H6.out _ hb).mono ?_; rintro e w1 ⟨rfl, hb⟩)
      | (go_at_call 12; refine (HI.out _ hb).mono ?_; rintro e w1 ⟨rfl, hb⟩)
      | (go_at_call 9; with_reducible refine (H7.out _ hb).mono ?_; rintro e w1 ⟨rfl, hb⟩))
    go_ret
    exact ⟨rfl, hb⟩
end Go.Proofs.YtkkadhhmdgbpiaaDoor.P
