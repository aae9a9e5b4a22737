/- DimenZero, walked. -/
import Derived.Test.YtkkadhhmdgbpiaaDoorDimTold
namespace Go.Proofs.YtkkadhhmdgbpiaaDoor.P
open Go.RowKit Go.Proofs.YtkkadhhmdgbpiaaDoorW.PrintWords Go.Proofs.YtkkadhhmdgbpiaaDoorW.PrintLast Go.Proofs.YtkkadhhmdgbpiaaDoorW.PrintMore
set_option linter.unusedVariables false
set_option linter.unusedSimpArgs false
attribute [local go_sem] max2_int min2_int max_two min_two max_three min_three max_four min_four
theorem copysign_calls (f s : Nat) (w : World) : Calls Tryd.prog 15 #[.float .f64 f, .float .f64 s] w fun e w' => e = .returned (.float .f64 (Go.bits .or .u64 (Go.bits .andNot .u64 (f : Int) 9223372036854775808) (Go.bits .and .u64 (s : Int) 9223372036854775808)).toNat) ∧ Drawn0 w w' := by
  go_enter Tryd.func15, Tryd.ntmps15
  go_wp2
  go_ret
  exact ⟨rfl, by repeat (first | exact Drawn0.refl _ | apply Drawn0.step)⟩
def signB (s : Nat) : Nat := (Go.bits .or .u64 (Go.bits .andNot .u64 0 9223372036854775808) (Go.bits .and .u64 (s : Int) 9223372036854775808)).toNat
theorem sign_cases (s : Nat) (hs : s < 2 ^ 64) : signB s = 0 ∨ signB s = 2 ^ 63 := by
  have h := u64_and_nat s 9223372036854775808 hs (by decide)
  rw [show ((9223372036854775808 : Nat) : Int) = 9223372036854775808 from rfl] at h
  unfold signB
  rw [h, FL.and_top s hs]
  rcases Nat.mod_two_eq_zero_or_one (s / 2 ^ 63) with h | h <;> rw [h]
  · left; decide
  · right; decide
theorem of_zero (s : Nat) (hs : s < 2 ^ 64) : prodB (signB s) 4679240012837945344 = (0, 0) := by
  rcases sign_cases s hs with h | h <;> rw [h] <;> decide +kernel
theorem text_zero : textE 0 = (⟨#[48, 46, 48, 112, 116]⟩, 0) := by
  have : textN 0 = [48, 46, 48, 112, 116] := by decide +kernel
  unfold textE
  rw [show lenB 0 = true by decide, if_pos rfl, if_neg (by decide), show (0 : Int).natAbs = 0 from rfl, this]
theorem parse_minus : parseE ⟨#[45, 48, 46, 48, 112, 116]⟩ = (0, 0) := by decide +kernel
theorem float_zero : floatB 0 = 0 := by decide +kernel
set_option maxHeartbeats 2000000 in
theorem zero_calls (f : Nat) (hf : f < 2 ^ 64) (w : World) (ht : DimTabs w) : Calls Tryd.prog 6 #[.float .f64 f] w fun e w' => e = .returned (.bool true) ∧ Below w.heap.size w w' := by
  have h1 : ∀ w1, Below w.heap.size w w1 → Calls Tryd.prog 11 #[.float .f64 (signB f)] w1 fun e w' => e = .returned (.tuple #[.int .i64 0, .int .i64 0]) ∧ Below w.heap.size w w' := fun w1 hb => (of_calls (signB f) w1).mono fun e w2 h => ⟨by rw [h.1, of_zero f hf], hb.trans (h.2.mono hb.size)⟩
  have hc : ∀ w1, Calls Tryd.prog 15 #[.float .f64 0, .float .f64 f] w1 fun e w' => e = .returned (.float .f64 (signB f)) ∧ Drawn0 w1 w' := fun w1 => copysign_calls 0 f w1
  have h2 : ∀ w1, Below w.heap.size w w1 → Calls Tryd.prog 13 #[.int .i64 0] w1 fun e w' => e = .returned (.tuple #[.float .f64 0, .int .i64 0]) ∧ Below w.heap.size w w' := fun w1 hb => (float_calls 0 w1 (fun _ => by decide)).mono fun e w2 h => ⟨by rw [h.1, show lenB 0 = true by decide, if_pos rfl, if_pos rfl, float_zero], hb.trans (h.2.mono hb.size)⟩
  have h4 : ∀ w1, Below w.heap.size w w1 → Calls Tryd.prog 8 #[.int .i64 0] w1 fun e w' => e = .returned (.tuple #[.string ⟨#[48, 46, 48, 112, 116]⟩, .int .i64 0]) ∧ Below w.heap.size w w' := fun w1 hb => (Text_calls 0 w1 (ht.below hb)).mono fun e w2 h => ⟨by rw [h.1, text_zero], hb.trans (h.2.mono hb.size)⟩
  have h6 : ∀ w1, Below w.heap.size w w1 → Calls Tryd.prog 10 #[.string ⟨#[45, 48, 46, 48, 112, 116]⟩] w1 fun e w' => e = .returned (.tuple #[.int .i64 0, .int .i64 0]) ∧ Below w.heap.size w w' := fun w1 hb => (parse_calls ⟨#[45, 48, 46, 48, 112, 116]⟩ w1 (ht.below hb) (by decide)).mono fun e w2 h => ⟨by rw [h.1, parse_minus], hb.trans (h.2.mono hb.size)⟩
  have h7 : ∀ w1, Below w.heap.size w w1 → Calls Tryd.prog 9 #[] w1 fun e w' => e = .returned (.bool true) ∧ Below w.heap.size w w' := fun w1 hb => (told_calls w1 (ht.below hb)).mono fun e w2 h => ⟨h.1, hb.trans (h.2.mono hb.size)⟩
  have h8 := fun w1 => same_calls 0 0 w1
  rw [show ((0 : Nat) == 0) = true from rfl] at h8
  have H1 := Lib.hid h1
  have H2 := Lib.hid h2
  have H4 := Lib.hid h4
  have H6 := Lib.hid h6
  have H7 := Lib.hid h7
  have H8 := Lib.hid h8
  have HC := Lib.hid hc
  have hb : Below w.heap.size w w := Below.refl _ _
  clear h1 h2 h4 h6 h7 h8 hc ht hf
  generalize signB f = S at *
  go_enter Tryd.func6, Tryd.ntmps6
  go_wp2_with (first
    | (go_at_call 15; with_reducible refine (HC.out _).mono ?_; rintro e w1 ⟨rfl, hd⟩; replace hb := hd.below)
    | (go_at_call 11; with_reducible refine (H1.out _ (by first | exact hb | exact (Drawn0.below (by repeat (first | exact Drawn0.refl _ | apply Drawn0.step))).trans hb)).mono ?_; rintro e w1 ⟨rfl, hb⟩)
    | (go_at_call 13; with_reducible refine (H2.out _ hb).mono ?_; rintro e w1 ⟨rfl, hb⟩)
    | (go_at_call 8; with_reducible refine (H4.out _ hb).mono ?_; rintro e w1 ⟨rfl, hb⟩)
    | (go_at_call 10; with_reducible refine (H6.out _ hb).mono ?_; rintro e w1 ⟨rfl, hb⟩)
    | (go_at_call 9; with_reducible refine (H7.out _ hb).mono ?_; rintro e w1 ⟨rfl, hb⟩)
    | (go_at_call 14; with_reducible refine (H8.out _).mono ?_; rintro e w1 ⟨rfl, hd⟩; replace hb := hb.trans (hd.below.mono hb.size)))
  go_ret
  exact ⟨rfl, hb⟩
end Go.Proofs.YtkkadhhmdgbpiaaDoor.P
