/- konst.row goes through all 56 constants: what holds at each holds at the end. Conditions: the closure's own contract, round by round. -/
import Derived.Test.YticfflihniifaaaPx0
import Derived.Lib.Hide
import Derived.OneCell
import Derived.WalkLawsBesides
import Derived.WalkSpells
namespace Go.Proofs.Yticfflihniifaaa.P
open Go.RowKit Go.Proofs.YticfflihniifaaaW.PrintWords Go.Proofs.YticfflihniifaaaW.PrintLast Go.Proofs.YticfflihniifaaaW.PrintMore
set_option linter.unusedVariables false
set_option linter.unusedSimpArgs false
def sizeK (k : Nat) : Int := if k = 2 ∨ k = 3 then 2 else -2
def moreK (k : Nat) : Bool := decide (4 ≤ k) && decide (k < 55)
set_option maxHeartbeats 2000000 in
theorem row_sizes (a : Addr) (Inv : Nat → World → Prop)
    (hstep : ∀ k, k < 56 → ∀ w, Inv k w → Calls Try.prog 62 #[.int .i64 k, .int .i64 (sizeK k), .bool (moreK k), .pointer (some a)] w fun e w' => e = .returned (.tuple #[]) ∧ Inv (k + 1) w')
    (w : World) (h : Inv 0 w) : Calls Try.prog 41 #[.func (.func 62) #[] #[.pointer (some a)]] w fun e w' => e = .returned (.tuple #[]) ∧ Inv 56 w' := by
  have HS := Lib.hid hstep
  have H0 := Lib.hid h
  clear hstep h
  go_enter Try.func41, Try.ntmps41
  go_wp2_with fail
  go_loopw [4] (fun i wr => ∃ k : Nat, k ≤ 56 ∧ i = .int .i64 k ∧ Hid (Inv k wr)) (fun i _ => 56 - (intOf i).toNat)
  case atStart => exact ⟨0, by omega, rfl, H0⟩
  case round =>
    clear H0
    obtain ⟨k, hk, rfl, HI⟩ := hrel
    by_cases hlt : k < 56
    · obtain rfl | rfl | hh | hh | rfl : k = 2 ∨ k = 3 ∨ (k < 4 ∧ k ≠ 2 ∧ k ≠ 3) ∨ (4 ≤ k ∧ k < 55) ∨ k = 55 := by omega
      ·
        have hc : Calls Try.prog 62 #[.int .i64 2, .int .i64 2, .bool false, .pointer (some a)] wr fun e w' => e = .returned (.tuple #[]) ∧ Inv (2 + 1) w' := HS.out 2 (by decide) _ HI.out
        have HC := Lib.hid hc
        clear hc
        go_wp2_with fail
        refine HC.out.mono ?_
        rintro e w1 ⟨rfl, hn⟩
        have HN := Lib.hid hn
        clear hn
        go_wp2_with fail
        go_roundw
        case rel => exact ⟨3, by omega, rfl, HN⟩
        case measure => simp [intOf]
      ·
        have hc : Calls Try.prog 62 #[.int .i64 3, .int .i64 2, .bool false, .pointer (some a)] wr fun e w' => e = .returned (.tuple #[]) ∧ Inv (3 + 1) w' := HS.out 3 (by decide) _ HI.out
        have HC := Lib.hid hc
        clear hc
        go_wp2_with fail
        refine HC.out.mono ?_
        rintro e w1 ⟨rfl, hn⟩
        have HN := Lib.hid hn
        clear hn
        go_wp2_with fail
        go_roundw
        case rel => exact ⟨4, by omega, rfl, HN⟩
        case measure => simp [intOf]
      · obtain ⟨hh1, hh2, hh3⟩ := hh
        have hc : Calls Try.prog 62 #[.int .i64 k, .int .i64 (-2), .bool false, .pointer (some a)] wr fun e w' => e = .returned (.tuple #[]) ∧ Inv (k + 1) w' := by have := HS.out k hlt _ HI.out; rwa [show sizeK k = (-2) from if_neg (by omega), show moreK k = false from by simp [moreK]; omega] at this
        have HC := Lib.hid hc
        clear hc
        have t2 : ((k : Int) == 2) = false := by simp; omega
        have t3 : ((k : Int) == 3) = false := by simp; omega
        have hh4 : (k : Int) < 4 := by omega
        clear hh1 hh2 hh3
        go_wp2_with fail
        refine HC.out.mono ?_
        rintro e w1 ⟨rfl, hn⟩
        have HN := Lib.hid hn
        clear hn
        go_wp2_with fail
        go_roundw
        case rel => exact ⟨k + 1, by omega, by go_num, HN⟩
        case measure => simp [intOf]; omega
      · obtain ⟨hh1, hh2⟩ := hh
        have hc : Calls Try.prog 62 #[.int .i64 k, .int .i64 (-2), .bool true, .pointer (some a)] wr fun e w' => e = .returned (.tuple #[]) ∧ Inv (k + 1) w' := by have := HS.out k hlt _ HI.out; rwa [show sizeK k = (-2) from if_neg (by omega), show moreK k = true from by simp [moreK]; omega] at this
        have HC := Lib.hid hc
        clear hc
        have t2 : ((k : Int) == 2) = false := by simp; omega
        have t3 : ((k : Int) == 3) = false := by simp; omega
        have hh4 : 4 ≤ (k : Int) := by omega
        have hh5 : (k : Int) < 55 := by omega
        clear hh1 hh2
        go_wp2_with fail
        refine HC.out.mono ?_
        rintro e w1 ⟨rfl, hn⟩
        have HN := Lib.hid hn
        clear hn
        go_wp2_with fail
        go_roundw
        case rel => exact ⟨k + 1, by omega, by go_num, HN⟩
        case measure => simp [intOf]; omega
      ·
        have hc : Calls Try.prog 62 #[.int .i64 55, .int .i64 (-2), .bool false, .pointer (some a)] wr fun e w' => e = .returned (.tuple #[]) ∧ Inv (55 + 1) w' := HS.out 55 (by decide) _ HI.out
        have HC := Lib.hid hc
        clear hc
        go_wp2_with fail
        refine HC.out.mono ?_
        rintro e w1 ⟨rfl, hn⟩
        have HN := Lib.hid hn
        clear hn
        go_wp2_with fail
        go_roundw
        case rel => exact ⟨56, by omega, rfl, HN⟩
        case measure => simp [intOf]
    · obtain rfl : k = 56 := by omega
      go_wp2_with fail
      first | go_end0 | refine bodyPost_ret (results_none rfl _ _ _) rfl ?_
      exact ⟨rfl, HI.out⟩
set_option maxHeartbeats 2000000 in
theorem row_put (a : Addr) (b : Addr) (Inv : Nat → World → Prop)
    (hstep : ∀ k, k < 56 → ∀ w, Inv k w → Calls Try.prog 42 #[.int .i64 k, .int .i64 (sizeK k), .bool (moreK k), .pointer (some a), .pointer (some b)] w fun e w' => e = .returned (.tuple #[]) ∧ Inv (k + 1) w')
    (w : World) (h : Inv 0 w) : Calls Try.prog 41 #[.func (.func 42) #[] #[.pointer (some a), .pointer (some b)]] w fun e w' => e = .returned (.tuple #[]) ∧ Inv 56 w' := by
  have HS := Lib.hid hstep
  have H0 := Lib.hid h
  clear hstep h
  go_enter Try.func41, Try.ntmps41
  go_wp2_with fail
  go_loopw [4] (fun i wr => ∃ k : Nat, k ≤ 56 ∧ i = .int .i64 k ∧ Hid (Inv k wr)) (fun i _ => 56 - (intOf i).toNat)
  case atStart => exact ⟨0, by omega, rfl, H0⟩
  case round =>
    clear H0
    obtain ⟨k, hk, rfl, HI⟩ := hrel
    by_cases hlt : k < 56
    · obtain rfl | rfl | hh | hh | rfl : k = 2 ∨ k = 3 ∨ (k < 4 ∧ k ≠ 2 ∧ k ≠ 3) ∨ (4 ≤ k ∧ k < 55) ∨ k = 55 := by omega
      ·
        have hc : Calls Try.prog 42 #[.int .i64 2, .int .i64 2, .bool false, .pointer (some a), .pointer (some b)] wr fun e w' => e = .returned (.tuple #[]) ∧ Inv (2 + 1) w' := HS.out 2 (by decide) _ HI.out
        have HC := Lib.hid hc
        clear hc
        go_wp2_with fail
        refine HC.out.mono ?_
        rintro e w1 ⟨rfl, hn⟩
        have HN := Lib.hid hn
        clear hn
        go_wp2_with fail
        go_roundw
        case rel => exact ⟨3, by omega, rfl, HN⟩
        case measure => simp [intOf]
      ·
        have hc : Calls Try.prog 42 #[.int .i64 3, .int .i64 2, .bool false, .pointer (some a), .pointer (some b)] wr fun e w' => e = .returned (.tuple #[]) ∧ Inv (3 + 1) w' := HS.out 3 (by decide) _ HI.out
        have HC := Lib.hid hc
        clear hc
        go_wp2_with fail
        refine HC.out.mono ?_
        rintro e w1 ⟨rfl, hn⟩
        have HN := Lib.hid hn
        clear hn
        go_wp2_with fail
        go_roundw
        case rel => exact ⟨4, by omega, rfl, HN⟩
        case measure => simp [intOf]
      · obtain ⟨hh1, hh2, hh3⟩ := hh
        have hc : Calls Try.prog 42 #[.int .i64 k, .int .i64 (-2), .bool false, .pointer (some a), .pointer (some b)] wr fun e w' => e = .returned (.tuple #[]) ∧ Inv (k + 1) w' := by have := HS.out k hlt _ HI.out; rwa [show sizeK k = (-2) from if_neg (by omega), show moreK k = false from by simp [moreK]; omega] at this
        have HC := Lib.hid hc
        clear hc
        have t2 : ((k : Int) == 2) = false := by simp; omega
        have t3 : ((k : Int) == 3) = false := by simp; omega
        have hh4 : (k : Int) < 4 := by omega
        clear hh1 hh2 hh3
        go_wp2_with fail
        refine HC.out.mono ?_
        rintro e w1 ⟨rfl, hn⟩
        have HN := Lib.hid hn
        clear hn
        go_wp2_with fail
        go_roundw
        case rel => exact ⟨k + 1, by omega, by go_num, HN⟩
        case measure => simp [intOf]; omega
      · obtain ⟨hh1, hh2⟩ := hh
        have hc : Calls Try.prog 42 #[.int .i64 k, .int .i64 (-2), .bool true, .pointer (some a), .pointer (some b)] wr fun e w' => e = .returned (.tuple #[]) ∧ Inv (k + 1) w' := by have := HS.out k hlt _ HI.out; rwa [show sizeK k = (-2) from if_neg (by omega), show moreK k = true from by simp [moreK]; omega] at this
        have HC := Lib.hid hc
        clear hc
        have t2 : ((k : Int) == 2) = false := by simp; omega
        have t3 : ((k : Int) == 3) = false := by simp; omega
        have hh4 : 4 ≤ (k : Int) := by omega
        have hh5 : (k : Int) < 55 := by omega
        clear hh1 hh2
        go_wp2_with fail
        refine HC.out.mono ?_
        rintro e w1 ⟨rfl, hn⟩
        have HN := Lib.hid hn
        clear hn
        go_wp2_with fail
        go_roundw
        case rel => exact ⟨k + 1, by omega, by go_num, HN⟩
        case measure => simp [intOf]; omega
      ·
        have hc : Calls Try.prog 42 #[.int .i64 55, .int .i64 (-2), .bool false, .pointer (some a), .pointer (some b)] wr fun e w' => e = .returned (.tuple #[]) ∧ Inv (55 + 1) w' := HS.out 55 (by decide) _ HI.out
        have HC := Lib.hid hc
        clear hc
        go_wp2_with fail
        refine HC.out.mono ?_
        rintro e w1 ⟨rfl, hn⟩
        have HN := Lib.hid hn
        clear hn
        go_wp2_with fail
        go_roundw
        case rel => exact ⟨56, by omega, rfl, HN⟩
        case measure => simp [intOf]
    · obtain rfl : k = 56 := by omega
      go_wp2_with fail
      first | go_end0 | refine bodyPost_ret (results_none rfl _ _ _) rfl ?_
      exact ⟨rfl, HI.out⟩
end Go.Proofs.Yticfflihniifaaa.P
