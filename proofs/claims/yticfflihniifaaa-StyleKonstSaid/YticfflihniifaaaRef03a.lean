/- What the plain functions of the reference of layer 3 answer: sizes, powers, one number, two rows. Conditions: rows of fewer than 2^40 numbers, texts of at most four bytes for one number. -/
import Derived.Test.YticfflihniifaaaBinRight
import Derived.Test.YticfflihniifaaaBeNum
import Derived.Test.YticfflihniifaaaPx2
import Derived.Test.YticfflihniifaaaPx2
namespace Go.Proofs.Yticfflihniifaaa.P
open Go.RowKit Go.Proofs.YticfflihniifaaaW.PrintWords Go.Proofs.YticfflihniifaaaW.PrintLast Go.Proofs.YticfflihniifaaaW.PrintMore Go.Proofs.Yticfflihniifaaa.BN
set_option linter.unusedVariables false
set_option linter.unusedSimpArgs false

theorem ref_wide (n : Int) (h : sizeB n = true) : vinculumref03_Wide.f n = some (n.natAbs : Int) := by
  simp only [sizeB, Bool.and_eq_true, decide_eq_true_eq] at h
  unfold vinculumref03_Wide.f
  by_cases h1 : n < 0
  · rw [if_pos h1, wrap64_small (by omega) (by omega)]; congr 1; omega
  · rw [if_neg h1]; congr 1; omega
theorem ref_power (m : Nat) (h : m ≤ 4) : Ev (fun k => vinculumref03_Power.f k m) (256 ^ m) := by
  refine Ev.of (fun k => vinculumref03_Power.mono m k) (k := 6) ?_
  obtain rfl | rfl | rfl | rfl | rfl : m = 0 ∨ m = 1 ∨ m = 2 ∨ m = 3 ∨ m = 4 := by omega
  all_goals decide +kernel
theorem bt_get (s : ByteArray) (i : Nat) (h : i < s.size) : bt s (i : Int) = (s[i].toNat : Int) := by
  unfold bt
  rw [dif_pos (by simpa using h)]
  rfl
theorem pow_half (m : Nat) (h1 : 1 ≤ m) : (2 : Int) ^ (8 * m) = 2 * 2 ^ (8 * m - 1) := by
  obtain ⟨q, hq⟩ : ∃ q, 8 * m = q + 1 := ⟨8 * m - 1, by omega⟩
  rw [hq, Int.pow_succ', Nat.add_sub_cancel]
theorem pow256' (j : Nat) : (2 : Int) ^ (8 * j) = 256 ^ j := by rw [Int.pow_mul]; rfl
end Go.Proofs.Yticfflihniifaaa.P
