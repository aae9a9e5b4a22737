/- What Round does to a float's value: to the nearest whole number, half away from nought. Plain, over the code's own function of bits. -/
import Derived.Test.YtkkadhhmdgbpiaaGreatDoorDimNear
import Derived.Test.YtkkadhhmdgbpiaaGreatDoorFloat
import Derived.Laws.BitsAllLaws
namespace Go.Proofs.YtkkadhhmdgbpiaaGreatDoor.FL
open Ieee Go.Proofs.YtkkadhhmdgbpiaaGreatDoor.P
theorem and_low (x j : Nat) (hx : x < 2 ^ 64) (hj : j ≤ 64) : x &&& (18446744073709551615 - (2 ^ j - 1)) = x / 2 ^ j * 2 ^ j := by
  have hp : 0 < 2 ^ j := Nat.two_pow_pos j
  have hle : 2 ^ j ≤ 2 ^ 64 := Nat.pow_le_pow_right (by decide) hj
  have h1 : 18446744073709551615 - (2 ^ j - 1) = 2 ^ j * (2 ^ (64 - j) - 1) := by
    rw [Nat.mul_sub, ← Nat.pow_add, show j + (64 - j) = 64 by omega, Nat.mul_one]
    omega
  rw [h1]
  have hx2 : x = 2 ^ j * (x / 2 ^ j) + x % 2 ^ j := (Nat.div_add_mod x _).symm
  have hq : x / 2 ^ j < 2 ^ (64 - j) := by
    rw [Nat.div_lt_iff_lt_mul hp, ← Nat.pow_add, show 64 - j + j = 64 by omega]; exact hx
  apply Nat.eq_of_testBit_eq
  intro i
  rw [Nat.testBit_and, Nat.testBit_two_pow_mul, Nat.mul_comm (x / 2 ^ j), Nat.testBit_two_pow_mul, Nat.testBit_div_two_pow]
  by_cases hi : j ≤ i
  · simp only [hi, decide_true, Bool.true_and]
    rw [Nat.testBit_two_pow_sub_one, show i - j + j = i by omega]
    by_cases h6 : i < 64
    · rw [decide_eq_true (by omega), Bool.and_true]
    · have : x.testBit i = false := Nat.testBit_lt_two_pow (Nat.lt_of_lt_of_le hx (Nat.pow_le_pow_right (by decide) (by omega)))
      rw [this, Bool.false_and]
  · simp [hi]
theorem and_top (b : Nat) (hb : b < 2 ^ 64) : b &&& 9223372036854775808 = b / 2 ^ 63 % 2 * 2 ^ 63 := by
  have h := and_low b 63 hb (by decide)
  rw [show (18446744073709551615 - (2 ^ 63 - 1) : Nat) = 9223372036854775808 from rfl] at h
  rw [h]
  congr 1
  omega
theorem i_div (a k : Nat) : (a : Int) / 2 ^ k = ((a / 2 ^ k : Nat) : Int) := by
  rw [show (2 : Int) ^ k = ((2 ^ k : Nat) : Int) from (Int.natCast_pow 2 k).symm]
  exact (Int.natCast_ediv _ _).symm
theorem absB_eq (b : Nat) (hb : b < 2 ^ 64) : absB b = b % 2 ^ 63 := by
  unfold absB
  have := u64_andNot_nat b 9223372036854775808 hb (by decide)
  rw [show ((9223372036854775808 : Nat) : Int) = 9223372036854775808 from rfl] at this
  rw [this, Int.toNat_natCast]
  exact Nat.and_two_pow_sub_one_eq_mod b 63
theorem expF_eq (b : Nat) (hb : b < 2 ^ 64) : expF b = ((b % 2 ^ 63 / 2 ^ 52 : Nat) : Int) := by
  unfold expF
  have := u64_and_nat (b / 4503599627370496) 2047 (by omega) (by decide)
  rw [show ((2047 : Nat) : Int) = 2047 from rfl, show ((b / 4503599627370496 : Nat) : Int) = (b : Int) / 4503599627370496 by omega] at this
  rw [this]
  have h2 := Nat.and_two_pow_sub_one_eq_mod (b / 4503599627370496) 11
  rw [show (2 ^ 11 - 1 : Nat) = 2047 from rfl] at h2
  rw [h2]
  congr 1
  omega
/-- The word of Round, as numbers: the sign, and the rung. -/
def roundR (m : Nat) : Nat :=
  if m / 2 ^ 52 < 1022 then 0
  else if m / 2 ^ 52 < 1023 then 1023 * 2 ^ 52
  else if m / 2 ^ 52 < 1075 then (m + 2 ^ (1074 - m / 2 ^ 52)) / 2 ^ (1075 - m / 2 ^ 52) * 2 ^ (1075 - m / 2 ^ 52)
  else m
theorem roundI_eq (b : Nat) (hb : b < 2 ^ 64) : (roundI b).toNat = b / 2 ^ 63 % 2 * 2 ^ 63 + roundR (b % 2 ^ 63) := by
  unfold roundI roundR
  rw [expF_eq b hb]
  have ht : Go.bits .and .u64 (b : Int) 9223372036854775808 = ((b / 2 ^ 63 % 2 * 2 ^ 63 : Nat) : Int) := by
    have := u64_and_nat b 9223372036854775808 hb (by decide)
    rw [show ((9223372036854775808 : Nat) : Int) = 9223372036854775808 from rfl] at this
    rw [this, and_top b hb]
  rw [ht]
  generalize hm : b % 2 ^ 63 = m
  have hmlt : m < 2 ^ 63 := by omega
  generalize he : m / 2 ^ 52 = e
  by_cases h1 : e < 1022
  · rw [if_pos (by omega), if_neg (by omega), if_pos h1, Int.toNat_natCast, Nat.add_zero]
  · rw [if_neg h1]
    by_cases h2 : e < 1023
    · rw [if_pos (by omega), if_pos (by omega), if_pos h2]
      have := u64_or_nat (b / 2 ^ 63 % 2 * 2 ^ 63) 4607182418800017408 (by omega) (by decide)
      rw [show ((4607182418800017408 : Nat) : Int) = 4607182418800017408 from rfl] at this
      rw [this, Int.toNat_natCast, Nat.mul_comm (b / 2 ^ 63 % 2), ← Nat.two_pow_add_eq_or_of_lt (by decide)]
    · rw [if_neg (by omega), if_neg h2]
      by_cases h3 : e < 1075
      · rw [if_pos (by omega), if_pos h3]
        obtain ⟨k, hk⟩ : ∃ k, e = 1023 + k := ⟨e - 1023, by omega⟩
        have hk51 : k ≤ 51 := by omega
        have e1 : ((e : Int) - 1023).toNat = k := by omega
        rw [e1]
        have d1 : (2251799813685248 : Int) / 2 ^ k = ((2 ^ (51 - k) : Nat) : Int) := by
          have h := i_div (2 ^ 51) k
          rw [show (2 ^ 51 : Nat) / 2 ^ k = 2 ^ (51 - k) from Nat.pow_div hk51 (by decide)] at h
          exact h
        have d2 : (4503599627370495 : Int) / 2 ^ k = ((2 ^ (52 - k) - 1 : Nat) : Int) := by
          have hp : 0 < 2 ^ k := Nat.two_pow_pos k
          have ha : 0 < 2 ^ (52 - k) := Nat.two_pow_pos _
          have h52 : 2 ^ k * 2 ^ (52 - k) = 2 ^ 52 := by rw [← Nat.pow_add, show k + (52 - k) = 52 by omega]
          have : (4503599627370495 : Nat) / 2 ^ k = 2 ^ (52 - k) - 1 := by
            have hx : (4503599627370495 : Nat) = 2 ^ k * (2 ^ (52 - k) - 1) + (2 ^ k - 1) := by
              rw [Nat.mul_sub, h52, Nat.mul_one]
              have : 2 ^ k ≤ 2 ^ 52 := Nat.pow_le_pow_right (by decide) (by omega)
              omega
            rw [hx, Nat.mul_add_div hp, Nat.div_eq_of_lt (by omega), Nat.add_zero]
          have h := i_div 4503599627370495 k
          rw [this] at h
          exact h
        rw [d1, d2]
        have hp51 : 2 ^ (51 - k) ≤ 2 ^ 51 := Nat.pow_le_pow_right (by decide) (by omega)
        have hw : IntKind.u64.wrap ((b : Int) + ((2 ^ (51 - k) : Nat) : Int)) = ((b + 2 ^ (51 - k) : Nat) : Int) := by
          have h : ∀ p : Nat, p ≤ 2 ^ 51 → IntKind.u64.wrap ((b : Int) + (p : Int)) = ((b + p : Nat) : Int) := fun p hp => by rw [IntKind.wrap_u64]; omega
          exact h _ hp51
        have hj : 2 ^ (52 - k) ≤ 2 ^ 52 := Nat.pow_le_pow_right (by decide) (by omega)
        rw [hw, u64_andNot_nat _ _ (by omega) (by omega), Int.toNat_natCast, and_low _ _ (by omega) (by omega)]
        rw [show 1074 - e = 51 - k by omega, show 1075 - e = 52 - k by omega]
        have hbm : b + 2 ^ (51 - k) = (m + 2 ^ (51 - k)) + (b / 2 ^ 63 % 2 * 2 ^ (63 - (52 - k))) * 2 ^ (52 - k) := by
          rw [Nat.mul_assoc, ← Nat.pow_add, show 63 - (52 - k) + (52 - k) = 63 by omega]; omega
        rw [hbm, Nat.add_mul_div_right _ _ (Nat.two_pow_pos _), Nat.add_mul, Nat.mul_assoc, ← Nat.pow_add, show 63 - (52 - k) + (52 - k) = 63 by omega, Nat.add_comm]
      · rw [if_neg (by omega), if_neg h3, Int.toNat_natCast]; omega
theorem mg_at (e k : Nat) (h : k = 52 + e) : mg ((e + 1) * 2 ^ 52) = 2 ^ k := by
  rw [mg_big (by omega), show ((e + 1) * 2 ^ 52) % 2 ^ 52 = 0 by omega, show (e + 1) * 2 ^ 52 / 2 ^ 52 - 1 = e by omega, Nat.add_zero, ← Nat.pow_add, h]
theorem mg_1022 : mg (1022 * 2 ^ 52) = 2 ^ 1073 := mg_at 1021 1073 rfl
theorem mg_1023 : mg (1023 * 2 ^ 52) = 2 ^ 1074 := mg_at 1022 1074 rfl
theorem pow_two_twice (k j : Nat) (h : k = j + 1) : 2 ^ k = 2 ^ j + 2 ^ j := by rw [h, ← Nat.mul_two, ← Nat.pow_succ]
theorem pow_1074 : (2 : Nat) ^ 1074 = 2 ^ 1073 + 2 ^ 1073 := pow_two_twice 1074 1073 rfl
theorem round_small (v j k : Nat) (hk : k = j + 1) (h : v < 2 ^ j) : (v + 2 ^ j) / 2 ^ k * 2 ^ k = 0 := by
  rw [Nat.div_eq_of_lt (by rw [pow_two_twice k j hk]; omega), Nat.zero_mul]
theorem round_one (v j k : Nat) (hk : k = j + 1) (h1 : 2 ^ j ≤ v) (h2 : v < 2 ^ k) : 2 ^ k = (v + 2 ^ j) / 2 ^ k * 2 ^ k := by
  have := pow_two_twice k j hk
  rw [Nat.div_eq_of_lt_le (k := 1) (by omega) (by omega), Nat.one_mul]
theorem round_many (x j l k : Nat) (hl : l = j + 1) : x * 2 ^ (l + k) = (x * 2 ^ (l + k) + 2 ^ j) / 2 ^ l * 2 ^ l := by
  rw [Nat.pow_add, Nat.mul_comm (2 ^ l), ← Nat.mul_assoc]
  generalize x * 2 ^ k = c
  have hd := pow_two_twice l j hl
  have hp : 0 < 2 ^ j := Nat.two_pow_pos _
  rw [Nat.add_comm, Nat.add_mul_div_right _ _ (Nat.two_pow_pos _), Nat.div_eq_of_lt (by omega), Nat.zero_add]
/-- The rung's magnitude behind Round. -/
theorem roundR_mg (m : Nat) (h : m < INF) : roundR m < INF ∧ mg (roundR m) = (mg m + 2 ^ 1073) / 2 ^ 1074 * 2 ^ 1074 := by
  have hI : INF = 9218868437227405312 := by decide
  unfold roundR
  by_cases h1 : m / 2 ^ 52 < 1022
  · rw [if_pos h1]
    refine ⟨by omega, ?_⟩
    have hlt : mg m < mg (1022 * 2 ^ 52) := mg_lt (by omega)
    have he : mg (1022 * 2 ^ 52) = 2 ^ 1073 := mg_1022
    rw [he] at hlt
    exact (mg_small (by decide)).trans (round_small _ 1073 1074 rfl hlt).symm
  · rw [if_neg h1]
    by_cases h2 : m / 2 ^ 52 < 1023
    · rw [if_pos h2]
      refine ⟨by rw [hI]; decide, ?_⟩
      have hge : mg (1022 * 2 ^ 52) ≤ mg m := mg_le (by omega)
      have hlt : mg m < mg (1023 * 2 ^ 52) := mg_lt (by omega)
      have he : mg (1022 * 2 ^ 52) = 2 ^ 1073 := mg_1022
      have he2 : mg (1023 * 2 ^ 52) = 2 ^ 1074 := mg_1023
      have hd := pow_1074
      rw [he] at hge
      rw [he2] at hlt ⊢
      exact round_one (mg m) 1073 1074 rfl hge hlt
    · rw [if_neg h2]
      by_cases h3 : m / 2 ^ 52 < 1075
      · rw [if_pos h3]
        obtain ⟨k, hk⟩ : ∃ k, m / 2 ^ 52 = 1023 + k := ⟨m / 2 ^ 52 - 1023, by omega⟩
        rw [hk, show 1074 - (1023 + k) = 51 - k by omega, show 1075 - (1023 + k) = 52 - k by omega]
        rw [mg_big (r := m) (by omega), hk]
        generalize hf : m % 2 ^ 52 = f
        have hf2 : f < 2 ^ 52 := by omega
        have hm : m = (1022 + k) * 2 ^ 52 + (2 ^ 52 + f) := by omega
        have hk51 : k ≤ 51 := by omega
        -- the quotient
        have hq1 : (m + 2 ^ (51 - k)) / 2 ^ (52 - k) * 2 ^ (52 - k) = (1022 + k) * 2 ^ 52 + (2 ^ 52 + f + 2 ^ (51 - k)) / 2 ^ (52 - k) * 2 ^ (52 - k) := by
          rw [hm, show (1022 + k) * 2 ^ 52 + (2 ^ 52 + f) + 2 ^ (51 - k) = (2 ^ 52 + f + 2 ^ (51 - k)) + (1022 + k) * 2 ^ k * 2 ^ (52 - k) by
            rw [Nat.mul_assoc, ← Nat.pow_add, show k + (52 - k) = 52 by omega]; omega]
          rw [Nat.add_mul_div_right _ _ (Nat.two_pow_pos _), Nat.add_mul, Nat.mul_assoc (1022 + k), ← Nat.pow_add, show k + (52 - k) = 52 by omega, Nat.add_comm]
        have hq2 : ((2 ^ 52 + f) * 2 ^ (1023 + k - 1) + 2 ^ 1073) / 2 ^ 1074 = (2 ^ 52 + f + 2 ^ (51 - k)) / 2 ^ (52 - k) := by
          rw [show (2 : Nat) ^ 1073 = 2 ^ (51 - k) * 2 ^ (1023 + k - 1) by rw [← Nat.pow_add]; congr 1; omega, ← Nat.add_mul,
            show (2 : Nat) ^ 1074 = 2 ^ (52 - k) * 2 ^ (1023 + k - 1) by rw [← Nat.pow_add]; congr 1; omega]
          exact Nat.mul_div_mul_right _ _ (Nat.two_pow_pos _)
        rw [hq1, hq2]
        generalize hq : (2 ^ 52 + f + 2 ^ (51 - k)) / 2 ^ (52 - k) = q
        have hpj : 0 < 2 ^ (52 - k) := Nat.two_pow_pos _
        have hk52 : 2 ^ k * 2 ^ (52 - k) = 2 ^ 52 := by rw [← Nat.pow_add]; congr 1; omega
        have hlo : 2 ^ k ≤ q := by
          rw [← hq]; exact (Nat.le_div_iff_mul_le hpj).2 (by rw [hk52]; exact Nat.le_trans (Nat.le_add_right _ f) (Nat.le_add_right _ _))
        have hhi : q ≤ 2 ^ (k + 1) := by
          rw [← hq]
          have h2 : 2 ^ (52 - k) = 2 * 2 ^ (51 - k) := by rw [show 52 - k = (51 - k) + 1 by omega, Nat.pow_succ, Nat.mul_comm]
          have hlt : (2 ^ 52 + f + 2 ^ (51 - k)) / 2 ^ (52 - k) < 2 ^ (k + 1) + 1 := by
            rw [Nat.div_lt_iff_lt_mul hpj, Nat.add_mul, show 2 ^ (k + 1) = 2 ^ k * 2 from Nat.pow_succ _ _, Nat.mul_right_comm, hk52]
            have := Nat.two_pow_pos (51 - k)
            omega
          omega
        have hqj : q * 2 ^ (52 - k) ≤ 2 ^ 53 := by
          have := Nat.mul_le_mul_right (2 ^ (52 - k)) hhi
          rw [show 2 ^ (k + 1) = 2 ^ k * 2 from Nat.pow_succ _ _, Nat.mul_right_comm, hk52] at this
          omega
        have hqj2 : 2 ^ 52 ≤ q * 2 ^ (52 - k) := by
          have := Nat.mul_le_mul_right (2 ^ (52 - k)) hlo
          rw [hk52] at this
          exact this
        generalize hY : q * 2 ^ (52 - k) = y at hqj hqj2
        refine ⟨by rw [hI]; omega, ?_⟩
        rw [mg_big (by omega)]
        have hgoal : q * 2 ^ 1074 = y * 2 ^ (1022 + k) := by
          rw [← hY, Nat.mul_assoc, ← Nat.pow_add, show 52 - k + (1022 + k) = 1074 by omega]
        rw [hgoal]
        by_cases hy : y < 2 ^ 53
        · rw [show ((1022 + k) * 2 ^ 52 + y) % 2 ^ 52 = y - 2 ^ 52 by omega, show ((1022 + k) * 2 ^ 52 + y) / 2 ^ 52 - 1 = 1022 + k by omega, show 2 ^ 52 + (y - 2 ^ 52) = y by omega]
        · have hy2 : y = 2 ^ 53 := by omega
          rw [show ((1022 + k) * 2 ^ 52 + y) % 2 ^ 52 = 0 by omega, show ((1022 + k) * 2 ^ 52 + y) / 2 ^ 52 - 1 = (1022 + k) + 1 by omega, hy2, Nat.pow_succ 2 (1022 + k), Nat.mul_comm (2 ^ (1022 + k)) 2, ← Nat.mul_assoc]
      · rw [if_neg h3]
        refine ⟨h, ?_⟩
        rw [mg_big (by omega)]
        obtain ⟨k, hk⟩ : ∃ k, m / 2 ^ 52 - 1 = 1074 + k := ⟨m / 2 ^ 52 - 1 - 1074, by omega⟩
        rw [hk]
        exact round_many _ 1073 1074 k rfl
end Go.Proofs.YtkkadhhmdgbpiaaGreatDoor.FL
