/- dimen.near, told by the float's value. Plain. -/
import Derived.Test.YtkkadhhmdgbpiaaGreatDoorRound
namespace Go.Proofs.YtkkadhhmdgbpiaaGreatDoor.FL
open Ieee Go.Proofs.YtkkadhhmdgbpiaaGreatDoor.P
def nearQ (neg : Bool) (q : Nat) : Int × Int := if q ≤ 1073741823 then (if neg then -(q : Int) else (q : Int), 0) else (0, 2)
/-- Nearest whole number of a magnitude, half up. -/
def half (v : Nat) : Nat := (v + 2 ^ 1073) / 2 ^ 1074
theorem f64_double : FloatKind.f64.format = double := rfl
theorem max_lt : 4742290407612743680 % 2 ^ 63 < INF := by decide
theorem mul_two_pow (c j k l : Nat) (h : l = j + k) : c * 2 ^ j * 2 ^ k = c * 2 ^ l := by rw [h, Nat.mul_assoc, ← Nat.pow_add]
theorem compare_two (a b k : Nat) : compare ((a * 2 ^ k : Nat) : Int) ((b * 2 ^ k : Nat) : Int) = compare (a : Int) (b : Int) := by
  rw [Int.natCast_mul, Int.natCast_mul, compare_scale _ _ _ (Int.natCast_pos.2 (Nat.two_pow_pos _))]
theorem tdiv_mul_two (q k : Nat) : Int.tdiv ((q * 2 ^ k : Nat) : Int) (2 ^ k) = (q : Int) := by
  push_cast
  exact Int.mul_tdiv_cancel _ (Int.ne_of_gt (Int.pow_pos (by decide)))
theorem max_V : V 4742290407612743680 = (1073741823 * 2 ^ 1074 : Nat) := by
  unfold V
  rw [show (4742290407612743680 / 2 ^ 63 % 2 == 1) = false by decide, if_neg (by decide), show 4742290407612743680 % 2 ^ 63 = 4742290407612743680 by decide, mg_big (by decide),
    show 2 ^ 52 + 4742290407612743680 % 2 ^ 52 = 1073741823 * 2 ^ 23 by decide, show 4742290407612743680 / 2 ^ 52 - 1 = 1051 by decide, mul_two_pow 1073741823 23 1051 1074 rfl]
theorem V_pos (r : Nat) (h : r < 2 ^ 63) : V r = (mg r : Int) := by
  unfold V
  rw [show r / 2 ^ 63 = 0 by omega, Nat.mod_eq_of_lt h]
  rfl
theorem fits_V (a : Nat) (h : a < INF) (q : Nat) (hq : mg a = q * 2 ^ 1074) : fits a = decide (q ≤ 1073741823) := by
  have hI : INF = 9218868437227405312 := by decide
  have ha : a % 2 ^ 63 < INF := by omega
  unfold fits
  rw [f64_double, order_V a _ ha max_lt, V_pos a (by omega), max_V, hq]
  rw [compare_two q 1073741823 1074, show ((1073741823 : Nat) : Int) = 1073741823 from rfl]
  by_cases h1 : q < 1073741823
  · have : compare (q : Int) 1073741823 = .lt := by simp only [compare, compareOfLessAndEq]; rw [if_pos (by omega)]
    rw [this, decide_eq_true (by omega)]; rfl
  · by_cases h2 : q = 1073741823
    · subst h2; decide
    · have : compare (q : Int) 1073741823 = .gt := by simp only [compare, compareOfLessAndEq]; rw [if_neg (by omega), if_neg (by omega)]
      rw [this, decide_eq_false (by omega)]; rfl
theorem order_self (b : Nat) (h : b % 2 ^ 63 < INF) : double.order b b = some .eq := by
  rw [order_V b b h h]
  simp [compare, compareOfLessAndEq]
theorem roundI_lt (b : Nat) (hb : b < 2 ^ 64) (h : roundR (b % 2 ^ 63) < 2 ^ 63) : (roundI b).toNat < 2 ^ 64 ∧ (roundI b).toNat % 2 ^ 63 = roundR (b % 2 ^ 63) ∧ (roundI b).toNat / 2 ^ 63 % 2 = b / 2 ^ 63 % 2 := by
  rw [roundI_eq b hb]
  generalize roundR (b % 2 ^ 63) = r at *
  omega
/-- A finite float. -/
theorem near_fin (b : Nat) (hb : b < 2 ^ 64) (hf : b % 2 ^ 63 < INF) :
    nearB b = nearQ (b / 2 ^ 63 % 2 == 1) (half (mg (b % 2 ^ 63))) ∧ (fits (absB (roundI b).toNat) = true → (floatToIntVal .f64 (roundI b).toNat .i64).isSome = true) := by
  have hI : INF = 9218868437227405312 := by decide
  obtain ⟨r1, r2⟩ := roundR_mg (b % 2 ^ 63) hf
  obtain ⟨k1, k2, k3⟩ := roundI_lt b hb (by omega)
  have hq : mg (roundR (b % 2 ^ 63)) = half (mg (b % 2 ^ 63)) * 2 ^ 1074 := r2
  have hfit := fits_V _ r1 _ hq
  unfold nearB nearQ
  rw [f64_double, order_self b hf, absB_eq _ k1, k2, hfit]
  rw [if_pos (by decide)]
  have hti : half (mg (b % 2 ^ 63)) ≤ 1073741823 → floatToIntVal .f64 (roundI b).toNat .i64 = some (if (b / 2 ^ 63 % 2 == 1) then -((half (mg (b % 2 ^ 63)) : Nat) : Int) else ((half (mg (b % 2 ^ 63)) : Nat) : Int)) := by
    intro hle
    have ht := toInt_V (roundI b).toNat (by rw [k2]; exact r1)
    have hv : (V (roundI b).toNat).tdiv (2 ^ 1074) = (if (b / 2 ^ 63 % 2 == 1) then -((half (mg (b % 2 ^ 63)) : Nat) : Int) else ((half (mg (b % 2 ^ 63)) : Nat) : Int)) := by
      unfold V
      rw [k2, k3, hq]
      cases (b / 2 ^ 63 % 2 == 1)
      · rw [if_neg (by decide), if_neg (by decide), tdiv_mul_two (half (mg (b % 2 ^ 63))) 1074]
      · rw [if_pos rfl, if_pos rfl, Int.neg_tdiv, tdiv_mul_two (half (mg (b % 2 ^ 63))) 1074]
    rw [hv] at ht
    unfold floatToIntVal
    rw [show FloatKind.f64.decode (roundI b).toNat = double.read (roundI b).toNat from rfl, ht]
    dsimp only
    rw [if_pos]
    have e1 : IntKind.i64.min = -9223372036854775808 := by decide
    have e2 : IntKind.i64.max = 9223372036854775807 := by decide
    rw [e1, e2]
    generalize half (mg (b % 2 ^ 63)) = q at *
    cases (b / 2 ^ 63 % 2 == 1)
    · rw [if_neg (by decide)]; omega
    · rw [if_pos rfl]; omega
  generalize half (mg (b % 2 ^ 63)) = q at *
  constructor
  · by_cases hle : q ≤ 1073741823
    · rw [if_pos (decide_eq_true hle), if_pos hle, hti hle]; rfl
    · rw [if_neg (by rw [decide_eq_false hle]; decide), if_neg hle]
  · intro h
    rw [hti (of_decide_eq_true h)]
    rfl
theorem near_inf (b : Nat) (hb : b < 2 ^ 64) (hf : b % 2 ^ 63 = INF) :
    nearB b = (0, 2) ∧ (fits (absB (roundI b).toNat) = true → (floatToIntVal .f64 (roundI b).toNat .i64).isSome = true) := by
  have hI : INF = 9218868437227405312 := by decide
  have hr : roundR (b % 2 ^ 63) = INF := by rw [hf]; decide
  obtain ⟨k1, k2, k3⟩ := roundI_lt b hb (by rw [hr, hI]; decide)
  have hfit : fits INF = false := by decide
  have ho : double.order b b = some .eq := by
    unfold Format.order
    rw [read_inf b hf]
    show some (compare _ _) = _
    cases (b / 2 ^ 63 % 2 == 1) <;> rfl
  unfold nearB
  rw [f64_double, ho, absB_eq _ k1, k2, hr, hfit]
  exact ⟨rfl, fun h => by cases h⟩
theorem near_nan (b : Nat) (hb : b < 2 ^ 64) (hf : INF < b % 2 ^ 63) :
    nearB b = (0, 3) ∧ (fits (absB (roundI b).toNat) = true → (floatToIntVal .f64 (roundI b).toNat .i64).isSome = true) := by
  have hI : INF = 9218868437227405312 := by decide
  have hr : roundR (b % 2 ^ 63) = b % 2 ^ 63 := by
    unfold roundR
    rw [if_neg (by omega), if_neg (by omega), if_neg (by omega)]
  obtain ⟨k1, k2, k3⟩ := roundI_lt b hb (by rw [hr]; omega)
  obtain ⟨s, f, rn⟩ := read_nan b hf
  have ho : double.order b b = none := by unfold Format.order; rw [rn]; rfl
  obtain ⟨s2, f2, rn2⟩ := read_nan (b % 2 ^ 63) (by omega)
  have hfit : fits (b % 2 ^ 63) = false := by
    unfold fits
    rw [f64_double]
    have : double.order (b % 2 ^ 63) 4742290407612743680 = none := by unfold Format.order; rw [rn2]; rfl
    rw [this]; rfl
  unfold nearB
  rw [f64_double, ho, absB_eq _ k1, k2, hr, hfit]
  exact ⟨rfl, fun h => by cases h⟩
/-- What a float is: finite, without end, or no number. -/
theorem kinds (b : Nat) : b % 2 ^ 63 < INF ∨ b % 2 ^ 63 = INF ∨ INF < b % 2 ^ 63 := by omega
theorem near_ok (b : Nat) (hb : b < 2 ^ 64) : fits (absB (roundI b).toNat) = true → (floatToIntVal .f64 (roundI b).toNat .i64).isSome = true := by
  rcases kinds b with h | h | h
  · exact (near_fin b hb h).2
  · exact (near_inf b hb h).2
  · exact (near_nan b hb h).2
theorem near_zero (b : Nat) (hb : b < 2 ^ 64) : (nearB b).2 ≠ 0 → (nearB b).1 = 0 := by
  rcases kinds b with h | h | h
  · rw [(near_fin b hb h).1]; unfold nearQ; split
    · intro h; exact absurd rfl h
    · intro _; rfl
  · rw [(near_inf b hb h).1]; intro _; rfl
  · rw [(near_nan b hb h).1]; intro _; rfl
end Go.Proofs.YtkkadhhmdgbpiaaGreatDoor.FL
