/- Floats of 64 bits as whole numbers of the least grain: plain laws, with no program in sight. -/
import Derived.Laws.FloatArith
namespace Go.Proofs.YtkkadhhmdgbpiaaGreatDoor.FL
open Ieee
/-- The magnitude of a rung, in the least grain (2 to the -1074). -/
def mg (r : Nat) : Nat := if r < 2 ^ 52 then r else (2 ^ 52 + r % 2 ^ 52) * 2 ^ (r / 2 ^ 52 - 1)
/-- The value of a word, in the least grain. -/
def V (b : Nat) : Int := if b / 2 ^ 63 % 2 == 1 then -(mg (b % 2 ^ 63) : Int) else mg (b % 2 ^ 63)
def INF : Nat := 2047 * 2 ^ 52
theorem inf_eq : double.infRung = INF := by decide
theorem sw_eq : double.signWeight = 2 ^ 63 := by decide
theorem bin_eq : double.binade = 2 ^ 52 := by decide
theorem lp_eq : double.leastPlace = -1074 := by decide
theorem fb_eq : double.fractionBits = 52 := rfl
theorem read_fin (b : Nat) (h : b % 2 ^ 63 < INF) : ∃ m i, double.read b = .number (b / 2 ^ 63 % 2 == 1) m i ∧ -1074 ≤ i ∧ m * 2 ^ (i + 1074).toNat = mg (b % 2 ^ 63) := by
  unfold Format.read
  rw [sw_eq, bin_eq, lp_eq, inf_eq]
  dsimp only
  by_cases h1 : b % 2 ^ 63 < 2 ^ 52
  · rw [if_pos h1]
    exact ⟨_, _, rfl, by decide, by unfold mg; rw [if_pos h1]; simp⟩
  · rw [if_neg h1, if_pos h]
    refine ⟨_, _, rfl, by omega, ?_⟩
    unfold mg
    rw [if_neg h1]
    congr 2
    omega
theorem read_inf (b : Nat) (h : b % 2 ^ 63 = INF) : double.read b = .infinity (b / 2 ^ 63 % 2 == 1) := by
  unfold Format.read
  rw [sw_eq, bin_eq, lp_eq, inf_eq]
  dsimp only
  rw [if_neg (by rw [h]; decide), if_neg (by omega), if_pos h]
theorem read_nan (b : Nat) (h : INF < b % 2 ^ 63) : ∃ s f, double.read b = .nan s f := by
  unfold Format.read
  rw [sw_eq, bin_eq, lp_eq, inf_eq]
  dsimp only
  have : (2 : Nat) ^ 52 ≤ INF := by decide
  rw [if_neg (by omega), if_neg (by omega), if_neg (by omega)]
  exact ⟨_, _, rfl⟩
theorem signed_V (b m : Nat) (i : Int) (hm : m * 2 ^ (i + 1074).toNat = mg (b % 2 ^ 63)) : signed (b / 2 ^ 63 % 2 == 1) m (i + 1074).toNat = V b := by
  unfold signed V
  rw [Nat.shiftLeft_eq, hm]
theorem signed_scale (s : Bool) (m a c : Nat) : signed s m (a + c) = signed s m a * 2 ^ c := by
  unfold signed
  rw [Nat.shiftLeft_eq, Nat.shiftLeft_eq, Nat.pow_add, ← Nat.mul_assoc]
  cases s
  · rw [if_neg (by decide), if_neg (by decide)]; push_cast; rfl
  · rw [if_pos rfl, if_pos rfl]; push_cast; rw [Int.neg_mul]
theorem compare_scale (a b c : Int) (hc : 0 < c) : compare (a * c) (b * c) = compare a b := by
  have h1 : a * c < b * c ↔ a < b := ⟨fun h => Int.lt_of_mul_lt_mul_right h (by omega), fun h => Int.mul_lt_mul_of_pos_right h hc⟩
  have h2 : a * c = b * c ↔ a = b := ⟨fun h => Int.eq_of_mul_eq_mul_right (by omega) h, fun h => by rw [h]⟩
  simp only [compare, compareOfLessAndEq, h1, h2]
theorem order_V (x y : Nat) (hx : x % 2 ^ 63 < INF) (hy : y % 2 ^ 63 < INF) : double.order x y = some (compare (V x) (V y)) := by
  obtain ⟨m, i, rx, hi, hm⟩ := read_fin x hx
  obtain ⟨n, j, ry, hj, hn⟩ := read_fin y hy
  unfold Format.order
  rw [rx, ry]
  show some (compare (signed _ m (i - min i j).toNat) (signed _ n (j - min i j).toNat)) = _
  rw [← signed_V x m i hm, ← signed_V y n j hn]
  have e1 : (i + 1074).toNat = (i - min i j).toNat + (min i j + 1074).toNat := by omega
  have e2 : (j + 1074).toNat = (j - min i j).toNat + (min i j + 1074).toNat := by omega
  rw [e1, e2, signed_scale, signed_scale, compare_scale _ _ _ (Int.pow_pos (by decide))]
/-- Cut towards zero. -/
theorem cut_zero (s : Bool) (n d : Nat) : Toward.zero.cut s n d = n / 2 ^ d := by
  unfold Toward.cut
  simp only [Bool.toNat_false, Nat.add_zero, Nat.shiftLeft_eq, Nat.one_mul]
  by_cases h : d ≤ n.log2 + 2
  · rw [Nat.min_eq_left h]
  · rw [Nat.min_eq_right (by omega)]
    have hn : n < 2 ^ (n.log2 + 1) := Nat.lt_log2_self
    have h1 : n < 2 ^ (n.log2 + 2) := Nat.lt_of_lt_of_le hn (Nat.pow_le_pow_right (by decide) (by omega))
    have h2 : n < 2 ^ d := Nat.lt_of_lt_of_le hn (Nat.pow_le_pow_right (by decide) (by omega))
    rw [Nat.div_eq_of_lt h1, Nat.div_eq_of_lt h2]
theorem mul_pow_div (m a j k : Nat) (ha : 0 < a) : m * a ^ (j + k) / a ^ k = m * a ^ j := by
  rw [Nat.pow_add, ← Nat.mul_assoc, Nat.mul_div_cancel _ (Nat.pow_pos ha)]
theorem tdiv_two (n k : Nat) : Int.tdiv (n : Int) (2 ^ k) = ((n / 2 ^ k : Nat) : Int) := by
  rw [Int.tdiv_eq_ediv_of_nonneg (by omega)]
  push_cast
  rfl
theorem toInt_V (b : Nat) (h : b % 2 ^ 63 < INF) : (double.read b).toInt .zero = some (Int.tdiv (V b) (2 ^ 1074)) := by
  obtain ⟨m, i, rx, hi, hm⟩ := read_fin b h
  rw [rx]
  show some (signed _ (Toward.zero.cut _ (m <<< i.toNat) (-i).toNat) 0) = _
  rw [cut_zero, Nat.shiftLeft_eq]
  have key : m * 2 ^ i.toNat / 2 ^ (-i).toNat = mg (b % 2 ^ 63) / 2 ^ 1074 := by
    rw [← hm]
    by_cases h0 : 0 ≤ i
    · rw [show (-i).toNat = 0 by omega, show (i + 1074).toNat = i.toNat + 1074 by omega, mul_pow_div m 2 i.toNat 1074 (by decide), Nat.pow_zero, Nat.div_one]
    · rw [show i.toNat = 0 by omega, show 1074 = (i + 1074).toNat + (-i).toNat by omega, Nat.pow_add, Nat.mul_comm m (2 ^ (i + _).toNat)]
      rw [Nat.mul_div_mul_left _ _ (Nat.two_pow_pos _)]
      simp
  rw [key]
  unfold signed V
  rw [Nat.shiftLeft_eq, Nat.pow_zero, Nat.mul_one]
  cases (b / 2 ^ 63 % 2 == 1)
  · rw [if_neg (by decide), if_neg (by decide)]
    rw [tdiv_two]
  · rw [if_pos rfl, if_pos rfl, Int.neg_tdiv]
    rw [tdiv_two]
/-! ### mg: its growth -/
theorem mg_small {r : Nat} (h : r < 2 ^ 52) : mg r = r := by unfold mg; rw [if_pos h]
theorem mg_big {r : Nat} (h : 2 ^ 52 ≤ r) : mg r = (2 ^ 52 + r % 2 ^ 52) * 2 ^ (r / 2 ^ 52 - 1) := by unfold mg; rw [if_neg (by omega)]
/-- One rung more. -/
theorem mg_step (r : Nat) : mg r < mg (r + 1) := by
  by_cases h : r + 1 < 2 ^ 52
  · rw [mg_small h, mg_small (by omega)]; omega
  · by_cases h2 : r < 2 ^ 52
    · have : r = 2 ^ 52 - 1 := by omega
      subst this
      decide
    · rw [mg_big (by omega), mg_big (r := r + 1) (by omega)]
      by_cases hm : r % 2 ^ 52 + 1 < 2 ^ 52
      · rw [show (r + 1) / 2 ^ 52 = r / 2 ^ 52 by omega, show (r + 1) % 2 ^ 52 = r % 2 ^ 52 + 1 by omega]
        exact Nat.mul_lt_mul_of_pos_right (by omega) (Nat.two_pow_pos _)
      · rw [show (r + 1) / 2 ^ 52 - 1 = (r / 2 ^ 52 - 1) + 1 by omega, show (r + 1) % 2 ^ 52 = 0 by omega, show 2 ^ ((r / 2 ^ 52 - 1) + 1) = 2 ^ (r / 2 ^ 52 - 1) * 2 from Nat.pow_succ _ _]
        have hp : 0 < 2 ^ (r / 2 ^ 52 - 1) := Nat.two_pow_pos _
        generalize 2 ^ (r / 2 ^ 52 - 1) = p at hp
        have : (2 ^ 52 + r % 2 ^ 52) * p < (2 ^ 52 + 2 ^ 52) * p := Nat.mul_lt_mul_of_pos_right (by omega) hp
        rw [Nat.add_zero, Nat.mul_comm p 2, ← Nat.mul_assoc]
        omega
theorem mg_lt {r s : Nat} (h : r < s) : mg r < mg s := by
  induction s with
  | zero => omega
  | succ s ih =>
    by_cases h2 : r = s
    · subst h2; exact mg_step r
    · exact Nat.lt_trans (ih (by omega)) (mg_step s)
theorem mg_le {r s : Nat} (h : r ≤ s) : mg r ≤ mg s := by
  by_cases h2 : r = s
  · subst h2; exact Nat.le_refl _
  · exact Nat.le_of_lt (mg_lt (by omega))
theorem mg_inj {r s : Nat} (h : mg r = mg s) : r = s := by
  by_cases h1 : r < s
  · have := mg_lt h1; omega
  · by_cases h2 : s < r
    · have := mg_lt h2; omega
    · omega
/-- What lies on the grid is a rung's magnitude: c digits below 2 to the 53, shifted. -/
theorem rung_of (c k : Nat) (hc : c < 2 ^ 53) : ∃ r, mg r = c * 2 ^ k := by
  induction k generalizing c with
  | zero =>
    rw [Nat.pow_zero, Nat.mul_one]
    by_cases h : c < 2 ^ 52
    · exact ⟨c, mg_small h⟩
    · exact ⟨c, by rw [mg_big (by omega), show c / 2 ^ 52 = 1 by omega, Nat.sub_self, Nat.pow_zero, Nat.mul_one]; omega⟩
  | succ k ih =>
    by_cases h : c < 2 ^ 52
    · obtain ⟨r, hr⟩ := ih (c * 2) (by omega)
      exact ⟨r, by rw [hr, Nat.pow_succ, Nat.mul_comm (2 ^ k) 2, Nat.mul_assoc]⟩
    · refine ⟨(k + 2) * 2 ^ 52 + (c - 2 ^ 52), ?_⟩
      rw [mg_big (by omega), show ((k + 2) * 2 ^ 52 + (c - 2 ^ 52)) / 2 ^ 52 = k + 2 by omega, show ((k + 2) * 2 ^ 52 + (c - 2 ^ 52)) % 2 ^ 52 = c - 2 ^ 52 by omega]
      rw [show 2 ^ 52 + (c - 2 ^ 52) = c by omega, show k + 2 - 1 = k + 1 by omega]
/-- The digits of a shifted number. -/
theorem log2_mul (n k : Nat) (h : n ≠ 0) : (n * 2 ^ k).log2 = n.log2 + k := by
  have hp : 0 < 2 ^ k := Nat.two_pow_pos k
  have h1 : 2 ^ n.log2 ≤ n := Nat.log2_self_le h
  have h2 : n < 2 ^ (n.log2 + 1) := Nat.lt_log2_self
  refine (Nat.log2_eq_iff (Nat.mul_ne_zero h (by omega))).2 ⟨?_, ?_⟩
  · rw [Nat.pow_add]; exact Nat.mul_le_mul_right _ h1
  · rw [show n.log2 + k + 1 = (n.log2 + 1) + k by omega, Nat.pow_add 2 (n.log2 + 1) k]; exact Nat.mul_lt_mul_of_pos_right h2 hp
/-- Nothing is cut off a number that ends in so many noughts. -/
theorem cut_even (s : Bool) (q d : Nat) (hd : d = 0 ∨ q ≠ 0) : Toward.even.cut s (q * 2 ^ d) d = q := by
  have hl : d ≤ (q * 2 ^ d).log2 + 2 := by
    rcases hd with rfl | h
    · omega
    · rw [log2_mul _ _ h]; omega
  have hg : 1 <<< min d ((q * 2 ^ d).log2 + 2) = 2 ^ d := by rw [Nat.min_eq_left hl, Nat.shiftLeft_eq, Nat.one_mul]
  have h1 : q * 2 ^ d % 2 ^ d = 0 := Nat.mul_mod_left _ _
  have h2 : q * 2 ^ d / 2 ^ d = q := Nat.mul_div_cancel _ (Nat.two_pow_pos _)
  have h3 : ¬ 2 ^ d = 0 := by have := Nat.two_pow_pos d; omega
  unfold Toward.cut
  simp [hg, h1, h2]
/-- Nearest of what is a rung's magnitude is that rung, or what has no end. -/
theorem nearest_min (s : Bool) (m : Nat) (i : Int) (r a c : Nat) (ha : i + 1074 = (a : Int) - c) (hm : m * 2 ^ a = mg r * 2 ^ c) : double.nearest s m i = double.word s (min r INF) := by
  unfold Format.nearest
  rw [lp_eq, bin_eq, inf_eq, fb_eq]
  by_cases h0 : m = 0
  · rw [if_pos h0]
    subst h0
    have : mg r = 0 := by
      rw [Nat.zero_mul] at hm
      rcases Nat.mul_eq_zero.1 hm.symm with h | h
      · exact h
      · have := Nat.two_pow_pos c; omega
    have : r = 0 := mg_inj (by rw [this]; decide)
    rw [this]
    rfl
  · rw [if_neg h0]
    have hv0 : mg r ≠ 0 := by
      intro h
      rw [h, Nat.zero_mul] at hm
      rcases Nat.mul_eq_zero.1 hm with h | h
      · exact h0 h
      · have := Nat.two_pow_pos a; omega
    have hl : m.log2 + a = (mg r).log2 + c := by
      rw [← log2_mul m a h0, ← log2_mul _ c hv0, hm]
    -- the place
    have hE : ∃ e : Nat, max (i + m.log2 - (52 : Nat)) (-1074) = (e : Int) - 1074 ∧ e = (mg r).log2 - 52 ∧ ∃ q, mg r = q * 2 ^ e ∧ min (e * 2 ^ 52 + q) INF = min r INF := by
      refine ⟨(mg r).log2 - 52, by omega, rfl, ?_⟩
      by_cases hs : r < 2 ^ 52
      · rw [mg_small hs] at hv0 ⊢
        have : r.log2 < 52 := (Nat.log2_lt hv0).2 hs
        refine ⟨r, by rw [show r.log2 - 52 = 0 by omega]; simp, by rw [show r.log2 - 52 = 0 by omega, Nat.zero_mul, Nat.zero_add]⟩
      · rw [mg_big (by omega)]
        rw [log2_mul _ _ (by omega)]
        have : (2 ^ 52 + r % 2 ^ 52).log2 = 52 := by
          refine (Nat.log2_eq_iff (by omega)).2 ⟨by omega, by omega⟩
        rw [this, show 52 + (r / 2 ^ 52 - 1) - 52 = r / 2 ^ 52 - 1 by omega]
        refine ⟨2 ^ 52 + r % 2 ^ 52, rfl, ?_⟩
        have h1 : (r / 2 ^ 52 - 1) * 2 ^ 52 + (2 ^ 52 + r % 2 ^ 52) = r := by omega
        rw [h1]
    obtain ⟨e, he, hel, q, hq, hmin⟩ := hE
    rw [he]
    dsimp only
    have hcut : Toward.even.cut s (m <<< (i - ((e : Int) - 1074)).toNat) (((e : Int) - 1074) - i).toNat = q := by
      rw [Nat.shiftLeft_eq]
      by_cases hd : i ≥ (e : Int) - 1074
      · rw [show (((e : Int) - 1074) - i).toNat = 0 by omega]
        have hq' : m * 2 ^ (i - ((e : Int) - 1074)).toNat = q := by
          apply Nat.eq_of_mul_eq_mul_right (Nat.two_pow_pos (e + c))
          rw [Nat.mul_assoc, ← Nat.pow_add, show (i - ((e : Int) - 1074)).toNat + (e + c) = a by omega, hm, hq, Nat.pow_add, Nat.mul_assoc]
        rw [hq']
        have := cut_even s q 0 (Or.inl rfl)
        rw [Nat.pow_zero, Nat.mul_one] at this
        exact this
      · have hq' : m = q * 2 ^ (((e : Int) - 1074) - i).toNat := by
          apply Nat.eq_of_mul_eq_mul_right (Nat.two_pow_pos a)
          rw [hm, hq, Nat.mul_assoc, ← Nat.pow_add, Nat.mul_assoc, ← Nat.pow_add]
          congr 2
          omega
        rw [show (i - ((e : Int) - 1074)).toNat = 0 by omega, Nat.pow_zero, Nat.mul_one]
        generalize (((e : Int) - 1074) - i).toNat = d at hq'
        have hq0 : q ≠ 0 := fun h => h0 (by rw [hq', h, Nat.zero_mul])
        rw [hq']
        exact cut_even s q d (Or.inr hq0)
    rw [hcut, show ((e : Int) - 1074 - -1074).toNat = e by omega, hmin]
/-- A rung's magnitude, found again: nearest of what is a rung's magnitude is that rung. -/
theorem nearest_of (s : Bool) (m : Nat) (i : Int) (r a c : Nat) (hr : r ≤ INF) (ha : i + 1074 = (a : Int) - c) (hm : m * 2 ^ a = mg r * 2 ^ c) : double.nearest s m i = double.word s r := by
  rw [nearest_min s m i r a c ha hm, Nat.min_eq_left hr]
end Go.Proofs.YtkkadhhmdgbpiaaGreatDoor.FL
