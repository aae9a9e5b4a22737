/- Products, quotients and differences of floats, in the least grain, and what is near of them. Plain. -/
import Derived.Test.YtkkadhhmdgbpiaaGreatDoorNearV
import Derived.Test.YtkkadhhmdgbpiaaGreatDoorDimOf
namespace Go.Proofs.YtkkadhhmdgbpiaaGreatDoor.FL
open Ieee Go.Proofs.YtkkadhhmdgbpiaaGreatDoor.P
theorem word_parts (s : Bool) (r : Nat) (h : r < 2 ^ 63) : double.word s r < 2 ^ 64 ∧ double.word s r % 2 ^ 63 = r ∧ (double.word s r / 2 ^ 63 % 2 == 1) = s := by
  unfold Format.word
  rw [sw_eq]
  cases s
  · rw [if_neg (by decide)]
    refine ⟨by omega, by omega, ?_⟩
    rw [show r / 2 ^ 63 % 2 = 0 by omega]; rfl
  · rw [if_pos rfl]
    refine ⟨by omega, by omega, ?_⟩
    rw [show (2 ^ 63 + r) / 2 ^ 63 % 2 = 1 by omega]; rfl
theorem inf_lt : INF < 2 ^ 63 := by decide
theorem nearest_word (m : Nat) (i : Int) : ∃ r, r ≤ INF ∧ ∀ s, double.nearest s m i = double.word s r := by
  unfold Format.nearest
  by_cases h : m = 0
  · exact ⟨0, Nat.zero_le _, fun s => by rw [if_pos h]⟩
  · refine ⟨min ((max (i + m.log2 - double.fractionBits) double.leastPlace - double.leastPlace).toNat * double.binade + Toward.even.cut false (m <<< (i - max (i + m.log2 - double.fractionBits) double.leastPlace).toNat) (max (i + m.log2 - double.fractionBits) double.leastPlace - i).toNat) double.infRung, ?_, fun s => by rw [if_neg h]; rfl⟩
    exact Nat.le_trans (Nat.min_le_right _ _) (Nat.le_of_eq inf_eq)
/-! ### near of a word -/
theorem half_mul (q j k : Nat) (hk : k = j + 1) : (q * 2 ^ k + 2 ^ j) / 2 ^ k = q := by
  have hp : 0 < 2 ^ j := Nat.two_pow_pos j
  subst hk
  rw [Nat.add_comm, Nat.add_mul_div_right _ _ (Nat.two_pow_pos _), Nat.div_eq_of_lt (by rw [Nat.pow_succ]; omega), Nat.zero_add]
theorem pow_ex (k : Nat) : ∃ u : Nat, u = 2 ^ k := ⟨_, rfl⟩
/-- One, in the least grain; and a half. Numbers that nothing unfolds. -/
noncomputable def U : Nat := Classical.choose (pow_ex 1074)
noncomputable def H : Nat := Classical.choose (pow_ex 1073)
theorem U_eq : U = 2 ^ 1074 := Classical.choose_spec (pow_ex 1074)
theorem H_eq : H = 2 ^ 1073 := Classical.choose_spec (pow_ex 1073)
theorem two_of (u h j k : Nat) (hu : u = 2 ^ k) (hh : h = 2 ^ j) (hk : k = j + 1) : u = 2 * h ∧ 0 < h := by
  subst hu hh hk
  exact ⟨by rw [Nat.pow_succ, Nat.mul_comm], Nat.two_pow_pos _⟩
theorem U_H : U = 2 * H ∧ 0 < H := two_of U H 1073 1074 U_eq H_eq rfl
theorem U_pos : 0 < U := by have := U_H; omega
theorem half_eq (v : Nat) : half v = (v + H) / U := by
  unfold half
  rw [U_eq, H_eq]
theorem half_exact (q : Nat) : half (q * U) = q := by
  rw [half_eq, Nat.add_comm, Nat.add_mul_div_right _ _ U_pos, Nat.div_eq_of_lt (by have := U_H; omega), Nat.zero_add]
theorem near_word (s : Bool) (r : Nat) (h : r < INF) : nearB (double.word s r) = nearQ s (half (mg r)) := by
  obtain ⟨h1, h2, h3⟩ := word_parts s r (Nat.lt_trans h inf_lt)
  rw [(near_fin _ h1 (by rw [h2]; exact h)).1, h2, h3]
theorem near_word_inf (s : Bool) : nearB (double.word s INF) = (0, 2) := by
  obtain ⟨h1, h2, h3⟩ := word_parts s INF inf_lt
  exact (near_inf _ h1 h2).1
theorem half_ge (q v : Nat) (h : q * U ≤ v + H) : q ≤ half v := by
  rw [half_eq]
  exact (Nat.le_div_iff_mul_le U_pos).2 h
theorem half_mono {v v' : Nat} (h : v ≤ v') : half v ≤ half v' := by
  rw [half_eq, half_eq]
  exact Nat.div_le_div_right (Nat.add_le_add_right h H)
theorem mg_inf : mg INF = 2 ^ 2098 := mg_at 2046 2098 rfl
theorem lt_word_inf (x v k l m : Nat) (hm : m = 2 ^ l) (hx : x = v * 2 ^ k) (hv : v < 2 ^ 53) (hk : 53 + k ≤ l) : x < m := by
  subst hm hx
  have h1 : v * 2 ^ k < 2 ^ 53 * 2 ^ k := Nat.mul_lt_mul_of_pos_right hv (Nat.two_pow_pos _)
  rw [← Nat.pow_add] at h1
  exact Nat.lt_of_lt_of_le h1 (Nat.pow_le_pow_right (by decide) hk)
theorem mul_U (v : Nat) : v * U = v * 2 ^ 1074 := congrArg (v * ·) U_eq
theorem mg_big_inf (v : Nat) (h : v < 2 ^ 53) : v * U < mg INF := lt_word_inf (v * U) v 1074 2098 (mg INF) mg_inf (mul_U v) h (by decide)
theorem half_inf : 1073741823 < half (mg INF) := by
  have := half_ge (2 ^ 31) (mg INF) (Nat.le_of_lt (Nat.lt_of_lt_of_le (mg_big_inf (2 ^ 31) (by decide)) (Nat.le_add_right _ _)))
  omega
theorem near_min (s : Bool) (r : Nat) : nearB (double.word s (min r INF)) = nearQ s (half (mg r)) := by
  by_cases h : r < INF
  · rw [Nat.min_eq_left (by omega), near_word s r h]
  · rw [Nat.min_eq_right (by omega), near_word_inf]
    have := half_mono (mg_le (show INF ≤ r by omega))
    have := half_inf
    unfold nearQ
    rw [if_neg (by omega)]
/-! ### products -/
theorem mul_fin (x y : Nat) (hx : x % 2 ^ 63 < INF) (hy : y % 2 ^ 63 < INF) : ∃ m i, double.mul x y = some (double.nearest ((x / 2 ^ 63 % 2 == 1) ^^ (y / 2 ^ 63 % 2 == 1)) m i) ∧ ∃ a : Nat, i + 2148 = (a : Int) ∧ m * 2 ^ a = mg (x % 2 ^ 63) * mg (y % 2 ^ 63) := by
  obtain ⟨m, i, rx, hi, hm⟩ := read_fin x hx
  obtain ⟨n, j, ry, hj, hn⟩ := read_fin y hy
  refine ⟨m * n, i + j, ?_, (i + 1074).toNat + (j + 1074).toNat, by omega, ?_⟩
  · unfold Format.mul
    rw [rx, ry]
    rfl
  · rw [← hm, ← hn, Nat.pow_add, Nat.mul_assoc, Nat.mul_assoc, Nat.mul_left_comm n]
/-- A finite product, found: its magnitude is the product of both. -/
theorem mul_rung (x y r : Nat) (hx : x % 2 ^ 63 < INF) (hy : y % 2 ^ 63 < INF) (hr : mg (x % 2 ^ 63) * mg (y % 2 ^ 63) = mg r * U) :
    double.mul x y = some (double.word ((x / 2 ^ 63 % 2 == 1) ^^ (y / 2 ^ 63 % 2 == 1)) (min r INF)) := by
  obtain ⟨m, i, hm, a, ha, hv⟩ := mul_fin x y hx hy
  rw [hm, nearest_min _ m i r a 1074 (by omega) (hv.trans (hr.trans (mul_U _)))]
theorem shift_rung (r j : Nat) : ∃ r', mg r' = mg r * 2 ^ j := by
  by_cases h : r < 2 ^ 52
  · rw [mg_small h]; exact rung_of r j (by omega)
  · rw [mg_big (by omega), Nat.mul_assoc, ← Nat.pow_add]; exact rung_of _ _ (by omega)
theorem pt_mod : 4679240012837945344 % 2 ^ 63 = (1038 + 1) * 2 ^ 52 := by decide
theorem point_of (m u l k : Nat) (hm : m = 2 ^ l) (hu : u = 2 ^ k) (hl : l = 16 + k) : m = 2 ^ 16 * u := by subst hm hu hl; rw [Nat.pow_add]
theorem pt_mg : mg (4679240012837945344 % 2 ^ 63) = 2 ^ 16 * U := point_of _ _ 1090 1074 ((congrArg mg pt_mod).trans (mg_at 1038 1090 rfl)) U_eq rfl
theorem pt_fin : 4679240012837945344 % 2 ^ 63 < INF := by decide
theorem mul_point (b : Nat) (hb : b % 2 ^ 63 < INF) : ∃ r, mg r = mg (b % 2 ^ 63) * 2 ^ 16 ∧ double.mul b 4679240012837945344 = some (double.word (b / 2 ^ 63 % 2 == 1) (min r INF)) := by
  obtain ⟨r, hr⟩ := shift_rung (b % 2 ^ 63) 16
  refine ⟨r, hr, ?_⟩
  rw [mul_rung b _ r hb pt_fin (by rw [hr, Nat.mul_assoc, ← pt_mg])]
  rw [show (4679240012837945344 / 2 ^ 63 % 2 == 1) = false by decide, Bool.xor_false]
/-- Of, at a finite float. -/
theorem of_fin (b : Nat) (hb : b % 2 ^ 63 < INF) : prodB b 4679240012837945344 = nearQ (b / 2 ^ 63 % 2 == 1) (half (mg (b % 2 ^ 63) * 2 ^ 16)) := by
  obtain ⟨r, hr, hm⟩ := mul_point b hb
  unfold prodB
  rw [hm]
  show nearB _ = _
  rw [near_min, hr]
theorem mul_inf (b y : Nat) (hb : b % 2 ^ 63 = INF) (hy : y % 2 ^ 63 < INF) (h0 : mg (y % 2 ^ 63) ≠ 0) : double.mul b y = some (double.word ((b / 2 ^ 63 % 2 == 1) ^^ (y / 2 ^ 63 % 2 == 1)) INF) := by
  obtain ⟨n, j, ry, hj, hn⟩ := read_fin y hy
  unfold Format.mul
  rw [read_inf b hb, ry]
  have : n ≠ 0 := fun h => h0 (by rw [← hn, h, Nat.zero_mul])
  show Option.map _ (if n = 0 then none else some _) = _
  rw [if_neg this, Option.map_some]
  show some (double.word _ double.infRung) = _
  rw [inf_eq]
theorem fin_inf (x b : Nat) (hb : b % 2 ^ 63 = INF) (hy : x % 2 ^ 63 < INF) : double.mul x b = if mg (x % 2 ^ 63) = 0 then none else some (double.word ((b / 2 ^ 63 % 2 == 1) ^^ (x / 2 ^ 63 % 2 == 1)) INF) := by
  obtain ⟨n, j, ry, hj, hn⟩ := read_fin x hy
  unfold Format.mul
  rw [read_inf b hb, ry]
  show Option.map _ (if n = 0 then none else some _) = _
  by_cases h : n = 0
  · rw [if_pos h, if_pos (by rw [← hn, h, Nat.zero_mul])]; rfl
  · rw [if_neg h, if_neg (by rw [← hn]; exact Nat.mul_ne_zero h (Nat.ne_of_gt (Nat.two_pow_pos _))), Option.map_some]
    show some (double.word _ double.infRung) = _
    rw [inf_eq]
theorem mul_nan_l (x y : Nat) (h : INF < x % 2 ^ 63) : double.mul x y = none := by
  obtain ⟨s, f, r⟩ := read_nan x h
  unfold Format.mul
  rw [r]
  rfl
theorem mul_nan_r (x y : Nat) (h : INF < y % 2 ^ 63) : double.mul x y = none := by
  obtain ⟨s, f, r⟩ := read_nan y h
  unfold Format.mul
  rw [r]
  cases double.read x <;> rfl
theorem of_inf (b : Nat) (hb : b % 2 ^ 63 = INF) : prodB b 4679240012837945344 = (0, 2) := by
  unfold prodB
  rw [mul_inf b _ hb pt_fin (by rw [pt_mg]; exact Nat.ne_of_gt (Nat.mul_pos (Nat.two_pow_pos 16) U_pos))]
  exact near_word_inf _
theorem of_nan (b : Nat) (hb : INF < b % 2 ^ 63) : prodB b 4679240012837945344 = (0, 3) := by
  unfold prodB
  rw [mul_nan_l b _ hb]
/-! ### turned -/
def flip (x : Nat) : Nat := x ^^^ 2 ^ 63
theorem flip_parts (x : Nat) (h : x < 2 ^ 64) : flip x < 2 ^ 64 ∧ flip x % 2 ^ 63 = x % 2 ^ 63 ∧ (flip x / 2 ^ 63 % 2 == 1) = !(x / 2 ^ 63 % 2 == 1) := by
  unfold flip
  refine ⟨Nat.xor_lt_two_pow h (by decide), ?_, ?_⟩
  · rw [Nat.xor_mod_two_pow, Nat.mod_self, Nat.xor_zero]
  · rw [Nat.xor_div_two_pow, Nat.div_self (by decide)]
    have : x / 2 ^ 63 < 2 := by omega
    generalize x / 2 ^ 63 = q at this
    rcases (by omega : q = 0 ∨ q = 1) with rfl | rfl <;> decide
def negP (r : Int × Int) : Int × Int := (-r.1, r.2)
theorem negP_nearQ (s : Bool) (q : Nat) : nearQ (!s) q = negP (nearQ s q) := by
  unfold nearQ negP
  by_cases h : q ≤ 1073741823
  · rw [if_pos h, if_pos h]
    cases s <;> simp
  · rw [if_neg h, if_neg h]
    simp
theorem near_sign (s : Bool) (r : Nat) (h : r ≤ INF) : nearB (double.word (!s) r) = negP (nearB (double.word s r)) := by
  by_cases h2 : r < INF
  · rw [near_word _ _ h2, near_word _ _ h2, negP_nearQ]
  · obtain rfl : r = INF := by omega
    rw [near_word_inf, near_word_inf]
    rfl
theorem xor_not (a b : Bool) : (a ^^ !b) = !(a ^^ b) := by cases a <;> cases b <;> rfl
theorem not_xor (a b : Bool) : (!a ^^ b) = !(a ^^ b) := by cases a <;> cases b <;> rfl
theorem prod_flip (x y : Nat) (hx : x % 2 ^ 63 < INF) (hy : y < 2 ^ 64) : prodB x (flip y) = negP (prodB x y) := by
  obtain ⟨f1, f2, f3⟩ := flip_parts y hy
  rcases kinds y with h | h | h
  · have h' : flip y % 2 ^ 63 < INF := by rw [f2]; exact h
    obtain ⟨m, i, rx, hi, hm⟩ := read_fin x hx
    have e : ∀ z, z % 2 ^ 63 = y % 2 ^ 63 → z % 2 ^ 63 < INF → ∃ n j, double.read z = .number (z / 2 ^ 63 % 2 == 1) n j ∧ double.read y = .number (y / 2 ^ 63 % 2 == 1) n j := by
      intro z hz hf
      unfold Format.read
      rw [sw_eq, bin_eq, lp_eq, inf_eq]
      dsimp only
      rw [hz]
      by_cases h1 : y % 2 ^ 63 < 2 ^ 52
      · rw [if_pos h1, if_pos h1]; exact ⟨_, _, rfl, rfl⟩
      · rw [if_neg h1, if_neg h1, if_pos h, if_pos h]; exact ⟨_, _, rfl, rfl⟩
    obtain ⟨n, j, e1, e2⟩ := e (flip y) f2 h'
    obtain ⟨r, hr, hw⟩ := nearest_word (m * n) (i + j)
    have m1 : double.mul x (flip y) = some (double.nearest ((x / 2 ^ 63 % 2 == 1) ^^ (flip y / 2 ^ 63 % 2 == 1)) (m * n) (i + j)) := by unfold Format.mul; rw [rx, e1]; rfl
    have m2 : double.mul x y = some (double.nearest ((x / 2 ^ 63 % 2 == 1) ^^ (y / 2 ^ 63 % 2 == 1)) (m * n) (i + j)) := by unfold Format.mul; rw [rx, e2]; rfl
    unfold prodB
    rw [m1, m2, hw, hw, f3, xor_not]
    exact near_sign _ r hr
  · unfold prodB
    rw [fin_inf x _ (by rw [f2]; exact h) hx, fin_inf x _ h hx, f3, not_xor]
    by_cases h0 : mg (x % 2 ^ 63) = 0
    · rw [if_pos h0, if_pos h0]; rfl
    · rw [if_neg h0, if_neg h0]; exact near_sign _ INF (Nat.le_refl _)
  · unfold prodB
    rw [mul_nan_r x _ (by rw [f2]; exact h), mul_nan_r x _ h]
    rfl
theorem of_flip (b : Nat) (h : b < 2 ^ 64) : prodB (flip b) 4679240012837945344 = negP (prodB b 4679240012837945344) := by
  obtain ⟨f1, f2, f3⟩ := flip_parts b h
  rcases kinds b with h | h | h
  · rw [of_fin _ (by rw [f2]; exact h), of_fin _ h, f2, f3, negP_nearQ]
  · rw [of_inf _ (by rw [f2]; exact h), of_inf _ h]; rfl
  · rw [of_nan _ (by rw [f2]; exact h), of_nan _ h]; rfl
/-! ### a whole number, made a float -/
theorem ofInt (a : Int) (h : a.natAbs < 2 ^ 53) : ∃ r, floatOfInt .f64 a = double.word (decide (a < 0)) r ∧ r < INF ∧ mg r = a.natAbs * U := by
  obtain ⟨r, hr⟩ := rung_of a.natAbs 1074 h
  have hr' : mg r = a.natAbs * U := hr.trans (mul_U _).symm
  have hi : r < INF := by
    rcases Nat.lt_or_ge r INF with h1 | h1
    · exact h1
    · have h2 := mg_le h1
      have h3 := mg_big_inf a.natAbs h
      rw [hr'] at h2
      omega
  refine ⟨r, ?_, hi, hr'⟩
  show double.nearest (decide (a < 0)) a.natAbs 0 = _
  exact nearest_of _ _ _ r 1074 0 (Nat.le_of_lt hi) (by omega) (hr.symm.trans (Nat.mul_one _).symm)
theorem ofInt_parts (a : Int) (h : a.natAbs < 2 ^ 53) : floatOfInt .f64 a < 2 ^ 64 ∧ floatOfInt .f64 a % 2 ^ 63 < INF ∧ mg (floatOfInt .f64 a % 2 ^ 63) = a.natAbs * U ∧ (floatOfInt .f64 a / 2 ^ 63 % 2 == 1) = decide (a < 0) := by
  obtain ⟨r, e, hr, hm⟩ := ofInt a h
  obtain ⟨h1, h2, h3⟩ := word_parts (decide (a < 0)) r (Nat.lt_trans hr inf_lt)
  rw [e, h2]
  exact ⟨h1, hr, hm, h3⟩
theorem nearQ_int (a : Int) (h : -1073741823 ≤ a ∧ a ≤ 1073741823) : nearQ (decide (a < 0)) a.natAbs = (a, 0) := by
  unfold nearQ
  rw [if_pos (by omega)]
  by_cases h0 : a < 0
  · rw [decide_eq_true h0, if_pos rfl, show -(a.natAbs : Int) = a by omega]
  · rw [decide_eq_false h0, if_neg (by decide), show (a.natAbs : Int) = a by omega]
theorem one_mod : 4607182418800017408 % 2 ^ 63 = (1022 + 1) * 2 ^ 52 := by decide
theorem one_mg : mg (4607182418800017408 % 2 ^ 63) = U := ((congrArg mg one_mod).trans (mg_at 1022 1074 rfl)).trans U_eq.symm
/-- A length, once. -/
theorem once (a : Int) (h : -1073741823 ≤ a ∧ a ≤ 1073741823) : prodB (floatOfInt .f64 a) 4607182418800017408 = (a, 0) := by
  obtain ⟨r, e, hr, hm⟩ := ofInt a (by omega)
  obtain ⟨h1, h2, h3⟩ := word_parts (decide (a < 0)) r (Nat.lt_trans hr inf_lt)
  unfold prodB
  rw [e, mul_rung _ _ r (by rw [h2]; exact hr) (by decide) (by rw [h2, one_mg]), h3]
  rw [show (4607182418800017408 / 2 ^ 63 % 2 == 1) = false by decide, Bool.xor_false]
  show nearB _ = _
  rw [near_min, hm, half_exact a.natAbs, nearQ_int a h]
theorem half_zero : half 0 = 0 := by
  have := half_exact 0
  rw [Nat.zero_mul] at this
  exact this
/-- A length, no times. -/
theorem never (a : Int) (h : -1073741823 ≤ a ∧ a ≤ 1073741823) : prodB (floatOfInt .f64 a) 0 = (0, 0) := by
  obtain ⟨h1, h2, h3, h4⟩ := ofInt_parts a (by omega)
  unfold prodB
  have m0 : mg 0 = 0 := mg_small (by decide)
  rw [mul_rung _ 0 0 h2 (by decide) (by rw [Nat.zero_mod, m0, Nat.mul_zero, Nat.zero_mul])]
  show nearB _ = _
  rw [near_min, m0, half_zero]
  unfold nearQ
  rw [if_pos (by decide)]
  cases _ ^^ _ <;> rfl
theorem no_number (a : Int) (y : Nat) (h : INF < y % 2 ^ 63) : prodB (floatOfInt .f64 a) y = (0, 3) := by
  unfold prodB
  rw [mul_nan_r _ _ h]
theorem endless (a : Int) (h : -1073741823 ≤ a ∧ a ≤ 1073741823) (y : Nat) (hy : y % 2 ^ 63 = INF) : prodB (floatOfInt .f64 a) y = (0, if a = 0 then 3 else 2) := by
  obtain ⟨h1, h2, h3, h4⟩ := ofInt_parts a (by omega)
  unfold prodB
  rw [fin_inf _ _ hy h2, h3]
  by_cases h0 : a = 0
  · rw [if_pos h0, if_pos (by rw [h0]; exact Nat.zero_mul U)]
  · rw [if_neg h0, if_neg (Nat.mul_ne_zero (by omega) (Nat.ne_of_gt U_pos))]
    exact near_word_inf _
end Go.Proofs.YtkkadhhmdgbpiaaGreatDoor.FL
