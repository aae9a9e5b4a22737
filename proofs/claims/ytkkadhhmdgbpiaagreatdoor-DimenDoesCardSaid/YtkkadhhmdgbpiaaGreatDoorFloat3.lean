/- A length as points and back; differences; how floats compare; the nearest length. Plain. -/
import Derived.Test.YtkkadhhmdgbpiaaGreatDoorFloat2
import Derived.Test.YtkkadhhmdgbpiaaGreatDoorDimScale
namespace Go.Proofs.YtkkadhhmdgbpiaaGreatDoor.FL
open Ieee Go.Proofs.YtkkadhhmdgbpiaaGreatDoor.P
theorem read_num (b : Nat) (h : b % 2 ^ 63 < INF) : ∃ m i, double.read b = .number (b / 2 ^ 63 % 2 == 1) m i ∧ m < 2 ^ 53 ∧ ∃ p : Nat, i + 1074 = (p : Int) ∧ m * 2 ^ p = mg (b % 2 ^ 63) := by
  unfold Format.read
  rw [sw_eq, bin_eq, lp_eq, inf_eq]
  dsimp only
  by_cases h1 : b % 2 ^ 63 < 2 ^ 52
  · rw [if_pos h1]
    exact ⟨_, _, rfl, by omega, 0, by omega, by rw [mg_small h1, Nat.pow_zero, Nat.mul_one]⟩
  · rw [if_neg h1, if_pos h]
    exact ⟨_, _, rfl, by omega, b % 2 ^ 63 / 2 ^ 52 - 1, by omega, by rw [mg_big (by omega)]⟩
theorem pt_read : double.read 4679240012837945344 = .number false (2 ^ 52) (-36) := by decide
theorem pow_split (n k : Nat) (h : k ≤ n) : 2 ^ n = 2 ^ (n - k) * 2 ^ k := by
  have := Nat.pow_add 2 (n - k) k
  rw [Nat.sub_add_cancel h] at this
  exact this
theorem shift_out (m p more w : Nat) (h : 52 ≤ more) (hm : m * 2 ^ p = w * 2 ^ 16) : 2 * (m * 2 ^ (more - 52)) * 2 ^ (p + 35) = w * 2 ^ more := by
  have e1 : 2 ^ (p + 35) = 2 ^ p * 2 ^ 35 := Nat.pow_add ..
  have e2 := pow_split more 52 h
  rw [e1, e2]
  generalize 2 ^ (more - 52) = z
  generalize 2 ^ p = y at hm
  have key : ∀ c : Nat, 2 * (m * z) * (y * c) = m * y * (z * (2 * c)) := fun c => by
    rw [Nat.mul_left_comm 2 m z, Nat.mul_mul_mul_comm, Nat.mul_comm 2 z, Nat.mul_assoc z 2 c]
  rw [key, hm, show 2 * 2 ^ 35 = 2 ^ 36 by decide, show (2 : Nat) ^ 52 = 2 ^ 16 * 2 ^ 36 by decide]
  generalize (2 : Nat) ^ 36 = c
  generalize (2 : Nat) ^ 16 = d
  rw [Nat.mul_assoc, Nat.mul_left_comm d z c]
theorem quot_even (m more : Nat) (h : 52 ≤ more) : (m <<< more) / 2 ^ 52 = m * 2 ^ (more - 52) ∧ (m <<< more) % 2 ^ 52 = 0 := by
  have e2 := pow_split more 52 h
  rw [Nat.shiftLeft_eq, e2, ← Nat.mul_assoc]
  exact ⟨Nat.mul_div_cancel _ (by decide), Nat.mul_mod_left _ _⟩
/-- A quotient by 65536, found. -/
theorem div_point (b r : Nat) (hb : b % 2 ^ 63 < INF) (hr : mg r * 2 ^ 16 = mg (b % 2 ^ 63)) : double.div b 4679240012837945344 = some (double.word (b / 2 ^ 63 % 2 == 1) (min r INF)) := by
  obtain ⟨m, i, rx, hm, p, hp, hv⟩ := read_num b hb
  unfold Format.div
  rw [rx, pt_read, fb_eq]
  have hl : m.log2 ≤ 52 := by
    by_cases h0 : m = 0
    · subst h0; decide
    · have := (Nat.log2_lt h0).2 hm; omega
  have l52 : (2 ^ 52 : Nat).log2 = 52 := by decide
  show Option.map double.write (some (Datum.number ((b / 2 ^ 63 % 2 == 1) ^^ false) (2 * ((m <<< (52 + 2 + (2 ^ 52 : Nat).log2 - m.log2)) / 2 ^ 52) + ((m <<< (52 + 2 + (2 ^ 52 : Nat).log2 - m.log2)) % 2 ^ 52 != 0).toNat) (i - -36 - ((52 + 2 + (2 ^ 52 : Nat).log2 - m.log2 : Nat) : Int) - 1))) = _
  rw [l52]
  generalize hmore : 52 + 2 + 52 - m.log2 = more
  have hm52 : 52 ≤ more := by omega
  obtain ⟨q1, q2⟩ := quot_even m more hm52
  rw [q1, q2, Bool.xor_false, Option.map_some]
  show some (double.nearest _ _ _) = _
  rw [nearest_min _ _ _ r (p + 35) more (by omega) ?_]
  show (2 * (m * 2 ^ (more - 52)) + 0) * _ = _
  rw [Nat.add_zero]
  exact shift_out m p more (mg r) hm52 (hv.trans hr.symm)
theorem pts_rung (a : Nat) (h : a < 2 ^ 53) : ∃ r, r < INF ∧ mg r * 2 ^ 16 = a * U := by
  obtain ⟨r, hr⟩ := rung_of a 1058 h
  have h16 : ∀ u k j : Nat, u = 2 ^ k → k = j + 16 → a * 2 ^ j * 2 ^ 16 = a * u := fun u k j hu hk => by subst hu hk; rw [Nat.mul_assoc, ← Nat.pow_add]
  have e : mg r * 2 ^ 16 = a * U := (congrArg (· * 2 ^ 16) hr).trans (h16 U 1074 1058 U_eq rfl)
  refine ⟨r, ?_, e⟩
  rcases Nat.lt_or_ge r INF with h1 | h1
  · exact h1
  · have h2 := mg_le h1
    have h3 := mg_big_inf a h
    omega
/-- A length as points, and back. -/
theorem float_back (a : Int) (h : -1073741823 ≤ a ∧ a ≤ 1073741823) : floatB a < 2 ^ 64 ∧ prodB (floatB a) 4679240012837945344 = (a, 0) := by
  obtain ⟨h1, h2, h3, h4⟩ := ofInt_parts a (by omega)
  obtain ⟨r, hr, hm⟩ := pts_rung a.natAbs (by omega)
  have hd := div_point _ r h2 (by rw [h3, hm])
  rw [h4, Nat.min_eq_left (Nat.le_of_lt hr)] at hd
  have hf : floatB a = double.word (decide (a < 0)) r := by unfold floatB; rw [hd]; rfl
  obtain ⟨w1, w2, w3⟩ := word_parts (decide (a < 0)) r (Nat.lt_trans hr inf_lt)
  rw [hf]
  refine ⟨w1, ?_⟩
  rw [of_fin _ (by rw [w2]; exact hr), w2, w3, hm, half_exact a.natAbs, nearQ_int a h]
/-! ### how floats compare -/
theorem cmp_lt (a b : Int) : (some (compare a b) == some Ordering.lt) = decide (a < b) := by
  simp only [compare, compareOfLessAndEq]
  by_cases h : a < b
  · rw [if_pos h, decide_eq_true h]; rfl
  · rw [if_neg h, decide_eq_false h]
    split <;> rfl
theorem cmp_gt (a b : Int) : (some (compare a b) == some Ordering.gt) = decide (b < a) := by
  simp only [compare, compareOfLessAndEq]
  by_cases h : a < b
  · rw [if_pos h, decide_eq_false (by omega)]; rfl
  · rw [if_neg h]
    by_cases h2 : a = b
    · rw [if_pos h2, decide_eq_false (by omega)]; rfl
    · rw [if_neg h2, decide_eq_true (by omega)]; rfl
theorem cmp_eq (a b : Int) : (some (compare a b) == some Ordering.eq) = decide (a = b) := by
  simp only [compare, compareOfLessAndEq]
  by_cases h : a < b
  · rw [if_pos h, decide_eq_false (by omega)]; rfl
  · rw [if_neg h]
    by_cases h2 : a = b
    · rw [if_pos h2, decide_eq_true h2]; rfl
    · rw [if_neg h2, decide_eq_false h2]; rfl
theorem V_word (s : Bool) (r : Nat) (h : r < 2 ^ 63) : V (double.word s r) = if s then -(mg r : Int) else mg r := by
  obtain ⟨h1, h2, h3⟩ := word_parts s r h
  unfold V
  rw [h2, h3]
theorem V_is (b : Nat) : V b = if (b / 2 ^ 63 % 2 == 1) then -(mg (b % 2 ^ 63) : Int) else mg (b % 2 ^ 63) := rfl
/-! ### differences -/
theorem signed_not (t : Bool) (n u : Nat) : signed (!t) n u = -signed t n u := by
  cases t <;> simp [signed]
theorem sub_fin (x y r : Nat) (hx : x % 2 ^ 63 < INF) (hy : y % 2 ^ 63 < INF) (hr : mg r = (V x - V y).natAbs) (hI : r < INF) : ∃ s, double.sub x y = some (double.word s r) ∧ V (double.word s r) = V x - V y := by
  obtain ⟨m, i, rx, hi, hm⟩ := read_fin x hx
  obtain ⟨n, j, ry, hj, hn⟩ := read_fin y hy
  have hVx := signed_V x m i hm
  have hVy := signed_V y n j hn
  generalize hs : (x / 2 ^ 63 % 2 == 1) = s at rx hVx
  generalize ht : (y / 2 ^ 63 % 2 == 1) = t at ry hVy
  have e1 : (i + 1074).toNat = (i - min i j).toNat + (min i j + 1074).toNat := by omega
  have e2 : (j + 1074).toNat = (j - min i j).toNat + (min i j + 1074).toNat := by omega
  rw [e1, signed_scale] at hVx
  rw [e2, signed_scale] at hVy
  have hop : double.sub x y = some (double.nearest (if signed s m (i - min i j).toNat + signed (!t) n (j - min i j).toNat = 0 then s && !t else decide (signed s m (i - min i j).toNat + signed (!t) n (j - min i j).toNat < 0)) (signed s m (i - min i j).toNat + signed (!t) n (j - min i j).toNat).natAbs (min i j)) := by
    unfold Format.sub
    rw [rx, ry]
    rfl
  rw [hop, signed_not]
  generalize signed s m (i - min i j).toNat = A at *
  generalize signed t n (j - min i j).toNat = B at *
  generalize hb : (min i j + 1074).toNat = b at *
  have htot : (A + -B) * 2 ^ b = V x - V y := by rw [← hVx, ← hVy, Int.add_mul, Int.neg_mul]; omega
  generalize A + -B = T at *
  generalize V x - V y = D at *
  have hpos : (0 : Int) < 2 ^ b := Int.pow_pos (by decide)
  have hab : T.natAbs * 2 ^ b = mg r := by
    rw [hr, ← htot, Int.natAbs_mul]
    rw [show ((2 : Int) ^ b) = ((2 ^ b : Nat) : Int) from (Int.natCast_pow 2 b).symm, Int.natAbs_natCast]
  have hnear := fun sg => nearest_of sg T.natAbs (min i j) r b 0 (Nat.le_of_lt hI) (by omega) (by rw [hab, Nat.pow_zero, Nat.mul_one])
  refine ⟨_, congrArg some (hnear _), ?_⟩
  rw [V_word _ _ (Nat.lt_trans hI inf_lt), hr]
  by_cases h0 : T = 0
  · have hD : D = 0 := by rw [← htot, h0, Int.zero_mul]
    rw [hD]
    simp
  · rw [if_neg h0]
    by_cases hneg : T < 0
    · have hD : D < 0 := by rw [← htot]; exact Int.mul_neg_of_neg_of_pos hneg hpos
      rw [decide_eq_true hneg, if_pos rfl]
      omega
    · have hD : 0 ≤ D := by rw [← htot]; exact Int.mul_nonneg (by omega) (Int.le_of_lt hpos)
      rw [decide_eq_false hneg, if_neg (by decide)]
      omega
/-! ### the nearest length of a finite float -/
/-- What a whole number is off its magnitude, is on the grid. -/
theorem off_rung (r q : Nat) (hq : q = half (mg r)) : ∃ d, mg d = ((q * U : Nat) - (mg r : Nat) : Int).natAbs := by
  have hu := U_H
  have hq' : q = (mg r + H) / U := by rw [hq, half_eq]
  have h1 : q * U ≤ mg r + H := by rw [hq']; exact Nat.div_mul_le_self _ _
  have h2 : mg r + H < q * U + U := by
    have := Nat.lt_mul_div_succ (mg r + H) U_pos
    rw [← hq', Nat.mul_add, Nat.mul_comm U q] at this
    omega
  obtain ⟨c, k, hc, hm⟩ : ∃ c k, c < 2 ^ 53 ∧ mg r = c * 2 ^ k := by
    by_cases h : r < 2 ^ 52
    · exact ⟨r, 0, by omega, by rw [mg_small h, Nat.pow_zero, Nat.mul_one]⟩
    · exact ⟨2 ^ 52 + r % 2 ^ 52, _, by omega, mg_big (by omega)⟩
  rcases Nat.eq_zero_or_pos q with h0 | h0
  · exact ⟨r, by rw [h0]; omega⟩
  have hqU : U ≤ q * U := Nat.le_mul_of_pos_left _ h0
  have split : ∀ u j, u = 2 ^ j → (k ≤ j → u = 2 ^ (j - k) * 2 ^ k) ∧ (j ≤ k → 2 ^ k = 2 ^ (k - j) * u) := fun u j hu => by
    subst hu
    exact ⟨fun h => by rw [← Nat.pow_add]; congr 1; omega, fun h => by rw [← Nat.pow_add]; congr 1; omega⟩
  obtain ⟨s1, s2⟩ := split U 1074 U_eq
  by_cases hk : k ≤ 1074
  · have e := s1 hk
    generalize 2 ^ (1074 - k) = z at e
    have hp : 0 < 2 ^ k := Nat.two_pow_pos k
    generalize hP : 2 ^ k = P at *
    have hqz : q * U = q * z * P := by rw [e, Nat.mul_assoc]
    have hd : ((q * U : Nat) - (mg r : Nat) : Int).natAbs = ((q * z : Nat) - (c : Nat) : Int).natAbs * P := by
      rw [hqz, hm]
      rw [show (((q * z * P : Nat) : Int) - ((c * P : Nat) : Int)) = (((q * z : Nat) : Int) - (c : Int)) * (P : Int) by push_cast; rw [Int.sub_mul], Int.natAbs_mul, Int.natAbs_natCast]
    have hle : ((q * z : Nat) - (c : Nat) : Int).natAbs < 2 ^ 53 := by
      have h3 : ((q * U : Nat) - (mg r : Nat) : Int).natAbs ≤ mg r := by omega
      rw [hd, hm] at h3
      have := Nat.le_of_mul_le_mul_right h3 hp
      omega
    obtain ⟨d, hd2⟩ := rung_of _ k hle
    exact ⟨d, by rw [hd2, hd, hP]⟩
  · have e := s2 (by omega)
    have hmul : mg r = c * 2 ^ (k - 1074) * U := by rw [hm, e, Nat.mul_assoc]
    have hqq : q = c * 2 ^ (k - 1074) := by rw [hq, hmul, half_exact]
    refine ⟨0, ?_⟩
    rw [hmul, hqq, mg_small (by decide)]
    omega
/-- How far a whole number is off. -/
theorem off_bound (m q : Nat) (hq : q = half m) : -(H : Int) < ((q * U : Nat) : Int) - m ∧ ((q * U : Nat) : Int) - m ≤ H ∧ (((q * U : Nat) : Int) - m = H → 0 < m) := by
  have hu := U_H
  have hq' : q = (m + H) / U := by rw [hq, half_eq]
  have h1 : q * U ≤ m + H := by rw [hq']; exact Nat.div_mul_le_self _ _
  have h2 : m + H < q * U + U := by
    have := Nat.lt_mul_div_succ (m + H) U_pos
    rw [← hq', Nat.mul_add, Nat.mul_comm U q] at this
    omega
  refine ⟨by omega, by omega, fun h => ?_⟩
  rcases Nat.eq_zero_or_pos q with h0 | h0
  · rw [h0, Nat.zero_mul] at h; omega
  · have hqU : U ≤ q * U := Nat.le_mul_of_pos_left _ h0
    omega
end Go.Proofs.YtkkadhhmdgbpiaaGreatDoor.FL
namespace Go.Proofs.YtkkadhhmdgbpiaaGreatDoor.P
@[go_sem] theorem unary_negf (b : Nat) : Op.unary .neg (.float .f64 b) = pure (.float .f64 (FL.flip b)) := rfl
end Go.Proofs.YtkkadhhmdgbpiaaGreatDoor.P
