/- Rows of decimal digits: so many of a number, read back. Plain. -/
import Derived.Lib.ItoaNum
import Derived.Lib.Atoi
import Derived.Lib.Repeat
import Derived.Lib.IndexBytes
import Derived.Lib.IndexMore
namespace Go.Proofs.YtkkadhhmdgbpiaaGreatDoor.DC
open Go.Lib
/-- The last k digits of d. -/
def dig : Nat → Nat → List UInt8
  | 0, _ => []
  | k + 1, d => dig k (d / 10) ++ [UInt8.ofNat (48 + d % 10)]
theorem dig_len : ∀ k d, (dig k d).length = k
  | 0, _ => rfl
  | k + 1, d => by simp [dig, dig_len k]
theorem byte_val (v : Nat) (h : v < 10) : (UInt8.ofNat (48 + v)).toNat = 48 + v := by
  rw [UInt8.toNat_ofNat']; omega
theorem digitVal_of (v : Nat) (h : v < 10) : digitVal (UInt8.ofNat (48 + v)) = some v := by
  unfold digitVal
  rw [byte_val v h, if_pos (by omega), show 48 + v - 48 = v by omega]
theorem dig_is : ∀ k d, ∀ b ∈ dig k d, 48 ≤ b.toNat ∧ b.toNat ≤ 57
  | 0, _, b, h => by cases h
  | k + 1, d, b, h => by
    rcases List.mem_append.1 h with h | h
    · exact dig_is k _ b h
    · obtain rfl := List.mem_singleton.1 h
      rw [byte_val _ (by omega)]; omega
theorem decFrom_snoc : ∀ (l : List UInt8) (acc n v : Nat) (b : UInt8), decFrom acc l = some n → digitVal b = some v → decFrom acc (l ++ [b]) = some (n * 10 + v)
  | [], acc, n, v, b, h, hb => by
    obtain rfl : acc = n := by simpa [decFrom] using h
    simp [decFrom, hb]
  | c :: l, acc, n, v, b, h, hb => by
    rw [List.cons_append]
    unfold decFrom at h ⊢
    cases hc : digitVal c with
    | none => rw [hc] at h; cases h
    | some d => rw [hc] at h; exact decFrom_snoc l _ n v b h hb
theorem decFrom_dig : ∀ k d acc, d < 10 ^ k → decFrom acc (dig k d) = some (acc * 10 ^ k + d)
  | 0, d, acc, h => by
    have : d = 0 := by simpa using h
    subst this
    simp [dig, decFrom]
  | k + 1, d, acc, h => by
    have h2 : d / 10 < 10 ^ k := by rw [Nat.div_lt_iff_lt_mul (by decide), ← Nat.pow_succ]; exact h
    rw [dig, decFrom_snoc _ acc _ (d % 10) _ (decFrom_dig k (d / 10) acc h2) (digitVal_of _ (by omega)), Nat.pow_succ]
    congr 1
    rw [← Nat.mul_assoc]
    generalize acc * 10 ^ k = x
    omega
theorem decNat_dig (k d : Nat) (hk : 1 ≤ k) (h : d < 10 ^ k) : decNat (dig k d) = some d := by
  unfold decNat
  have : (dig k d).isEmpty = false := by
    have := dig_len k d
    cases hd : dig k d with
    | nil => rw [hd] at this; simp at this; omega
    | cons a l => rfl
  rw [this, if_neg (by decide), decFrom_dig k d 0 h, Nat.zero_mul, Nat.zero_add]
theorem dig_zero : ∀ j, dig j 0 = repeatL [48] j
  | 0 => rfl
  | j + 1 => by
    rw [repeatL_add [48] j 1, dig, Nat.zero_div, dig_zero j]
    rfl
/-- A number's digits, with noughts ahead. -/
theorem pad_dig : ∀ k d, 1 ≤ k → d < 10 ^ k → repeatL [48] (k - (decDigits d).length) ++ decDigits d = dig k d
  | 0, _, h, _ => by omega
  | k + 1, d, _, h => by
    rw [decDigits]
    by_cases hd : d < 10
    · rw [dif_pos hd, dig, Nat.div_eq_of_lt hd, Nat.mod_eq_of_lt hd, dig_zero]
      rfl
    · rw [dif_neg hd]
      have hk : 1 ≤ k := by
        rcases Nat.eq_zero_or_pos k with h0 | h0
        · subst h0; simp at h; omega
        · exact h0
      have h2 : d / 10 < 10 ^ k := by rw [Nat.div_lt_iff_lt_mul (by decide), ← Nat.pow_succ]; exact h
      have ih := pad_dig k (d / 10) hk h2
      rw [dig, ← ih, List.length_append, List.length_singleton, Nat.add_sub_add_right, List.append_assoc]
theorem decDigits_from : ∀ n q, q < 10 ^ (n + 1) → decFrom 0 (decDigits q) = some q ∧ (∀ b ∈ decDigits q, 48 ≤ b.toNat ∧ b.toNat ≤ 57) ∧ (decDigits q).length ≤ n + 1 ∧ 1 ≤ (decDigits q).length
  | 0, q, h => by
    have h : q < 10 := by simpa using h
    rw [decDigits, dif_pos h]
    refine ⟨by unfold decFrom; rw [digitVal_of q h]; simp [decFrom], fun b hb => ?_, by simp, by simp⟩
    obtain rfl := List.mem_singleton.1 hb
    rw [byte_val _ h]; omega
  | n + 1, q, h => by
    rw [decDigits]
    by_cases hd : q < 10
    · rw [dif_pos hd]
      refine ⟨by unfold decFrom; rw [digitVal_of q hd]; simp [decFrom], fun b hb => ?_, by simp, by simp⟩
      obtain rfl := List.mem_singleton.1 hb
      rw [byte_val _ hd]; omega
    · rw [dif_neg hd]
      have h2 : q / 10 < 10 ^ (n + 1) := by rw [Nat.div_lt_iff_lt_mul (by decide), ← Nat.pow_succ]; exact h
      obtain ⟨i1, i2, i3, i4⟩ := decDigits_from n (q / 10) h2
      refine ⟨?_, fun b hb => ?_, by simp; omega, by simp⟩
      · rw [decFrom_snoc _ 0 _ (q % 10) _ i1 (digitVal_of _ (by omega))]
        congr 1
        omega
      · rcases List.mem_append.1 hb with hb | hb
        · exact i2 b hb
        · obtain rfl := List.mem_singleton.1 hb
          rw [byte_val _ (by omega)]; omega
theorem decNat_dec (n q : Nat) (h : q < 10 ^ (n + 1)) : decNat (decDigits q) = some q := by
  obtain ⟨h1, _, _, h4⟩ := decDigits_from n q h
  unfold decNat
  have : (decDigits q).isEmpty = false := by
    cases hd : decDigits q with
    | nil => rw [hd] at h4; simp at h4
    | cons a l => rfl
  rw [this, if_neg (by decide), h1]
/-- Cut at the first of a byte that is not in what stands ahead. -/
theorem occ_first : ∀ (l r : List UInt8) (c : UInt8), (∀ b ∈ l, b ≠ c) → index (l ++ c :: r) [c] = l.length := by
  intro l r c h
  refine index_first (by simp) ?_ ?_
  · rw [occAt_iff_take _ _ _ (by simp)]
    simp
  · intro j hj
    cases ho : occAt (l ++ c :: r) [c] j with
    | false => rfl
    | true =>
      have := occAt_head rfl ho
      rw [List.getElem?_append_left hj, List.getElem?_eq_getElem hj] at this
      exact absurd (Option.some.inj this) (h _ (List.getElem_mem hj))
theorem cut_at (l r : List UInt8) (c : UInt8) (h : ∀ b ∈ l, b ≠ c) : cut (l ++ c :: r) [c] = (l, r, true) := by
  unfold cut
  rw [occ_first l r c h, if_pos (by omega), Int.toNat_natCast, List.take_left]
  congr 2
  rw [List.drop_append, List.drop_of_length_le (by simp)]
  simp
theorem trim_suf (l p : List UInt8) : hasSuffix (l ++ p) p = true ∧ trimSuffix (l ++ p) p = l := by
  have h : hasSuffix (l ++ p) p = true := by
    unfold hasSuffix
    exact List.isSuffixOf_iff_suffix.2 ⟨l, rfl⟩
  refine ⟨h, ?_⟩
  unfold trimSuffix
  rw [if_pos h]
  simp
theorem trim_pre (neg : Bool) (l : List UInt8) (h : l.head? ≠ some 45) : trimPrefix ((if neg then [45] else []) ++ l) [45] = l ∧ hasPrefix ((if neg then [45] else []) ++ l) [45] = neg := by
  unfold trimPrefix hasPrefix
  cases neg
  · have : [45].isPrefixOf l = false := by
      cases l with
      | nil => rfl
      | cons a l =>
        have : a ≠ 45 := fun e => h (by rw [e]; rfl)
        simp [List.isPrefixOf]
        exact fun e => this e.symm
    simp [this]
  · simp [List.isPrefixOf]
end Go.Proofs.YtkkadhhmdgbpiaaGreatDoor.DC
