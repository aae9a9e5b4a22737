/- strings.TrimFunc with the digits' predicate: nothing is left just of a text of digits alone. Plain. -/
import Derived.Shelf.GgClosure.StringsTrimFunc
import Derived.Lib.TrimUEq
namespace Go.Proofs.YtkkadhhmdgbpiaaGreatDoor.TR
open Go.Lib
def isDig (r : Nat) : Bool := decide (48 ≤ r) && decide (r ≤ 57)
theorem dig_lt {r : Nat} (h : isDig r = true) : r < 128 := by
  unfold isDig at h
  simp at h
  omega
theorem decN_big (n b0 b1 b2 b3 : Nat) (h : 128 ≤ b0) : 128 ≤ (decodeN n b0 b1 b2 b3).1 := by
  unfold decodeN
  rw [if_neg (by omega)]
  repeat' split
  all_goals (first | omega | (dsimp only; omega))
theorem dec_dig (s : ByteArray) (pos : Nat) : isDig (Utf8.decode s pos).1 = isDig (s.get! pos).toNat ∧ (isDig (s.get! pos).toNat = true → (Utf8.decode s pos).2 = 1) := by
  rw [decode_at]
  by_cases h : (s.get! pos).toNat < 128
  · rw [decodeN_ascii _ _ _ _ _ h]
    exact ⟨rfl, fun _ => rfl⟩
  · have h1 := decN_big (s.size - pos) _ (s.get! (pos + 1)).toNat (s.get! (pos + 2)).toNat (s.get! (pos + 3)).toNat (Nat.le_of_not_lt h)
    constructor
    · have a : isDig (s.get! pos).toNat = false := by
        cases hh : isDig (s.get! pos).toNat
        · rfl
        · exact absurd (dig_lt hh) h
      rw [a]
      cases hh : isDig (decodeN (s.size - pos) (s.get! pos).toNat (s.get! (pos + 1)).toNat (s.get! (pos + 2)).toNat (s.get! (pos + 3)).toNat).1
      · rfl
      · have := dig_lt hh; omega
    · intro hh
      exact absurd (dig_lt hh) h
theorem idx_all (s : ByteArray) : ∀ (f pos : Nat), s.size ≤ pos + f → (∀ i, pos ≤ i → i < s.size → isDig (s.get! i).toNat = true) → idxFuncFrom isDig false s f pos = -1
  | 0, pos, _, _ => rfl
  | f + 1, pos, hf, ha => by
    unfold idxFuncFrom
    split
    · rename_i hp
      obtain ⟨d1, d2⟩ := dec_dig s pos
      have hb := ha pos (Nat.le_refl _) hp
      rw [if_neg (by rw [d1, hb]; decide), d2 hb]
      exact idx_all s f (pos + 1) (by omega) (fun i h1 h2 => ha i (by omega) h2)
    · rfl
theorem idx_some (s : ByteArray) : ∀ (f pos : Nat), s.size ≤ pos + f → (¬ ∀ i, pos ≤ i → i < s.size → isDig (s.get! i).toNat = true) → ∃ k : Nat, idxFuncFrom isDig false s f pos = (k : Int) ∧ k < s.size ∧ isDig (s.get! k).toNat = false
  | 0, pos, hf, ha => absurd (fun i h1 h2 => by omega) ha
  | f + 1, pos, hf, ha => by
    unfold idxFuncFrom
    by_cases hp : pos < s.size
    · rw [if_pos hp]
      obtain ⟨d1, d2⟩ := dec_dig s pos
      cases hb : isDig (s.get! pos).toNat
      · rw [if_pos (by rw [d1, hb])]
        exact ⟨pos, rfl, hp, hb⟩
      · rw [if_neg (by rw [d1, hb]; decide), d2 hb]
        refine idx_some s f (pos + 1) (by omega) (fun h => ha (fun i h1 h2 => ?_))
        by_cases he : i = pos
        · subst he; exact hb
        · exact h i (by omega) h2
    · exact absurd (fun i h1 h2 => by omega) ha
theorem last_dig (l : List UInt8) (hl : l ≠ []) : isDig (decodeLastL l).1 = isDig (l.getD (l.length - 1) 0).toNat ∧ (isDig (l.getD (l.length - 1) 0).toNat = true → (decodeLastL l).2 = 1) := by
  unfold decodeLastL
  rw [if_neg hl]
  by_cases h : (l.getD (l.length - 1) 0).toNat < 128
  · rw [if_pos h]; exact ⟨rfl, fun _ => rfl⟩
  · rw [if_neg h]
    have a : isDig (l.getD (l.length - 1) 0).toNat = false := by
      cases hh : isDig (l.getD (l.length - 1) 0).toNat
      · rfl
      · exact absurd (dig_lt hh) h
    rw [a]
    refine ⟨?_, fun h => by cases h⟩
    dsimp only
    split
    · rename_i he
      cases hh : isDig (decodeL (l.drop (lastStart l))).1
      · rfl
      · exfalso
        have h1 := dig_lt hh
        rw [decodeL_N] at h1 he
        by_cases hb : ((l.drop (lastStart l)).getD 0 0).toNat < 128
        · rw [decodeN_ascii _ _ _ _ _ hb] at he
          have : lastStart l = l.length - 1 := by dsimp only at he; omega
          rw [this, getD_dropU] at hb
          exact h hb
        · have := decN_big (l.drop (lastStart l)).length _ ((l.drop (lastStart l)).getD 1 0).toNat ((l.drop (lastStart l)).getD 2 0).toNat ((l.drop (lastStart l)).getD 3 0).toNat (Nat.le_of_not_lt hb)
          omega
    · rfl
theorem last_some (s : ByteArray) : ∀ (f i : Nat), i ≤ f → i ≤ s.size → (¬ ∀ j, j < i → isDig (s.get! j).toNat = true) → 0 ≤ lastIdxFuncFrom isDig false s f i
  | 0, i, hf, _, ha => absurd (fun j h => by omega) ha
  | f + 1, i, hf, hi, ha => by
    unfold lastIdxFuncFrom
    by_cases h0 : 0 < i
    · rw [if_pos h0]
      have hlen : (s.data.toList.take i).length = i := by
        rw [List.length_take]
        have : s.data.toList.length = s.size := rfl
        omega
      have hne : s.data.toList.take i ≠ [] := fun h => by rw [h] at hlen; simp at hlen; omega
      obtain ⟨d1, d2⟩ := last_dig _ hne
      rw [hlen, getD_takeU _ _ _ (by omega), getD_get!'] at d1 d2
      cases hb : isDig (s.get! (i - 1)).toNat
      · rw [if_pos (by rw [d1, hb])]
        omega
      · rw [if_neg (by rw [d1, hb]; decide), d2 hb]
        refine last_some s f (i - 1) (by omega) (by omega) (fun h => ha (fun j hj => ?_))
        by_cases he : j = i - 1
        · subst he; exact hb
        · exact h j (by omega)
    · exact absurd (fun j h => by omega) ha
theorem trim_all (s : ByteArray) (h : ∀ i, i < s.size → isDig (s.get! i).toNat = true) : trimF isDig s = ⟨#[]⟩ := by
  have : idxFunc isDig false s = -1 := idx_all s s.size 0 (by omega) (fun i _ h2 => h i h2)
  unfold trimF trimRightF trimLeftF
  rw [if_pos this]
  apply ByteArray.ext
  simp
theorem trim_some (s : ByteArray) (h : ¬ ∀ i, i < s.size → isDig (s.get! i).toNat = true) : 0 < (trimF isDig s).size := by
  obtain ⟨k, hk, hk2, hk3⟩ := idx_some s s.size 0 (by omega) (fun hh => h (fun i hi => hh i (Nat.zero_le _) hi))
  have hk' : idxFunc isDig false s = (k : Int) := hk
  have hT : trimLeftF isDig s = s.extract k s.size := by
    unfold trimLeftF
    rw [if_neg (by rw [hk']; omega), hk', Int.toNat_natCast]
  unfold trimF
  rw [hT]
  generalize hs : s.extract k s.size = t
  have hts : t.size = s.size - k := by rw [← hs]; simp
  have ht0 : isDig (t.get! 0).toNat = false := by
    rw [← hk3]
    congr 2
    rw [← getD_get!', ← getD_get!', ← hs]
    have hd : (s.extract k s.size).data.toList = (s.data.toList.drop k).take (s.size - k) := by
      rw [ByteArray.data_extract]
      simp [List.extract_eq_take_drop]
    rw [hd, getD_takeU _ _ _ (by omega), getD_dropU, Nat.add_zero]
  have hl := last_some t t.size t.size (Nat.le_refl _) (Nat.le_refl _) (fun hh => by
    have := hh 0 (by omega)
    rw [ht0] at this
    cases this)
  unfold trimRightF rightEndF
  have hl' : 0 ≤ lastIdxFunc isDig false t := hl
  rw [if_pos hl']
  have hw := width_pos (t.extract (lastIdxFunc isDig false t).toNat t.size) 0
  rw [ByteArray.size_extract]
  by_cases h0 : (lastIdxFunc isDig false t).toNat = 0
  · rw [h0]
    have ht : t.extract 0 t.size = t := by apply ByteArray.ext; simp
    rw [ht]
    unfold decodeGoB
    rw [if_neg (by omega)]
    have := width_pos t 0
    omega
  · omega
end Go.Proofs.YtkkadhhmdgbpiaaGreatDoor.TR
