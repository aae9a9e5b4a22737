/- What Text writes is read as it was, and what a text with a digit less is read as. Plain. -/
import Derived.Test.YtkkadhhmdgbpiaaGreatDoorDecimal
import Derived.Test.YtkkadhhmdgbpiaaGreatDoorDimParse1
namespace Go.Proofs.YtkkadhhmdgbpiaaGreatDoor.DC
open Go.Lib Go.Proofs.YtkkadhhmdgbpiaaGreatDoor.P
set_option linter.unusedVariables false
/-- A length's text: a sign or none, whole points, k digits. -/
def txt (neg : Bool) (q k p : Nat) : List UInt8 := (if neg then [45] else []) ++ (decDigits q ++ 46 :: (dig k p ++ [112, 116]))
theorem textQ_eq (q rest : Nat) (h : rest < 65536) : textQ q rest = txt false q (kf rest 4 1) (nr (rest * 10 ^ (kf rest 4 1)) 65536) := by
  unfold textQ txt
  have := kf_le rest 4 1
  have hp := pad_dig (kf rest 4 1) _ (by omega) (kf_lt rest h)
  rw [← hp]
  simp [List.append_assoc]
/-- Parse, at such a text. -/
def readN (neg : Bool) (n : Nat) : Int × Int := if n ≤ 1073741823 then (if neg then -(n : Int) else (n : Int), 0) else (0, 2)
theorem parse_txt (neg : Bool) (q k p : Nat) (hq : q < 100000) (hk : 1 ≤ k) (hk2 : k ≤ 10) (hp : p < 10 ^ k) : parseE (bOf (txt neg q k p)) = readN neg (65536 * q + nr (65536 * p) (10 ^ k)) := by
  obtain ⟨d1, d2, d3, d4⟩ := decDigits_from 4 q hq
  have hhead : (decDigits q ++ 46 :: (dig k p ++ [112, 116])).head? ≠ some 45 := by
    cases hd : decDigits q with
    | nil => rw [hd] at d4; simp at d4
    | cons a l =>
      intro he
      have : a = 45 := by simpa using he
      have := d2 a (by rw [hd]; exact List.mem_cons_self)
      rw [‹a = 45›] at this
      exact absurd this.1 (by decide)
  obtain ⟨t1, t2⟩ := trim_pre neg _ hhead
  obtain ⟨s1, s2⟩ := trim_suf (decDigits q ++ 46 :: dig k p) [112, 116]
  have hc := cut_at (decDigits q) (dig k p) 46 (fun b hb he => by
    have := d2 b hb
    rw [he] at this
    exact absurd this.1 (by decide))
  have nW : numE (bOf (decDigits q)) 5 = ((q : Int), 0) := by
    unfold numE bOf
    rw [if_pos (by show (decDigits q).toArray.size ≤ 5; simp only [List.size_toArray]; exact d3)]
    show (match decNat (decDigits q) with | some n => ((n : Int), (0 : Int)) | none => (0, 5)) = _
    rw [decNat_dec 4 q hq]
  have nP : numE (bOf (dig k p)) 10 = ((p : Int), 0) := by
    unfold numE bOf
    rw [if_pos (by show (dig k p).toArray.size ≤ 10; simp only [List.size_toArray, dig_len]; exact hk2)]
    show (match decNat (dig k p) with | some n => ((n : Int), (0 : Int)) | none => (0, 5)) = _
    rw [decNat_dig k p hk hp]
  have hsz : (bOf (dig k p)).size = k := by show (dig k p).toArray.size = k; simp [dig_len]
  have hs : sumE (bOf (decDigits q)) (bOf (dig k p)) true = (((65536 * q + nr (65536 * p) (10 ^ k) : Nat) : Int), 0) := by
    unfold sumE
    rw [nW, nP, hsz]
    simp only [if_true, Int.toNat_natCast]
    congr 1
  have hdata : (bOf (txt neg q k p)).data.toList = txt neg q k p := rfl
  unfold parseE
  rw [hdata]
  have hform : decDigits q ++ 46 :: (dig k p ++ [112, 116]) = (decDigits q ++ 46 :: dig k p) ++ [112, 116] := by simp
  unfold txt
  rw [t1, t2, hform]
  dsimp only
  rw [s1, if_pos rfl, s2, hc]
  dsimp only
  rw [hs]
  dsimp only
  generalize 65536 * q + nr (65536 * p) (10 ^ k) = n
  unfold readN lenB
  rw [if_pos rfl]
  by_cases h : n ≤ 1073741823
  · rw [if_pos h, decide_eq_true (by omega), decide_eq_true (by omega), if_pos (by decide)]
  · rw [if_neg h, decide_eq_false (p := (n : Int) ≤ 1073741823) (by omega), Bool.and_false, if_neg (by decide)]
theorem five_do (rest : Nat) (h : rest < 65536) : nr (65536 * nr (rest * 10 ^ 5) 65536) (10 ^ 5) = rest := by
  unfold nr
  omega
theorem kf_reads (rest : Nat) (h : rest < 65536) : nr (65536 * nr (rest * 10 ^ (kf rest 4 1)) 65536) (10 ^ (kf rest 4 1)) = rest := by
  rcases kf_ok rest 4 1 with h1 | h1
  · rw [h1]; exact five_do rest h
  · have := (okK_true h1).2
    rw [Nat.mul_comm 65536]
    exact this
theorem textE_bytes (a : Int) (h : -1073741823 ≤ a ∧ a ≤ 1073741823) : textE a = (bOf (txt (decide (a < 0)) (a.natAbs / 65536) (kf (a.natAbs % 65536) 4 1) (nr (a.natAbs % 65536 * 10 ^ (kf (a.natAbs % 65536) 4 1)) 65536)), 0) := by
  unfold textE
  have hl : lenB a = true := by unfold lenB; rw [decide_eq_true h.1, decide_eq_true h.2]; rfl
  rw [if_pos hl]
  unfold textN
  rw [textQ_eq _ _ (Nat.mod_lt _ (by decide))]
  by_cases h0 : a < 0
  · rw [if_pos h0, decide_eq_true h0]; rfl
  · rw [if_neg h0, decide_eq_false h0]; rfl
/-- What Text tells is read as it was. -/
theorem text_back (a : Int) (h : -1073741823 ≤ a ∧ a ≤ 1073741823) : parseE (textE a).1 = (a, 0) := by
  rw [textE_bytes a h]
  have hr : a.natAbs % 65536 < 65536 := Nat.mod_lt _ (by decide)
  have := kf_le (a.natAbs % 65536) 4 1
  rw [parse_txt _ _ _ _ (by omega) (by omega) (by omega) (kf_lt _ hr), kf_reads _ hr]
  rw [show 65536 * (a.natAbs / 65536) + a.natAbs % 65536 = a.natAbs by omega]
  unfold readN
  rw [if_pos (by omega)]
  by_cases h0 : a < 0
  · rw [decide_eq_true h0, if_pos rfl, show -(a.natAbs : Int) = a by omega]
  · rw [decide_eq_false h0, if_neg (by decide), show (a.natAbs : Int) = a by omega]
/-! ### a digit less -/
theorem kf_before (rest : Nat) : ∀ f k j, k ≤ j → j < kf rest f k → okK rest j = false
  | 0, k, j, h1, h2 => by unfold kf at h2; omega
  | f + 1, k, j, h1, h2 => by
    unfold kf at h2
    cases hk : okK rest k with
    | true => rw [hk, if_pos rfl] at h2; omega
    | false =>
      rw [hk, if_neg (by decide)] at h2
      by_cases hj : j = k
      · rw [hj]; exact hk
      · exact kf_before rest f (k + 1) j (by omega) h2
theorem short_no (rest j e : Nat) (hr : rest < 65536) (h1 : 1 ≤ j) (h4 : j ≤ 4) (hno : okK rest j = false) (he : e < 10 ^ j) : nr (65536 * e) (10 ^ j) ≠ rest := by
  intro h
  have key : e = nr (rest * 10 ^ j) 65536 := by
    unfold nr at h ⊢
    rcases (by omega : j = 1 ∨ j = 2 ∨ j = 3 ∨ j = 4) with rfl | rfl | rfl | rfl <;> omega
  unfold okK at hno
  rw [← key, Nat.mul_comm e, h, decide_eq_true he] at hno
  simp at hno
/-- No text with a digit less is read as the number. -/
theorem short_read (a : Int) (h : -1073741823 ≤ a ∧ a ≤ 1073741823) (j e : Nat) (hj : 1 ≤ j) (hk : j < kf (a.natAbs % 65536) 4 1) (he : e < 10 ^ j) :
    (parseE (bOf (txt (decide (a < 0)) (a.natAbs / 65536) j e))).1 = a → (parseE (bOf (txt (decide (a < 0)) (a.natAbs / 65536) j e))).2 = 0 → False := by
  have := kf_le (a.natAbs % 65536) 4 1
  have hr : a.natAbs % 65536 < 65536 := Nat.mod_lt _ (by decide)
  have hne := short_no _ j e hr hj (by omega) (kf_before _ 4 1 j hj hk) he
  rw [parse_txt _ _ _ _ (by omega) hj (by omega) he]
  generalize nr (65536 * e) (10 ^ j) = m at hne
  unfold readN
  by_cases hb : 65536 * (a.natAbs / 65536) + m ≤ 1073741823
  · rw [if_pos hb]
    intro h1 _
    by_cases h0 : a < 0
    · rw [decide_eq_true h0, if_pos rfl] at h1; dsimp only at h1; omega
    · rw [decide_eq_false h0, if_neg (by decide)] at h1; dsimp only at h1; omega
  · rw [if_neg hb]
    intro _ h2
    exact absurd h2 (by decide)
end Go.Proofs.YtkkadhhmdgbpiaaGreatDoor.DC
