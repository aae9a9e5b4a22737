/- Layer 13: what konst.Get and konst.Put answer, by plain functions of the bytes and the numbers. -/
import Derived.Test.YtgleffjeaognfaaKonstName
import Derived.Test.YtgleffjeaognfaaPx6
import Derived.Test.YtgleffjeaognfaaKonstPut
import Derived.Test.YtgleffjeaognfaaBackSpec
namespace Go.Proofs.Ytgleffjeaognfaa.P
open Go.RowKit Go.Proofs.YtgleffjeaognfaaW.PrintWords Go.Proofs.YtgleffjeaognfaaW.PrintLast Go.Proofs.YtgleffjeaognfaaW.PrintMore Go.Proofs.Ytgleffjeaognfaa.BN
set_option linter.unusedVariables false
set_option linter.unusedSimpArgs false
theorem sizeK_abs (k : Nat) : (sizeK k).natAbs = 2 := by unfold sizeK; split <;> decide
theorem sizeK_ok (k : Nat) : sizeB (sizeK k) = true := by unfold sizeK; split <;> decide
theorem tot_sizes : ∀ k, tot (sizesUpTo k) = 2 * posK k
  | 0 => rfl
  | k + 1 => by
    have h := sizeK_abs k
    simp only [sizesUpTo, posK, tot_append, tot_sizes k, tot, h]
    cases moreK k
    · simp [tot]; omega
    · simp [tot]; omega
theorem right_sizes : rightB (sizesUpTo 56) = true := by decide +kernel
theorem tot_56 : tot (sizesUpTo 56) = 214 := by rw [tot_sizes]; decide
theorem fitsAll_append : ∀ (a b c d : List Int), a.length = c.length → fitsAll (a ++ b) (c ++ d) = (fitsAll a c && fitsAll b d)
  | [], b, [], d, _ => by simp [fitsAll]
  | n :: a, b, v :: c, d, h => by
    simp only [List.cons_append, fitsAll]
    rw [fitsAll_append a b c d (by simpa using h), Bool.and_assoc]
theorem putAll_append : ∀ (a b c d : List Int), a.length = c.length → putAll (a ++ b) (c ++ d) = putAll a c ++ putAll b d
  | [], b, [], d, _ => by simp [putAll]
  | n :: a, b, v :: c, d, h => by
    simp only [List.cons_append, putAll]
    rw [putAll_append a b c d (by simpa using h), List.append_assoc]
def okK (l : List Int) : Nat → Bool
  | 0 => true
  | k + 1 => okK l k && fitsB (rd l (k : Int)) (sizeK k)
def outK (l : List Int) : Nat → List UInt8
  | 0 => []
  | k + 1 => outK l k ++ putB (rd l (k : Int)) 2 ++ (if moreK k then [0, 0] else [])
theorem len_eq (l : List Int) (k : Nat) : (sizesUpTo k).length = (spreadUpTo l k).length := by rw [sizesUpTo_length, spreadUpTo_length]
theorem fits_ok (l : List Int) : ∀ k, fitsAll (sizesUpTo k) (spreadUpTo l k) = okK l k
  | 0 => rfl
  | k + 1 => by
    have hl := len_eq l k
    have h0 : fitsB 0 2 = true := by decide
    simp only [sizesUpTo, spreadUpTo, okK]
    rw [List.append_assoc, List.append_assoc, fitsAll_append _ _ _ _ hl, fits_ok l k]
    cases moreK k <;> simp [fitsAll, h0]
theorem put_out (l : List Int) : ∀ k, putAll (sizesUpTo k) (spreadUpTo l k) = outK l k
  | 0 => rfl
  | k + 1 => by
    have hl := len_eq l k
    have h0 : putB 0 2 = [0, 0] := by decide
    have h := sizeK_abs k
    simp only [sizesUpTo, spreadUpTo, outK]
    rw [List.append_assoc, List.append_assoc, putAll_append _ _ _ _ hl, put_out l k]
    cases moreK k <;> simp [putAll, h0, h]
theorem okK_at (l : List Int) : ∀ n, okK l n = true → ∀ k, k < n → fitsB (rd l (k : Int)) (sizeK k) = true
  | 0, _, k, hk => absurd hk (by omega)
  | n + 1, h, k, hk => by
    simp only [okK, Bool.and_eq_true] at h
    by_cases e : k = n
    · subst e; exact h.2
    · exact okK_at l n h.1 k (by omega)
theorem outK_length (l : List Int) : ∀ k, (outK l k).length = 2 * posK k
  | 0 => rfl
  | k + 1 => by
    have h2 : ∀ v : Int, (putB v 2).length = 2 := fun v => rfl
    simp only [outK, posK, List.length_append, outK_length l k, h2]
    cases moreK k
    · simp; omega
    · simp; omega
def isK (l : List Int) : Bool := decide (l.length = 56) && okK l 56
theorem kpspec_eq (l : List Int) : kpspec l = if isK l = true then (⟨(outK l 56).toArray⟩, 0) else (⟨#[]⟩, 1) := by
  unfold kpspec
  by_cases hl : l.length = 56
  · have hs := fits_ok l 56
    have hp := put_out l 56
    have hle := len_eq l 56
    have hr := right_sizes
    rw [if_pos hl]
    unfold isK
    generalize sizesUpTo 56 = S at hs hp hle hr ⊢
    generalize spreadUpTo l 56 = T at hs hp hle ⊢
    have hps : pspec S T = if okK l 56 = false then (⟨#[]⟩, 2) else (⟨(outK l 56).toArray⟩, 0) := by
      unfold pspec
      rw [if_neg (by rw [hr]; simp [hle]), hs, hp]
    rw [hps]
    cases hk : okK l 56
    · simp
    · simp [hl]
  · rw [if_neg hl]
    unfold isK
    simp [hl]
theorem put_k (l : List Int) (h : l.length ≤ 1000000000) : konst_Put.f l = some (if isK l = true then (⟨(outK l 56).toArray⟩, 0) else (⟨#[]⟩, 1)) := by
  unfold konst_Put.f; rw [if_pos h, kpspec_eq]
theorem is_k (l : List Int) (h : l.length ≤ 1000000000) : konst_Is.f l = some (isK l) := by
  unfold konst_Is.f
  rw [put_k l h, Option.bind_some]
  cases isK l <;> simp
/-- A part of a row of sizes. -/
theorem sizes_split (k : Nat) : ∀ d, ∃ R, sizesUpTo (k + 1 + d) = sizesUpTo k ++ sizeK k :: R
  | 0 => ⟨_, by simp only [sizesUpTo, List.append_assoc, List.singleton_append, Nat.add_zero]; rfl⟩
  | d + 1 => by
    obtain ⟨R, hR⟩ := sizes_split k d
    refine ⟨R ++ [sizeK (k + 1 + d)] ++ (if moreK (k + 1 + d) then [2] else []), ?_⟩
    show sizesUpTo (k + 1 + d) ++ _ ++ _ = _
    rw [hR]
    simp [List.append_assoc]
theorem spread_split (l : List Int) (k : Nat) : ∀ d, ∃ R, spreadUpTo l (k + 1 + d) = spreadUpTo l k ++ rd l (k : Int) :: R
  | 0 => ⟨_, by simp only [spreadUpTo, List.append_assoc, List.singleton_append, Nat.add_zero]; rfl⟩
  | d + 1 => by
    obtain ⟨R, hR⟩ := spread_split l k d
    refine ⟨R ++ [rd l ((k + 1 + d : Nat) : Int)] ++ (if moreK (k + 1 + d) then [0] else []), ?_⟩
    show spreadUpTo l (k + 1 + d) ++ _ ++ _ = _
    rw [hR]
    simp [List.append_assoc]
theorem rd_mid (A R : List Int) (v : Int) (n : Nat) (h : A.length = n) : rd (A ++ v :: R) (n : Int) = v := by
  subst h
  simp [rd]
theorem rd_vals (b : List UInt8) (k : Nat) (h : k < 56) : rd (vals b (sizesUpTo 56)) (posK k : Int) = tvl (b.drop (2 * posK k)) 2 (sizeK k) := by
  obtain ⟨R, hR⟩ := sizes_split k (55 - k)
  rw [show k + 1 + (55 - k) = 56 by omega] at hR
  have ha := sizeK_abs k
  rw [hR, vals_append, tot_sizes]
  simp only [vals, ha]
  exact rd_mid _ _ _ _ (by rw [vals_length, sizesUpTo_length])
theorem rd_spread (l : List Int) (k : Nat) (h : k < 56) : rd (spreadUpTo l 56) (posK k : Int) = rd l (k : Int) := by
  obtain ⟨R, hR⟩ := spread_split l k (55 - k)
  rw [show k + 1 + (55 - k) = 56 by omega] at hR
  rw [hR]
  exact rd_mid _ _ _ _ (spreadUpTo_length l k)
def gotK (b : List UInt8) : Nat → List Int
  | 0 => []
  | k + 1 => gotK b k ++ [tvl (b.drop (2 * posK k)) 2 (sizeK k)]
theorem gotK_length (b : List UInt8) : ∀ k, (gotK b k).length = k
  | 0 => rfl
  | k + 1 => by simp [gotK, gotK_length b k]
theorem picks_gen (G : List Int) (F : Nat → List Int) (f : Nat → Int) (h0 : F 0 = []) (hF : ∀ k, k < 56 → F (k + 1) = F k ++ [f k]) (hG : ∀ k, k < 56 → rd G (posK k : Int) = f k) : ∀ k, k ≤ 56 → picksUpTo G k = F k
  | 0, _ => h0.symm
  | k + 1, h => by
    have ih := picks_gen G F f h0 hF hG k (by omega)
    rw [picksUpTo, hG k (by omega), ih, hF k (by omega)]
theorem picks_vals (b : List UInt8) : picksUpTo (vals b (sizesUpTo 56)) 56 = gotK b 56 :=
  picks_gen _ (gotK b) (fun k => tvl (b.drop (2 * posK k)) 2 (sizeK k)) rfl (fun _ _ => rfl) (fun k hk => rd_vals b k hk) 56 (Nat.le_refl _)
theorem take_rd (l : List Int) (k : Nat) (h : k < l.length) : l.take (k + 1) = l.take k ++ [rd l (k : Int)] := by
  rw [List.take_succ_eq_append_getElem h]
  simp [rd, List.getD_eq_getElem?_getD, h]
theorem picks_spread (l : List Int) (hl : l.length = 56) : picksUpTo (spreadUpTo l 56) 56 = l.take 56 :=
  picks_gen _ (fun k => l.take k) (fun k => rd l (k : Int)) (by simp) (fun k hk => take_rd l k (by omega)) (fun k hk => rd_spread l k hk) 56 (Nat.le_refl _)
theorem get_core (s : ByteArray) (a : Int) (S : List Int) (hr : rightB S = true) (ht : tot S = 214) : gspec s a S = if a < 0 then ([], 1) else if a > s.size ∨ s.size - a.toNat < 214 then ([], 4) else (vals ((bytesl s).drop a.toNat) S, 0) := by
  unfold gspec
  by_cases h0 : a < 0
  · simp [h0]
  · by_cases h1 : a > s.size
    · simp [h0, h1, hr]
    · by_cases h2 : s.size - a.toNat < 214
      · have : ¬ tot S ≤ s.size - a.toNat := by omega
        simp [h0, h1, hr, h2, this]
      · have : tot S ≤ s.size - a.toNat := by omega
        simp [h0, h1, hr, h2, this]
theorem kgspec_core (S : List Int) (pk : List Int → List Int) (s : ByteArray) (a : Int) (V : List Int) (hr : rightB S = true) (ht : tot S = 214) (hpv : pk (vals ((bytesl s).drop a.toNat) S) = V) :
    (if (gspec s a S).2 = 0 then (pk (gspec s a S).1, (0 : Int)) else ([], (gspec s a S).2)) = if a < 0 then ([], 1) else if a > s.size ∨ s.size - a.toNat < 214 then ([], 4) else (V, 0) := by
  rw [get_core s a S hr ht]
  by_cases h0 : a < 0
  · rw [if_pos h0, if_pos h0]; rfl
  · rw [if_neg h0, if_neg h0]
    by_cases h1 : a > s.size ∨ s.size - a.toNat < 214
    · rw [if_pos h1, if_pos h1]; rfl
    · rw [if_neg h1, if_neg h1, if_pos rfl, hpv]
theorem get_k (s : ByteArray) (a : Int) (h : s.size ≤ 140737488351232) : konst_Get.f s a = some (if a < 0 then ([], 1) else if a > s.size ∨ s.size - a.toNat < 214 then ([], 4) else (gotK ((bytesl s).drop a.toNat) 56, 0)) := by
  unfold konst_Get.f
  rw [if_pos h]
  exact congrArg some (kgspec_core (sizesUpTo 56) (fun G => picksUpTo G 56) s a _ right_sizes tot_56 (picks_vals _))
/-- What is put is got. -/
theorem got_out (l : List Int) (rest : List UInt8) (h : isK l = true) : gotK (outK l 56 ++ rest) 56 = l := by
  unfold isK at h
  rw [Bool.and_eq_true, decide_eq_true_eq] at h
  have hs := fits_ok l 56
  have hp := put_out l 56
  have hle := len_eq l 56
  have hr := right_sizes
  rw [← picks_vals, ← hp, vals_putAll _ _ _ hr hle (by rw [hs]; exact h.2), picks_spread l h.1, ← h.1, List.take_length]
end Go.Proofs.Ytgleffjeaognfaa.P
