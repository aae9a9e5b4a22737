/- Layer 13: what konst.Put and konst.Is answer, by plain functions of the numbers. -/
import Derived.Test.YticfflihniifaaaPx7
import Derived.Test.YticfflihniifaaaKonstPut
import Derived.Test.YticfflihniifaaaPutSpec
namespace Go.Proofs.Yticfflihniifaaa.P
open Go.RowKit Go.Proofs.YticfflihniifaaaW.PrintWords Go.Proofs.YticfflihniifaaaW.PrintLast Go.Proofs.YticfflihniifaaaW.PrintMore Go.Proofs.Yticfflihniifaaa.BN
set_option linter.unusedVariables false
set_option linter.unusedSimpArgs false
theorem sizeK_abs (k : Nat) : (sizeK k).natAbs = 2 := by unfold sizeK; split <;> decide
theorem sizeK_ok (k : Nat) : sizeB (sizeK k) = true := by unfold sizeK; split <;> decide
theorem right_sizes : rightB (sizesUpTo 56) = true := by decide +kernel
theorem fitsAll_append : ∀ (a b c d : List Int), a.length = c.length → fitsAll (a ++ b) (c ++ d) = (fitsAll a c && fitsAll b d)
  | [], b, [], d, _ => by simp [fitsAll]
  | n :: a, b, v :: c, d, h => by
    simp only [List.cons_append, fitsAll]
    rw [fitsAll_append a b c d (by simpa using h), Bool.and_assoc]
theorem putAll_append : ∀ (a b c d : List Int), a.length = c.length → putAll (a ++ b) (c ++ d) = putAll a c ++ putAll b d
  | [], b, [], d, _ => by simp [putAll]
  | n :: a, b, v :: c, d, h => by
    simp only [List.cons_append, putAll]
    rw [putAll_append a b c d (by simpa using h), List.append_assoc]
def okK (l : List Int) : Nat → Bool
  | 0 => true
  | k + 1 => okK l k && fitsB (rd l (k : Int)) (sizeK k)
def outK (l : List Int) : Nat → List UInt8
  | 0 => []
  | k + 1 => outK l k ++ putB (rd l (k : Int)) 2 ++ (if moreK k then [0, 0] else [])
theorem len_eq (l : List Int) (k : Nat) : (sizesUpTo k).length = (spreadUpTo l k).length := by rw [sizesUpTo_length, spreadUpTo_length]
theorem fits_ok (l : List Int) : ∀ k, fitsAll (sizesUpTo k) (spreadUpTo l k) = okK l k
  | 0 => rfl
  | k + 1 => by
    have hl := len_eq l k
    have h0 : fitsB 0 2 = true := by decide
    simp only [sizesUpTo, spreadUpTo, okK]
    rw [List.append_assoc, List.append_assoc, fitsAll_append _ _ _ _ hl, fits_ok l k]
    cases moreK k <;> simp [fitsAll, h0]
theorem put_out (l : List Int) : ∀ k, putAll (sizesUpTo k) (spreadUpTo l k) = outK l k
  | 0 => rfl
  | k + 1 => by
    have hl := len_eq l k
    have h0 : putB 0 2 = [0, 0] := by decide
    have h := sizeK_abs k
    simp only [sizesUpTo, spreadUpTo, outK]
    rw [List.append_assoc, List.append_assoc, putAll_append _ _ _ _ hl, put_out l k]
    cases moreK k <;> simp [putAll, h0, h]
theorem okK_at (l : List Int) : ∀ n, okK l n = true → ∀ k, k < n → fitsB (rd l (k : Int)) (sizeK k) = true
  | 0, _, k, hk => absurd hk (by omega)
  | n + 1, h, k, hk => by
    simp only [okK, Bool.and_eq_true] at h
    by_cases e : k = n
    · subst e; exact h.2
    · exact okK_at l n h.1 k (by omega)
def isK (l : List Int) : Bool := decide (l.length = 56) && okK l 56
theorem kpspec_eq (l : List Int) : kpspec l = if isK l = true then (⟨(outK l 56).toArray⟩, 0) else (⟨#[]⟩, 1) := by
  unfold kpspec
  by_cases hl : l.length = 56
  · have hs := fits_ok l 56
    have hp := put_out l 56
    have hle := len_eq l 56
    have hr := right_sizes
    rw [if_pos hl]
    unfold isK
    generalize sizesUpTo 56 = S at hs hp hle hr ⊢
    generalize spreadUpTo l 56 = T at hs hp hle ⊢
    have hps : pspec S T = if okK l 56 = false then (⟨#[]⟩, 2) else (⟨(outK l 56).toArray⟩, 0) := by
      unfold pspec
      rw [if_neg (by rw [hr]; simp [hle]), hs, hp]
    rw [hps]
    cases hk : okK l 56
    · simp
    · simp [hl]
  · rw [if_neg hl]
    unfold isK
    simp [hl]
theorem put_k (l : List Int) (h : l.length ≤ 1000000000) : konst_Put.f l = some (if isK l = true then (⟨(outK l 56).toArray⟩, 0) else (⟨#[]⟩, 1)) := by
  unfold konst_Put.f; rw [if_pos h, kpspec_eq]
theorem is_k (l : List Int) (h : l.length ≤ 1000000000) : konst_Is.f l = some (isK l) := by
  unfold konst_Is.f
  rw [put_k l h, Option.bind_some]
  cases isK l <;> simp
end Go.Proofs.Yticfflihniifaaa.P
