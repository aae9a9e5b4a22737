/- What bin.Get and the reference's Get answer, on lists of bytes: both the same. Conditions: texts of at most 2^40 bytes, rows of at most 10^6 numbers. -/
import Derived.Test.YtgchajlfopmcjaaBinGet
import Derived.Test.YtgchajlfopmcjaaRef03a
namespace Go.Proofs.Ytgchajlfopmcjaa.P
open Go.RowKit Go.Proofs.YtgchajlfopmcjaaW.PrintWords Go.Proofs.YtgchajlfopmcjaaW.PrintLast Go.Proofs.YtgchajlfopmcjaaW.PrintMore Go.Proofs.Ytgchajlfopmcjaa.BN
set_option linter.unusedVariables false
set_option linter.unusedSimpArgs false

def tvl (b : List UInt8) (m : Nat) (n : Int) : Int := if n < 0 ∧ 2 ^ (8 * m - 1) ≤ be (b.take m) then be (b.take m) - 2 ^ (8 * m) else be (b.take m)
theorem takeV_tvl (s : ByteArray) (m : Nat) (n : Int) : takeV s m n = tvl (bytesl s) m n := rfl
def tot : List Int → Nat
  | [] => 0
  | n :: r => n.natAbs + tot r
def vals : List UInt8 → List Int → List Int
  | _, [] => []
  | b, n :: r => tvl b n.natAbs n :: vals (b.drop n.natAbs) r
theorem bytesl_extract (s : ByteArray) (a b : Nat) : bytesl (s.extract a b) = ((bytesl s).take b).drop a := by
  unfold bytesl
  rw [ByteArray.data_extract, Array.toList_extract, List.extract_eq_take_drop, List.take_drop]
  by_cases h : a ≤ b
  · rw [show a + (b - a) = b by omega]
  · rw [List.drop_of_length_le (by rw [List.length_take]; omega), List.drop_of_length_le (by rw [List.length_take]; omega)]
theorem bytesl_from (s : ByteArray) (a : Nat) : bytesl (s.extract a s.size) = (bytesl s).drop a := by
  rw [bytesl_extract, List.take_of_length_le (by rw [bytesl_length]; omega)]
theorem getL_eq : ∀ (l : List Int) (s : ByteArray), getL s l = if tot l ≤ s.size then some (vals (bytesl s) l) else none
  | [], s => by simp [getL, tot, vals]
  | n :: r, s => by
    rw [getL, getL_eq r, bytesl_from, extract_extract, takeV_tvl]
    by_cases h : s.size < n.natAbs
    · rw [if_pos h, if_neg (by simp only [tot]; omega)]
    · rw [if_neg h]
      by_cases h2 : tot r ≤ s.size - n.natAbs
      · rw [if_pos h2, if_pos (by simp only [tot]; omega)]; rfl
      · rw [if_neg h2, if_neg (by simp only [tot]; omega)]; rfl
/-- What Get answers. -/
def gspec (s : ByteArray) (a : Int) (l : List Int) : List Int × Int :=
  if a < 0 ∨ rightB l = false then ([], 1) else if a > s.size then ([], 4) else if tot l ≤ s.size - a.toNat then (vals ((bytesl s).drop a.toNat) l, 0) else ([], 4)
theorem get_spec (s : ByteArray) (a : Int) (l : List Int) (hs : s.size ≤ 140737488351232) (hl : l.length ≤ 1000000000) : bin_Get.f s a l = some (gspec s a l) := by
  unfold bin_Get.f gspec
  rw [if_pos ⟨hs, hl⟩]
  by_cases h1 : a < 0 ∨ rightB l = false
  · rw [if_pos h1, if_pos h1]
  · rw [if_neg h1, if_neg h1]
    by_cases h2 : a > s.size
    · rw [if_pos h2, if_pos h2]
    · rw [if_neg h2, if_neg h2, getL_eq, bytesl_from, extract_extract]
      by_cases h3 : tot l ≤ s.size - a.toNat
      · rw [if_pos h3, if_pos h3]
      · rw [if_neg h3, if_neg h3]
theorem tot_le : ∀ (l : List Int), rightB l = true → tot l ≤ 4 * l.length
  | [], _ => by simp [tot]
  | n :: r, h => by
    have h' : (sizeB n && rightB r) = true := h
    rw [Bool.and_eq_true] at h'
    have := tot_le r h'.2
    have h2 := h'.1
    simp only [sizeB, Bool.and_eq_true, decide_eq_true_eq] at h2
    simp only [tot, List.length_cons]
    omega
theorem right_drop (l : List Int) (h : rightB l = true) (i : Nat) : rightB (l.drop i) = true := by
  unfold rightB at *
  rw [List.all_eq_true] at *
  exact fun x hx => h x (List.mem_of_mem_drop hx)
theorem tvl_take (b : List UInt8) (m : Nat) (n : Int) : tvl (b.take m) m n = tvl b m n := by unfold tvl; rw [List.take_take, Nat.min_self]
theorem vals_length : ∀ (l : List Int) (b : List UInt8), (vals b l).length = l.length
  | [], _ => rfl
  | n :: r, b => by simp [vals, vals_length r]
theorem gspec_length (s : ByteArray) (a : Int) (l : List Int) (hl : l.length < 17592186044416) : (gspec s a l).1.length < 17592186044416 := by
  unfold gspec
  split
  · simp
  · split
    · simp
    · split
      · rw [vals_length]; exact hl
      · simp
end Go.Proofs.Ytgchajlfopmcjaa.P
