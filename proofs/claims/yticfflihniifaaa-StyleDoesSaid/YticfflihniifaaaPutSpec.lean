/- What bin.Put and the reference's Put answer: both the same. Conditions: rows of at most 10^6 numbers. -/
import Derived.Test.YticfflihniifaaaBinPut
import Derived.Test.YticfflihniifaaaRef03a
import Derived.Test.YticfflihniifaaaPx2
namespace Go.Proofs.Yticfflihniifaaa.P
open Go.RowKit Go.Proofs.YticfflihniifaaaW.PrintWords Go.Proofs.YticfflihniifaaaW.PrintLast Go.Proofs.YticfflihniifaaaW.PrintMore Go.Proofs.Yticfflihniifaaa.BN
set_option linter.unusedVariables false
set_option linter.unusedSimpArgs false

theorem pow_facts (m : Nat) (h1 : 1 ≤ m) (h4 : m ≤ 4) : ∃ P : Int, (256 : Int) ^ m = 2 * P ∧ (2 : Int) ^ (8 * m - 1) = P ∧ (2 : Int) ^ (8 * m) = 2 * P ∧ 0 < P ∧ P ≤ 2147483648 := by
  refine ⟨2 ^ (8 * m - 1), by rw [← pow256', pow_half _ h1], rfl, pow_half _ h1, ?_⟩
  obtain rfl | rfl | rfl | rfl : m = 1 ∨ m = 2 ∨ m = 3 ∨ m = 4 := by omega
  all_goals decide
theorem ref_fits (v n : Int) (hn : sizeB n = true) : Ev (fun k => vinculumref03_Fits.f k v n) (fitsB v n) := by
  obtain ⟨m, hm, h1, h4, hna⟩ := sizeB_abs' hn
  obtain ⟨P, hP1, hP2, hP3, hP4, hP5⟩ := pow_facts m h1 h4
  have hw := ref_wide n hn
  have hp := ref_power m h4
  rw [hP1] at hp
  rw [hna] at hw
  have hf : fitsB v n = if n < 0 then decide (-P ≤ v) && decide (v < P) else decide (0 ≤ v) && decide (v < 2 * P) := by unfold fitsB; rw [hna, hP2, hP3]
  have ht2 : wrap64 (-P) = -P := wrap64_small (by omega) (by omega)
  have ht : wrap64 (Int.tdiv (2 * P) 2) = P := by rw [Int.mul_tdiv_cancel_left _ (by decide)]; exact wrap64_small (Int.le_trans (by decide) (Int.le_of_lt hP4)) (Int.le_trans hP5 (by decide))
  refine Ev.congr (f := fun k => (vinculumref03_Power.f k (m : Int)).bind fun t119 => (if n < 0 then (if v ≥ (wrap64 (-(wrap64 (Int.tdiv t119 2)))) then (some (decide (v < (wrap64 (Int.tdiv t119 2))))) else (some false)) else (if v ≥ 0 then (some (decide (v < t119))) else (some false)))) (fun k => by unfold vinculumref03_Fits.f; rw [hw]; rfl) ?_
  refine Ev.bind hp ?_
  simp only [ht, ht2]
  rw [hf]
  by_cases hneg : n < 0
  · simp only [if_pos hneg]
    by_cases hv : v ≥ -P
    · simp only [if_pos hv]
      rw [show decide (-P ≤ v) = true from decide_eq_true hv, Bool.true_and]
      exact Ev.now _
    · simp only [if_neg hv]
      rw [show decide (-P ≤ v) = false from decide_eq_false hv, Bool.false_and]
      exact Ev.now _
  · simp only [if_neg hneg]
    by_cases hv : v ≥ 0
    · simp only [if_pos hv]
      rw [show decide (0 ≤ v) = true from decide_eq_true hv, Bool.true_and]
      exact Ev.now _
    · simp only [if_neg hv]
      rw [show decide (0 ≤ v) = false from decide_eq_false hv, Bool.false_and]
      exact Ev.now _
theorem putB_add (v : Int) (m : Nat) : ∀ j, j ≤ m → putB (v + 256 ^ m) j = putB v j
  | 0, _ => rfl
  | j + 1, h => by
    simp only [putB]
    rw [putB_add v m j (by omega)]
    have : (v + 256 ^ m) / 256 ^ j % 256 = v / 256 ^ j % 256 := by
      obtain ⟨q, rfl⟩ : ∃ q, m = j + (q + 1) := ⟨m - j - 1, by omega⟩
      have hne : (256 : Int) ^ j ≠ 0 := Int.ne_of_gt (Int.pow_pos (by decide))
      rw [Int.pow_add, Int.add_mul_ediv_left _ _ hne, Int.pow_succ, Int.add_mul_emod_self_right]
    rw [this]
/-- What Put answers. -/
def pspec (l m : List Int) : ByteArray × Int :=
  if rightB l = false ∨ l.length ≠ m.length then (⟨#[]⟩, 1) else if fitsAll l m = false then (⟨#[]⟩, 2) else (⟨(putAll l m).toArray⟩, 0)
theorem put_spec (l m : List Int) (hl : l.length ≤ 1000000000) (hm : m.length ≤ 1000000000) : bin_Put.f l m = some (pspec l m) := by
  unfold bin_Put.f pspec
  rw [if_pos ⟨hl, hm⟩]
  split
  · rfl
  · split <;> rfl
theorem bytes_append (a b : List UInt8) : (⟨a.toArray⟩ : ByteArray) ++ ⟨b.toArray⟩ = ⟨(a ++ b).toArray⟩ := by
  apply ByteArray.ext
  simp [ByteArray.data_append]
theorem bytes_size (a : List UInt8) : (⟨a.toArray⟩ : ByteArray).size = a.length := by show a.toArray.size = _; simp
end Go.Proofs.Yticfflihniifaaa.P
