/- Layer 1: what MulDiv answers, by a plain function. -/
import Derived.Test.YtfeodnceegkmjaaFixMul
namespace Go.Proofs.Ytfeodnceegkmjaa.P
open Go.RowKit Go.Proofs.YtfeodnceegkmjaaW.PrintWords Go.Proofs.YtfeodnceegkmjaaW.PrintLast Go.Proofs.YtfeodnceegkmjaaW.PrintMore
set_option linter.unusedVariables false
set_option linter.unusedSimpArgs false
def mdF (a b c : Int) : Int × Int :=
  if lenB a && lenB b && lenB c && decide (c ≠ 0) then (if lenB (mdV a b c) then (mdV a b c, 0) else (0, 2)) else (0, 1)
theorem fixed_MulDiv_f (a b c : Int) : fixed_MulDiv.f a b c = some (mdF a b c) := rfl
theorem lenB_iff (a : Int) : lenB a = true ↔ -1073741823 ≤ a ∧ a ≤ 1073741823 := by simp [lenB]
theorem mdF_err (a b c : Int) (h : ¬ (mdF a b c).2 = 0) : (mdF a b c).1 = 0 := by
  revert h; unfold mdF; split
  · split
    · intro h; exact absurd rfl h
    · intro _; rfl
  · intro _; rfl
theorem md_abs (a b c : Int) (hc : c ≠ 0) :
    mdV a b c = (let p := a * b; let q : Nat := p.natAbs / c.natAbs + (if 2 * (p.natAbs % c.natAbs) ≥ c.natAbs then 1 else 0); if (if c < 0 then -p else p) < 0 then -(q : Int) else (q : Int)) := by
  unfold mdV
  simp only
  generalize a * b = p
  have hr : (p.tmod c).natAbs = p.natAbs % c.natAbs := Int.natAbs_tmod p c
  have hm : p.natAbs % c.natAbs < c.natAbs := Nat.mod_lt _ (by omega)
  have hq : p.tdiv c = if (if c < 0 then -p else p) < 0 then -((p.natAbs / c.natAbs : Nat) : Int) else ((p.natAbs / c.natAbs : Nat) : Int) := by
    have hn : (p.tdiv c).natAbs = p.natAbs / c.natAbs := Int.natAbs_tdiv p c
    by_cases h0 : p = 0
    · subst h0; simp
    · by_cases hp : p < 0 <;> by_cases hcs : c < 0
      · obtain ⟨P, rfl⟩ : ∃ P : Nat, p = -(P : Int) := ⟨p.natAbs, by omega⟩
        obtain ⟨C, rfl⟩ : ∃ C : Nat, c = -(C : Int) := ⟨c.natAbs, by omega⟩
        rw [if_pos hcs, if_neg (by omega), Int.tdiv_neg, Int.neg_tdiv, Int.neg_neg]
        simp only [Int.natAbs_neg, Int.natAbs_natCast]
        rw [Int.tdiv_eq_ediv_of_nonneg (by omega)]; rfl
      · obtain ⟨P, rfl⟩ : ∃ P : Nat, p = -(P : Int) := ⟨p.natAbs, by omega⟩
        obtain ⟨C, rfl⟩ : ∃ C : Nat, c = (C : Int) := ⟨c.natAbs, by omega⟩
        rw [if_neg hcs, if_pos (by omega), Int.neg_tdiv]
        simp only [Int.natAbs_neg, Int.natAbs_natCast]
        rw [Int.tdiv_eq_ediv_of_nonneg (by omega)]; rfl
      · obtain ⟨P, rfl⟩ : ∃ P : Nat, p = (P : Int) := ⟨p.natAbs, by omega⟩
        obtain ⟨C, rfl⟩ : ∃ C : Nat, c = -(C : Int) := ⟨c.natAbs, by omega⟩
        rw [if_pos hcs, if_pos (by omega), Int.tdiv_neg]
        simp only [Int.natAbs_neg, Int.natAbs_natCast]
        rw [Int.tdiv_eq_ediv_of_nonneg (by omega)]; rfl
      · obtain ⟨P, rfl⟩ : ∃ P : Nat, p = (P : Int) := ⟨p.natAbs, by omega⟩
        obtain ⟨C, rfl⟩ : ∃ C : Nat, c = (C : Int) := ⟨c.natAbs, by omega⟩
        rw [if_neg hcs, if_neg (by omega)]
        simp only [Int.natAbs_natCast]
        rw [Int.tdiv_eq_ediv_of_nonneg (by omega)]; rfl
  have hz : p = 0 → p.natAbs % c.natAbs = 0 := fun h => by rw [h]; simp
  rw [hq, hr]
  generalize p.natAbs / c.natAbs = q
  generalize p.natAbs % c.natAbs = r at hm hz ⊢
  by_cases h1 : 2 * r ≥ c.natAbs
  · have hp0 : p ≠ 0 := fun h => by have := hz h; omega
    rw [if_pos (by omega), if_pos h1]
    by_cases hp : p < 0 <;> by_cases hcs : c < 0
    · simp only [if_pos hcs]; rw [if_pos (by omega), if_neg (by omega), if_neg (by omega)]; omega
    · simp only [if_neg hcs]; rw [if_neg (by omega), if_pos (by omega), if_pos (by omega)]; omega
    · simp only [if_pos hcs]; rw [if_neg (by omega), if_pos (by omega), if_pos (by omega)]; omega
    · simp only [if_neg hcs]; rw [if_pos (by omega), if_neg (by omega), if_neg (by omega)]; omega
  · rw [if_neg (by omega), if_neg h1]; rfl
theorem prod_abs (a b : Int) (ha : lenB a = true) (hb : lenB b = true) : (a * b).natAbs ≤ 1152921504606846976 := by
  rw [lenB_iff] at ha hb
  rw [Int.natAbs_mul]
  have := Nat.mul_le_mul (show a.natAbs ≤ 1073741824 by omega) (show b.natAbs ≤ 1073741824 by omega)
  exact Nat.le_trans this (by decide)
end Go.Proofs.Ytfeodnceegkmjaa.P
