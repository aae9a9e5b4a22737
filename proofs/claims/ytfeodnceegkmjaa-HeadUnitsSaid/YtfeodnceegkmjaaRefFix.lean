/- Layer 1: the reference's MulDiv answers the same. -/
import Derived.Test.YtfeodnceegkmjaaSpecFix
import Derived.Test.YtfeodnceegkmjaaPx6
namespace Go.Proofs.Ytfeodnceegkmjaa.P
open Go.RowKit Go.Proofs.YtfeodnceegkmjaaW.PrintWords Go.Proofs.YtfeodnceegkmjaaW.PrintLast Go.Proofs.YtfeodnceegkmjaaW.PrintMore
set_option linter.unusedVariables false
set_option linter.unusedSimpArgs false
theorem len_ref (a : Int) : vinculumref01_Len.f a = some (lenB a) := by
  unfold vinculumref01_Len.f lenB
  by_cases h : a ≥ -1073741823
  · rw [if_pos h, decide_eq_true (p := -1073741823 ≤ a) (by omega), Bool.true_and]
  · rw [if_neg h, decide_eq_false (p := -1073741823 ≤ a) (by omega), Bool.false_and]
theorem told_ref (a : Int) : vinculumref01_told.f a = some (if lenB a then (a, 0) else (0, 2)) := by
  unfold vinculumref01_told.f
  rw [len_ref, Option.bind_some]
  cases lenB a <;> rfl
theorem far_ref (a : Int) (h : -9223372036854775807 ≤ a ∧ a ≤ 9223372036854775807) : vinculumref01_far.f a = some (a.natAbs : Int) := by
  unfold vinculumref01_far.f
  by_cases h0 : a < 0
  · rw [if_pos h0, wrap64_small (by omega) (by omega)]; congr 1; omega
  · rw [if_neg h0]; congr 1; omega
theorem near_ref (p : Int) (C : Nat) (hp : p.natAbs ≤ 1152921504606846976) (hc : 0 < C) (hC : C ≤ 1073741823) :
    vinculumref01_Nearest.f p (C : Int) = some (let q := p.natAbs / C + (if 2 * (p.natAbs % C) ≥ C then 1 else 0); if p < 0 then -(q : Int) else (q : Int)) := by
  have hq : p.natAbs / C ≤ p.natAbs := Nat.div_le_self _ _
  have hr : p.natAbs % C < C := Nat.mod_lt _ hc
  unfold vinculumref01_Nearest.f
  rw [far_ref p (by omega), Option.bind_some, if_neg (by omega), Option.bind_some]
  have e1 : Int.tmod (p.natAbs : Int) (C : Int) = ((p.natAbs % C : Nat) : Int) := by rw [Int.tmod_eq_emod_of_nonneg (by omega)]; rfl
  have e2 : Int.tdiv (p.natAbs : Int) (C : Int) = ((p.natAbs / C : Nat) : Int) := by rw [Int.tdiv_eq_ediv_of_nonneg (by omega)]; rfl
  rw [e1, e2]
  generalize p.natAbs / C = q at hq ⊢
  generalize p.natAbs % C = r at hr ⊢
  rw [wrap64_small (x := 2 * (r : Int)) (by omega) (by omega), wrap64_small (x := (q : Int)) (by omega) (by omega), wrap64_small (x := (q : Int) + 1) (by omega) (by omega), wrap64_small (x := -((q : Int) + 1)) (by omega) (by omega), wrap64_small (x := -(q : Int)) (by omega) (by omega)]
  by_cases h1 : 2 * r ≥ C
  · rw [if_pos (by omega)]
    by_cases h2 : p < 0
    · rw [if_pos h2]; simp [h1, h2]
    · rw [if_neg h2]; simp [h1, h2]
  · rw [if_neg (by omega)]
    by_cases h2 : p < 0
    · rw [if_pos h2]; simp [h1, h2]
    · rw [if_neg h2]; simp [h1, h2]
theorem md_ref (a b c : Int) : Ev (fun k => vinculumref01_MulDiv.f k a b c) (mdF a b c) := by
  have hT : Ev (fun k => vinculumref01_MulDiv.j0 k a b c true) ((0 : Int), (1 : Int)) := Ev.step (f := fun k => some (0, 1)) (fun k => by simp only [vinculumref01_MulDiv.j0, if_true]) (Ev.now _)
  unfold vinculumref01_MulDiv.f mdF
  simp only [len_ref, Option.bind_some]
  by_cases ha : lenB a = true
  · by_cases hb : lenB b = true
    · by_cases hcl : lenB c = true
      · by_cases hc : c = 0
        · subst hc
          simp only [ha, hb, hcl, if_true]
          exact hT
        · have h1 : (c == 0) = false := by simpa using hc
          have hp := prod_abs a b ha hb
          have hcb := (lenB_iff c).1 hcl
          simp only [ha, hb, hcl, if_true, h1, Bool.true_and, decide_eq_true (show c ≠ 0 from hc)]
          rw [md_abs a b c hc]
          simp only
          refine Ev.step (f := fun k => some (if lenB (if (if c < 0 then -(a * b) else a * b) < 0 then -(((a * b).natAbs / c.natAbs + (if 2 * ((a * b).natAbs % c.natAbs) ≥ c.natAbs then 1 else 0) : Nat) : Int) else (((a * b).natAbs / c.natAbs + (if 2 * ((a * b).natAbs % c.natAbs) ≥ c.natAbs then 1 else 0) : Nat) : Int)) = true then ((if (if c < 0 then -(a * b) else a * b) < 0 then -(((a * b).natAbs / c.natAbs + (if 2 * ((a * b).natAbs % c.natAbs) ≥ c.natAbs then 1 else 0) : Nat) : Int) else (((a * b).natAbs / c.natAbs + (if 2 * ((a * b).natAbs % c.natAbs) ≥ c.natAbs then 1 else 0) : Nat) : Int)), (0 : Int)) else (0, 2))) (fun k => ?_) (Ev.now _)
          simp only [vinculumref01_MulDiv.j0, Bool.false_eq_true, if_false]
          rw [far_ref c (by omega), wrap64_small (x := a * b) (by omega) (by omega), wrap64_small (x := -(a * b)) (by omega) (by omega)]
          simp only [Option.bind_some]
          by_cases hcs : c < 0
          · simp only [if_pos hcs]
            rw [near_ref _ _ (by rw [Int.natAbs_neg]; exact hp) (by omega) (by omega), Option.bind_some, told_ref, Option.bind_some]
            simp only [Int.natAbs_neg]
          · simp only [if_neg hcs]
            rw [near_ref _ _ hp (by omega) (by omega), Option.bind_some, told_ref, Option.bind_some]
      · have hcl := Bool.eq_false_iff.2 hcl
        simp only [ha, hb, hcl, if_true, Bool.false_eq_true, if_false, Bool.and_false, Bool.false_and]
        exact hT
    · have hb := Bool.eq_false_iff.2 hb
      simp only [ha, hb, if_true, Bool.false_eq_true, if_false, Bool.and_false, Bool.false_and]
      exact hT
  · have ha := Bool.eq_false_iff.2 ha
    simp only [ha, Bool.false_eq_true, if_false, Bool.and_false, Bool.false_and]
    exact hT
end Go.Proofs.Ytfeodnceegkmjaa.P
