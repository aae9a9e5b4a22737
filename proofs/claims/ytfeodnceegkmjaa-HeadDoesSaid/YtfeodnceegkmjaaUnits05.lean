/- Layers 1 and 5: what MulDiv and Units answer, by plain functions; the references answer the same. -/
import Derived.Test.YtfeodnceegkmjaaFixMul
import Derived.Test.YtfeodnceegkmjaaPx6
import Derived.Test.YtfeodnceegkmjaaHeadPutB
import Derived.Test.YtfeodnceegkmjaaPx8
import Derived.Test.YtfeodnceegkmjaaPx6
namespace Go.Proofs.Ytfeodnceegkmjaa.P
open Go.RowKit Go.Proofs.YtfeodnceegkmjaaW.PrintWords Go.Proofs.YtfeodnceegkmjaaW.PrintLast Go.Proofs.YtfeodnceegkmjaaW.PrintMore
set_option linter.unusedVariables false
set_option linter.unusedSimpArgs false
def mdF (a b c : Int) : Int × Int :=
  if lenB a && lenB b && lenB c && decide (c ≠ 0) then (if lenB (mdV a b c) then (mdV a b c, 0) else (0, 2)) else (0, 1)
theorem fixed_MulDiv_f (a b c : Int) : fixed_MulDiv.f a b c = some (mdF a b c) := rfl
theorem lenB_iff (a : Int) : lenB a = true ↔ -1073741823 ≤ a ∧ a ≤ 1073741823 := by simp [lenB]
theorem mdF_err (a b c : Int) (h : ¬ (mdF a b c).2 = 0) : (mdF a b c).1 = 0 := by
  revert h; unfold mdF; split
  · split
    · intro h; exact absurd rfl h
    · intro _; rfl
  · intro _; rfl
theorem md_abs (a b c : Int) (hc : c ≠ 0) :
    mdV a b c = (let p := a * b; let q : Nat := p.natAbs / c.natAbs + (if 2 * (p.natAbs % c.natAbs) ≥ c.natAbs then 1 else 0); if (if c < 0 then -p else p) < 0 then -(q : Int) else (q : Int)) := by
  unfold mdV
  simp only
  generalize a * b = p
  have hr : (p.tmod c).natAbs = p.natAbs % c.natAbs := Int.natAbs_tmod p c
  have hm : p.natAbs % c.natAbs < c.natAbs := Nat.mod_lt _ (by omega)
  have hq : p.tdiv c = if (if c < 0 then -p else p) < 0 then -((p.natAbs / c.natAbs : Nat) : Int) else ((p.natAbs / c.natAbs : Nat) : Int) := by
    have hn : (p.tdiv c).natAbs = p.natAbs / c.natAbs := Int.natAbs_tdiv p c
    by_cases h0 : p = 0
    · subst h0; simp
    · by_cases hp : p < 0 <;> by_cases hcs : c < 0
      · obtain ⟨P, rfl⟩ : ∃ P : Nat, p = -(P : Int) := ⟨p.natAbs, by omega⟩
        obtain ⟨C, rfl⟩ : ∃ C : Nat, c = -(C : Int) := ⟨c.natAbs, by omega⟩
        rw [if_pos hcs, if_neg (by omega), Int.tdiv_neg, Int.neg_tdiv, Int.neg_neg]
        simp only [Int.natAbs_neg, Int.natAbs_natCast]
        rw [Int.tdiv_eq_ediv_of_nonneg (by omega)]; rfl
      · obtain ⟨P, rfl⟩ : ∃ P : Nat, p = -(P : Int) := ⟨p.natAbs, by omega⟩
        obtain ⟨C, rfl⟩ : ∃ C : Nat, c = (C : Int) := ⟨c.natAbs, by omega⟩
        rw [if_neg hcs, if_pos (by omega), Int.neg_tdiv]
        simp only [Int.natAbs_neg, Int.natAbs_natCast]
        rw [Int.tdiv_eq_ediv_of_nonneg (by omega)]; rfl
      · obtain ⟨P, rfl⟩ : ∃ P : Nat, p = (P : Int) := ⟨p.natAbs, by omega⟩
        obtain ⟨C, rfl⟩ : ∃ C : Nat, c = -(C : Int) := ⟨c.natAbs, by omega⟩
        rw [if_pos hcs, if_pos (by omega), Int.tdiv_neg]
        simp only [Int.natAbs_neg, Int.natAbs_natCast]
        rw [Int.tdiv_eq_ediv_of_nonneg (by omega)]; rfl
      · obtain ⟨P, rfl⟩ : ∃ P : Nat, p = (P : Int) := ⟨p.natAbs, by omega⟩
        obtain ⟨C, rfl⟩ : ∃ C : Nat, c = (C : Int) := ⟨c.natAbs, by omega⟩
        rw [if_neg hcs, if_neg (by omega)]
        simp only [Int.natAbs_natCast]
        rw [Int.tdiv_eq_ediv_of_nonneg (by omega)]; rfl
  have hz : p = 0 → p.natAbs % c.natAbs = 0 := fun h => by rw [h]; simp
  rw [hq, hr]
  generalize p.natAbs / c.natAbs = q
  generalize p.natAbs % c.natAbs = r at hm hz ⊢
  by_cases h1 : 2 * r ≥ c.natAbs
  · have hp0 : p ≠ 0 := fun h => by have := hz h; omega
    rw [if_pos (by omega), if_pos h1]
    by_cases hp : p < 0 <;> by_cases hcs : c < 0
    · simp only [if_pos hcs]; rw [if_pos (by omega), if_neg (by omega), if_neg (by omega)]; omega
    · simp only [if_neg hcs]; rw [if_neg (by omega), if_pos (by omega), if_pos (by omega)]; omega
    · simp only [if_pos hcs]; rw [if_neg (by omega), if_pos (by omega), if_pos (by omega)]; omega
    · simp only [if_neg hcs]; rw [if_pos (by omega), if_neg (by omega), if_neg (by omega)]; omega
  · rw [if_neg (by omega), if_neg h1]; rfl
theorem prod_abs (a b : Int) (ha : lenB a = true) (hb : lenB b = true) : (a * b).natAbs ≤ 1152921504606846976 := by
  rw [lenB_iff] at ha hb
  rw [Int.natAbs_mul]
  have := Nat.mul_le_mul (show a.natAbs ≤ 1073741824 by omega) (show b.natAbs ≤ 1073741824 by omega)
  exact Nat.le_trans this (by decide)

theorem len_ref (a : Int) : vinculumref01_Len.f a = some (lenB a) := by
  unfold vinculumref01_Len.f lenB
  by_cases h : a ≥ -1073741823
  · rw [if_pos h, decide_eq_true (p := -1073741823 ≤ a) (by omega), Bool.true_and]
  · rw [if_neg h, decide_eq_false (p := -1073741823 ≤ a) (by omega), Bool.false_and]
theorem told_ref (a : Int) : vinculumref01_told.f a = some (if lenB a then (a, 0) else (0, 2)) := by
  unfold vinculumref01_told.f
  rw [len_ref, Option.bind_some]
  cases lenB a <;> rfl
theorem far_ref (a : Int) (h : -9223372036854775807 ≤ a ∧ a ≤ 9223372036854775807) : vinculumref01_far.f a = some (a.natAbs : Int) := by
  unfold vinculumref01_far.f
  by_cases h0 : a < 0
  · rw [if_pos h0, wrap64_small (by omega) (by omega)]; congr 1; omega
  · rw [if_neg h0]; congr 1; omega
theorem near_ref (p : Int) (C : Nat) (hp : p.natAbs ≤ 1152921504606846976) (hc : 0 < C) (hC : C ≤ 1073741823) :
    vinculumref01_Nearest.f p (C : Int) = some (let q := p.natAbs / C + (if 2 * (p.natAbs % C) ≥ C then 1 else 0); if p < 0 then -(q : Int) else (q : Int)) := by
  have hq : p.natAbs / C ≤ p.natAbs := Nat.div_le_self _ _
  have hr : p.natAbs % C < C := Nat.mod_lt _ hc
  unfold vinculumref01_Nearest.f
  rw [far_ref p (by omega), Option.bind_some, if_neg (by omega), Option.bind_some]
  have e1 : Int.tmod (p.natAbs : Int) (C : Int) = ((p.natAbs % C : Nat) : Int) := by rw [Int.tmod_eq_emod_of_nonneg (by omega)]; rfl
  have e2 : Int.tdiv (p.natAbs : Int) (C : Int) = ((p.natAbs / C : Nat) : Int) := by rw [Int.tdiv_eq_ediv_of_nonneg (by omega)]; rfl
  rw [e1, e2]
  generalize p.natAbs / C = q at hq ⊢
  generalize p.natAbs % C = r at hr ⊢
  rw [wrap64_small (x := 2 * (r : Int)) (by omega) (by omega), wrap64_small (x := (q : Int)) (by omega) (by omega), wrap64_small (x := (q : Int) + 1) (by omega) (by omega), wrap64_small (x := -((q : Int) + 1)) (by omega) (by omega), wrap64_small (x := -(q : Int)) (by omega) (by omega)]
  by_cases h1 : 2 * r ≥ C
  · rw [if_pos (by omega)]
    by_cases h2 : p < 0
    · rw [if_pos h2]; simp [h1, h2]
    · rw [if_neg h2]; simp [h1, h2]
  · rw [if_neg (by omega)]
    by_cases h2 : p < 0
    · rw [if_pos h2]; simp [h1, h2]
    · rw [if_neg h2]; simp [h1, h2]
theorem md_ref (a b c : Int) : Ev (fun k => vinculumref01_MulDiv.f k a b c) (mdF a b c) := by
  have hT : Ev (fun k => vinculumref01_MulDiv.j0 k a b c true) ((0 : Int), (1 : Int)) := Ev.step (f := fun k => some (0, 1)) (fun k => by simp only [vinculumref01_MulDiv.j0, if_true]) (Ev.now _)
  unfold vinculumref01_MulDiv.f mdF
  simp only [len_ref, Option.bind_some]
  by_cases ha : lenB a = true
  · by_cases hb : lenB b = true
    · by_cases hcl : lenB c = true
      · by_cases hc : c = 0
        · subst hc
          simp only [ha, hb, hcl, if_true]
          exact hT
        · have h1 : (c == 0) = false := by simpa using hc
          have hp := prod_abs a b ha hb
          have hcb := (lenB_iff c).1 hcl
          simp only [ha, hb, hcl, if_true, h1, Bool.true_and, decide_eq_true (show c ≠ 0 from hc)]
          rw [md_abs a b c hc]
          simp only
          refine Ev.step (f := fun k => some (if lenB (if (if c < 0 then -(a * b) else a * b) < 0 then -(((a * b).natAbs / c.natAbs + (if 2 * ((a * b).natAbs % c.natAbs) ≥ c.natAbs then 1 else 0) : Nat) : Int) else (((a * b).natAbs / c.natAbs + (if 2 * ((a * b).natAbs % c.natAbs) ≥ c.natAbs then 1 else 0) : Nat) : Int)) = true then ((if (if c < 0 then -(a * b) else a * b) < 0 then -(((a * b).natAbs / c.natAbs + (if 2 * ((a * b).natAbs % c.natAbs) ≥ c.natAbs then 1 else 0) : Nat) : Int) else (((a * b).natAbs / c.natAbs + (if 2 * ((a * b).natAbs % c.natAbs) ≥ c.natAbs then 1 else 0) : Nat) : Int)), (0 : Int)) else (0, 2))) (fun k => ?_) (Ev.now _)
          simp only [vinculumref01_MulDiv.j0, Bool.false_eq_true, if_false]
          rw [far_ref c (by omega), wrap64_small (x := a * b) (by omega) (by omega), wrap64_small (x := -(a * b)) (by omega) (by omega)]
          simp only [Option.bind_some]
          by_cases hcs : c < 0
          · simp only [if_pos hcs]
            rw [near_ref _ _ (by rw [Int.natAbs_neg]; exact hp) (by omega) (by omega), Option.bind_some, told_ref, Option.bind_some]
            simp only [Int.natAbs_neg]
          · simp only [if_neg hcs]
            rw [near_ref _ _ hp (by omega) (by omega), Option.bind_some, told_ref, Option.bind_some]
      · have hcl := Bool.eq_false_iff.2 hcl
        simp only [ha, hb, hcl, if_true, Bool.false_eq_true, if_false, Bool.and_false, Bool.false_and]
        exact hT
    · have hb := Bool.eq_false_iff.2 hb
      simp only [ha, hb, if_true, Bool.false_eq_true, if_false, Bool.and_false, Bool.false_and]
      exact hT
  · have ha := Bool.eq_false_iff.2 ha
    simp only [ha, Bool.false_eq_true, if_false, Bool.and_false, Bool.false_and]
    exact hT

theorem ref_short (a : Int) : vinculumref05_short.f a = some (decide (-32768 ≤ a ∧ a < 32768)) := by
  unfold vinculumref05_short.f
  by_cases h : a ≥ -32768
  · rw [if_pos h]; congr 1; exact decide_eq_decide.2 (by omega)
  · rw [if_neg h, decide_eq_false (by omega)]
theorem ref_head (a0 a1 a2 a3 a4 : Int) (a5 : Bool) : vinculumref05_Is.f a0 a1 a2 a3 a4 a5 = some (headB a0 a1 a2 a3 a4) := by
  unfold vinculumref05_Is.f headB
  simp only [ref_short, Option.bind_some]
  repeat' split
  all_goals (congr 1; symm; simp_all; try omega)
/-- Units, as a length. -/
def unV (a0 a1 a2 a3 a4 n z : Int) : Int × Int := if headB a0 a1 a2 a3 a4 = true then mdF n z a0 else (0, 1)
theorem units_f (a0 a1 a2 a3 a4 : Int) (a5 : Bool) (n z : Int) : head_Units.f a0 a1 a2 a3 a4 a5 n z = some (unV a0 a1 a2 a3 a4 n z) := by
  unfold head_Units.f unV
  simp only [head_is_f, Option.bind_some, fixed_MulDiv_f]
  split <;> rfl
theorem units_ref (a0 a1 a2 a3 a4 : Int) (a5 : Bool) (n z : Int) : Ev (fun k => vinculumref05_Units.f k a0 a1 a2 a3 a4 a5 n z) (unV a0 a1 a2 a3 a4 n z) := by
  unfold vinculumref05_Units.f unV
  simp only [ref_head, Option.bind_some]
  cases headB a0 a1 a2 a3 a4
  · simp only [Bool.false_eq_true, if_false]; exact Ev.now _
  · simp only [if_true]; exact Ev.bind (md_ref n z a0) (Ev.now _)
end Go.Proofs.Ytfeodnceegkmjaa.P
