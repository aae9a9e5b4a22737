/- Layer 5: the law HeadUnits tells true. -/
import Derived.Test.YtfeodnceegkmjaaHeaded
import Derived.Test.YtfeodnceegkmjaaUnits05
import Derived.Test.YtfeodnceegkmjaaPx10
namespace Go.Proofs.Ytfeodnceegkmjaa.P
open Go.RowKit Go.Proofs.YtfeodnceegkmjaaW.PrintWords Go.Proofs.YtfeodnceegkmjaaW.PrintLast Go.Proofs.YtfeodnceegkmjaaW.PrintMore Go.Proofs.Ytfeodnceegkmjaa.BN
set_option linter.unusedVariables false
set_option linter.unusedSimpArgs false
theorem md_self (u z : Int) (hu : u ≠ 0) : mdV u z u = z := by
  unfold mdV
  have h1 : (u * z).tdiv u = z := Int.mul_tdiv_cancel_left z hu
  have h2 : (u * z).tmod u = 0 := Int.mul_tmod_right u z
  rw [h1, h2, if_neg]
  simp; omega
theorem md_zero (z u : Int) (hu : u ≠ 0) : mdV 0 z u = 0 := by
  unfold mdV
  rw [Int.zero_mul, Int.zero_tdiv, Int.zero_tmod, if_neg]
  simp; omega
theorem md_neg (n z u : Int) (hu : 0 < u) : mdV (-n) z u = -mdV n z u := by
  rw [md_abs (-n) z u (by omega), md_abs n z u (by omega)]
  simp only [Int.neg_mul, Int.natAbs_neg, if_neg (show ¬ u < 0 by omega)]
  generalize n * z = p
  by_cases h0 : p = 0
  · subst h0
    simp [show u ≠ 0 by omega]
  · by_cases h : p < 0
    · rw [if_neg (by omega), if_pos h, Int.neg_neg]
    · rw [if_pos (by omega), if_neg h]
theorem md_two (n z u : Int) : mdV n (2 * z) u = mdV (2 * n) z u := by
  have e : n * (2 * z) = 2 * n * z := by rw [← Int.mul_assoc, Int.mul_comm n 2]
  unfold mdV
  rw [e]
theorem lenB_neg (x : Int) : lenB (-x) = lenB x := by
  rw [Bool.eq_iff_iff, lenB_iff, lenB_iff]; omega
theorem units_law (u n z : Int) (hu : 16 ≤ u ∧ u ≤ 16384) (hn : lenB n = true) (hz : lenB z = true) (hz2 : lenB (2 * z) = true) (hn2 : lenB (2 * n) = true) :
    mdF u z u = (z, 0) ∧ mdF 0 z u = (0, 0) ∧ (mdF n z u).2 = (mdF (-n) z u).2 ∧ (mdF (-n) z u).1 = -(mdF n z u).1 ∧ mdF n (2 * z) u = mdF (2 * n) z u := by
  have hul : lenB u = true := (lenB_iff u).2 (by omega)
  have hu0 : decide (u ≠ 0) = true := decide_eq_true (by omega)
  have h0 : lenB 0 = true := by decide
  have hnn : lenB (-n) = true := by rw [lenB_neg]; exact hn
  refine ⟨?_, ?_, ?_, ?_, ?_⟩
  · unfold mdF; rw [md_self u z (by omega)]; simp [hul, hz, hu0]
  · unfold mdF; rw [md_zero z u (by omega)]; simp [hul, hz, h0]; omega
  · unfold mdF; rw [md_neg n z u (by omega), lenB_neg (mdV n z u)]; simp only [hn, hz, hul, hnn, hu0, Bool.and_self, if_true]; split <;> rfl
  · unfold mdF; rw [md_neg n z u (by omega), lenB_neg (mdV n z u)]; simp only [hn, hz, hul, hnn, hu0, Bool.and_self, if_true]; split
    · rfl
    · simp
  · unfold mdF; rw [md_two, hn, hz, hz2, hn2]
theorem units_pure (a0 a1 a2 a3 a4 : Int) (a5 : Bool) (n z : Int) (hnb : -9223372036854775808 ≤ n ∧ n ≤ 9223372036854775807) (hzb : -9223372036854775808 ≤ z ∧ z ≤ 9223372036854775807) : Ev (fun k => vinculumlaw05_HeadUnits.f k a0 a1 a2 a3 a4 a5 n z) true := by
  have hT : Ev (fun k => vinculumlaw05_HeadUnits.j0 k n z true a0 a1 a2 a3 a4 a5) true := Ev.step (f := fun k => some true) (fun k => by simp only [vinculumlaw05_HeadUnits.j0, if_true, vinculumlaw05_headed.f, Option.bind_some]) (Ev.now _)
  unfold vinculumlaw05_HeadUnits.f
  simp only [head_is_f, Option.bind_some]
  cases hh : headB a0 a1 a2 a3 a4
  · simp only [Bool.false_eq_true, if_false]; exact hT
  have hh' := hh
  unfold headB at hh'
  simp only [Bool.and_eq_true, decide_eq_true_eq] at hh'
  have hu := hh'.1.1.1
  simp only [if_true]
  refine Ev.bind (fixed_is_ev [n, z, wrap64 (2 * z)] (by simp)) ?_
  cases h1 : ([n, z, wrap64 (2 * z)] : List Int).all lenB
  · simp only [Bool.false_eq_true, if_false]; exact hT
  simp only [if_true]
  refine Ev.bind (fixed_is_ev [wrap64 (2 * n)] (by simp)) ?_
  cases h2 : ([wrap64 (2 * n)] : List Int).all lenB
  · simp only [Bool.false_eq_true, if_false]; exact hT
  simp only [if_true]
  simp only [List.all_cons, List.all_nil, Bool.and_true, Bool.and_eq_true] at h1 h2
  obtain ⟨hn, hz, hz2⟩ := h1
  have bn := (lenB_iff n).1 hn
  have bz := (lenB_iff z).1 hz
  have w1 : wrap64 (2 * z) = 2 * z := wrap64_small (by omega) (by omega)
  have w2 : wrap64 (2 * n) = 2 * n := wrap64_small (by omega) (by omega)
  have w3 : wrap64 (-n) = -n := wrap64_small (by omega) (by omega)
  rw [w1] at hz2
  rw [w2] at h2
  have hL := units_law a0 n z hu hn hz hz2 h2
  simp only [if_neg (show ¬ z > 1073741823 by omega), decide_eq_false (show ¬ z < -1073741823 by omega)]
  refine Ev.step (f := fun k => some true) (fun k => ?_) (Ev.now _)
  simp only [vinculumlaw05_HeadUnits.j0, Bool.false_eq_true, if_false, units_f, Option.bind_some, unV, hh, if_true, vinculumlaw05_headed.f, w1, w2, w3, hL.1, hL.2.1, hL.2.2.1, hL.2.2.2.1, hL.2.2.2.2]
  have hb : -1073741823 ≤ (mdF n z a0).1 ∧ (mdF n z a0).1 ≤ 1073741823 := by
    by_cases he : (mdF n z a0).2 = 0
    · have : lenB (mdF n z a0).1 = true := by
        revert he; unfold mdF; split
        · split
          · rename_i h; intro _; exact h
          · intro h; exact absurd h (by decide)
        · intro h; exact absurd h (by decide)
      exact (lenB_iff _).1 this
    · rw [mdF_err _ _ _ he]; decide
  rw [wrap64_small (x := -(mdF n z a0).1) (by omega) (by omega)]
  simp only [if_true, beq_self_eq_true]
theorem headUnits_true (a0 a1 a2 a3 a4 : Int) (a5 : Bool) (n z : Int) (hnb : (Lit.int .i64 n).wf = true) (hzb : (Lit.int .i64 z).wf = true) (w : World) : Calls Try.prog 6 #[.agg #[.int .i64 a0, .int .i64 a1, .int .i64 a2, .int .i64 a3, .int .i64 a4, .bool a5], .int .i64 n, .int .i64 z] w fun e w' => e = .returned (.bool true) ∧ Below w.heap.size w w' := by
  obtain ⟨k, hk⟩ := Ev.rounds (units_pure a0 a1 a2 a3 a4 a5 n z (by simpa [Lit.wf, IntKind.min, IntKind.max, IntKind.bits, IntKind.signed] using hnb) (by simpa [Lit.wf, IntKind.min, IntKind.max, IntKind.bits, IntKind.signed] using hzb))
  exact vinculumlaw05_HeadUnits.calls k a0 a1 a2 a3 a4 a5 n z true w hk
end Go.Proofs.Ytfeodnceegkmjaa.P
