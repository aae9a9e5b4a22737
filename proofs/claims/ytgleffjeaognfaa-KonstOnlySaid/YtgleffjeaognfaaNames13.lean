/- Layer 13's names and places, and the fixed example. No condition. -/
import Derived.Test.YtgleffjeaognfaaKonstName
import Derived.Test.YtgleffjeaognfaaRef03a
import Derived.Test.YtgleffjeaognfaaPx7
namespace Go.Proofs.Ytgleffjeaognfaa.P
open Go.RowKit Go.Proofs.YtgleffjeaognfaaW.PrintWords Go.Proofs.YtgleffjeaognfaaW.PrintLast Go.Proofs.YtgleffjeaognfaaW.PrintMore Go.Proofs.Ytgleffjeaognfaa.BN
set_option linter.unusedVariables false
set_option linter.unusedSimpArgs false
theorem ite_ev {α : Type} {p : Prop} [Decidable p] {f g : Nat → Option α} {r : α} (hp : p) (h : Ev f r) : Ev (fun k => if p then f k else g k) r := by
  simp only [if_pos hp]; exact h
theorem ite_ev' {α : Type} {p : Prop} [Decidable p] {f g : Nat → Option α} {r : α} (hp : ¬ p) (h : Ev g r) : Ev (fun k => if p then f k else g k) r := by
  simp only [if_neg hp]; exact h
theorem int_bounds {x : Int} (h : (Lit.int .i64 x).wf = true) : -9223372036854775808 ≤ x ∧ x ≤ 9223372036854775807 := by
  simpa [Lit.wf, IntKind.min, IntKind.max, IntKind.bits, IntKind.signed] using h
theorem told_ev : Ev (fun k => vinculumlaw13_told.f k) true := by
  refine Ev.of (fun k => vinculumlaw13_told.mono k) (k := 130) ?_
  decide +kernel
theorem names_find : ∀ k : Nat, k < 56 → Lib.idxOfS namesL (namesL.getD k ⟨#[]⟩) = (k : Int) := by decide +kernel
theorem idxFromS_get (x : ByteArray) : ∀ (zs : List ByteArray) (i : Nat), Lib.idxFromS zs x i = -1 ∨ ∃ j : Nat, Lib.idxFromS zs x i = ((i + j : Nat) : Int) ∧ j < zs.length ∧ zs.getD j ⟨#[]⟩ = x
  | [], i => .inl rfl
  | z :: zs, i => by
    by_cases h : z = x
    · exact .inr ⟨0, by simp [Lib.idxFromS, h], by simp, by simp [h]⟩
    · rcases idxFromS_get x zs (i + 1) with e | ⟨j, e, hj, hz⟩
      · exact .inl (by simp only [Lib.idxFromS, if_neg h]; exact e)
      · refine .inr ⟨j + 1, ?_, by simp; omega, by simpa using hz⟩
        simp only [Lib.idxFromS, if_neg h]
        rw [e]; congr 1; omega
theorem find_name (x : ByteArray) : Lib.idxOfS namesL x = -1 ∨ ∃ j : Nat, Lib.idxOfS namesL x = (j : Int) ∧ j < 56 ∧ namesL.getD j ⟨#[]⟩ = x := by
  rcases idxFromS_get x namesL 0 with h | ⟨j, e, hj, hz⟩
  · exact .inl h
  · exact .inr ⟨j, by simpa [Lib.idxOfS] using e, by rw [namesL_length] at hj; exact hj, hz⟩
end Go.Proofs.Ytgleffjeaognfaa.P
