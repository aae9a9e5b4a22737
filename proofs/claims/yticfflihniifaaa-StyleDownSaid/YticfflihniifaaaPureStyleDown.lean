/- Layer 22, downward: from a style only styles that are not greater are come to. Conditions: those of the statement alone. -/
import Derived.Test.YticfflihniifaaaPx11
namespace Go.Proofs.Yticfflihniifaaa.Pure
open Go.RowKit Go.Proofs.Yticfflihniifaaa.P Go.Proofs.YticfflihniifaaaW.PrintWords Go.Proofs.YticfflihniifaaaW.PrintLast
set_option linter.unusedVariables false
set_option linter.unusedSimpArgs false
theorem StyleDown : vinculumlaw22_StyleDown.Pure := by
  intro a _
  by_cases h : 0 ≤ a ∧ a < 8
  · refine ⟨20, ?_⟩
    obtain rfl | rfl | rfl | rfl | rfl | rfl | rfl | rfl : a = 0 ∨ a = 1 ∨ a = 2 ∨ a = 3 ∨ a = 4 ∨ a = 5 ∨ a = 6 ∨ a = 7 := by omega
    all_goals decide +kernel
  · refine ⟨1, ?_⟩
    unfold vinculumlaw22_StyleDown.f
    simp only [is_style, decide_eq_false h, Option.bind_some, vinculumlaw22_styled.f, style_Sup.f, style_Sub.f, style_Num.f, style_Den.f, style_Cramp.f, if_neg h, if_true, Bool.false_eq_true, if_false, beq_self_eq_true]
end Go.Proofs.Yticfflihniifaaa.Pure
