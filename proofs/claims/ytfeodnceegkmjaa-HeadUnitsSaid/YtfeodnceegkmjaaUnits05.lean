/- Layer 5: what Units answers, by a plain function; the reference answers the same. -/
import Derived.Test.YtfeodnceegkmjaaHeadPutB
import Derived.Test.YtfeodnceegkmjaaRefFix
import Derived.Test.YtfeodnceegkmjaaPx8
import Derived.Test.YtfeodnceegkmjaaPx6
namespace Go.Proofs.Ytfeodnceegkmjaa.P
open Go.RowKit Go.Proofs.YtfeodnceegkmjaaW.PrintWords Go.Proofs.YtfeodnceegkmjaaW.PrintLast Go.Proofs.YtfeodnceegkmjaaW.PrintMore
set_option linter.unusedVariables false
set_option linter.unusedSimpArgs false
theorem ref_short (a : Int) : vinculumref05_short.f a = some (decide (-32768 ≤ a ∧ a < 32768)) := by
  unfold vinculumref05_short.f
  by_cases h : a ≥ -32768
  · rw [if_pos h]; congr 1; exact decide_eq_decide.2 (by omega)
  · rw [if_neg h, decide_eq_false (by omega)]
theorem ref_head (a0 a1 a2 a3 a4 : Int) (a5 : Bool) : vinculumref05_Is.f a0 a1 a2 a3 a4 a5 = some (headB a0 a1 a2 a3 a4) := by
  unfold vinculumref05_Is.f headB
  simp only [ref_short, Option.bind_some]
  repeat' split
  all_goals (congr 1; symm; simp_all; try omega)
/-- Units, as a length. -/
def unV (a0 a1 a2 a3 a4 n z : Int) : Int × Int := if headB a0 a1 a2 a3 a4 = true then mdF n z a0 else (0, 1)
theorem units_f (a0 a1 a2 a3 a4 : Int) (a5 : Bool) (n z : Int) : head_Units.f a0 a1 a2 a3 a4 a5 n z = some (unV a0 a1 a2 a3 a4 n z) := by
  unfold head_Units.f unV
  simp only [head_is_f, Option.bind_some, fixed_MulDiv_f]
  split <;> rfl
theorem units_ref (a0 a1 a2 a3 a4 : Int) (a5 : Bool) (n z : Int) : Ev (fun k => vinculumref05_Units.f k a0 a1 a2 a3 a4 a5 n z) (unV a0 a1 a2 a3 a4 n z) := by
  unfold vinculumref05_Units.f unV
  simp only [ref_head, Option.bind_some]
  cases headB a0 a1 a2 a3 a4
  · simp only [Bool.false_eq_true, if_false]; exact Ev.now _
  · simp only [if_true]; exact Ev.bind (md_ref n z a0) (Ev.now _)
end Go.Proofs.Ytfeodnceegkmjaa.P
