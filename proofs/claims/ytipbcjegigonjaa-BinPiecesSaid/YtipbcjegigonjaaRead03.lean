/- The closed rows of layer 3 hold, and what 'few' answers. No condition. -/
import Derived.Test.YtipbcjegigonjaaGetSpec
import Derived.Test.YtipbcjegigonjaaPutSpec
import Derived.Test.YtipbcjegigonjaaPx8
namespace Go.Proofs.Ytipbcjegigonjaa.P
open Go.RowKit Go.Proofs.YtipbcjegigonjaaW.PrintWords Go.Proofs.YtipbcjegigonjaaW.PrintLast Go.Proofs.YtipbcjegigonjaaW.PrintMore Go.Proofs.Ytipbcjegigonjaa.BN
set_option linter.unusedVariables false
set_option linter.unusedSimpArgs false
theorem read_ev : Ev (fun k => vinculumlaw03_read.f k) true := by
  refine Ev.of (fun k => vinculumlaw03_read.mono k) (k := 12) ?_
  decide +kernel
theorem few_f (s : ByteArray) (l m : List Int) : vinculumlaw03_few.f s l m = some (decide (s.size ≤ 2000 ∧ l.length ≤ 300 ∧ m.length ≤ 300)) := by
  unfold vinculumlaw03_few.f
  by_cases h1 : (s.size : Int) ≤ 2000
  · rw [if_pos h1]
    by_cases h2 : (l.length : Int) ≤ 300
    · rw [if_pos h2]; congr 1; rw [Bool.eq_iff_iff]; simp; omega
    · rw [if_neg h2]; congr 1; symm; simp; omega
  · rw [if_neg h1]; congr 1; symm; simp; omega
theorem ite_ev {α : Type} {p : Prop} [Decidable p] {f g : Nat → Option α} {r : α} (hp : p) (h : Ev f r) : Ev (fun k => if p then f k else g k) r := by
  simp only [if_pos hp]; exact h
theorem ite_ev' {α : Type} {p : Prop} [Decidable p] {f g : Nat → Option α} {r : α} (hp : ¬ p) (h : Ev g r) : Ev (fun k => if p then f k else g k) r := by
  simp only [if_neg hp]; exact h
theorem int_bounds {x : Int} (h : (Lit.int .i64 x).wf = true) : -9223372036854775808 ≤ x ∧ x ≤ 9223372036854775807 := by
  simpa [Lit.wf, IntKind.min, IntKind.max, IntKind.bits, IntKind.signed] using h
end Go.Proofs.Ytipbcjegigonjaa.P
