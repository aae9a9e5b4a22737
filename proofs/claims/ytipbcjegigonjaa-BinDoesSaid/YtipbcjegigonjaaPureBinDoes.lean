/- Layer 3, fields: for every text, place and two rows, Get and Put answer what the reference answers. Conditions: those of the statement alone. -/
import Derived.Test.YtipbcjegigonjaaRead03
import Derived.Test.YtipbcjegigonjaaPx8
namespace Go.Proofs.Ytipbcjegigonjaa.Pure
open Go.RowKit Go.Proofs.Ytipbcjegigonjaa.P Go.Proofs.YtipbcjegigonjaaW.PrintWords Go.Proofs.YtipbcjegigonjaaW.PrintLast
set_option linter.unusedVariables false
theorem BinDoes : vinculumlaw03_BinDoes.Pure := by
  intro a0 a1 l2 l3 hs ha1 _ hl2 _ _ hl3 _
  refine Ev.rounds (g := fun k => vinculumlaw03_BinDoes.f k a0 a1 l2 l3) ?_
  by_cases hf : a0.size ≤ 2000 ∧ l2.length ≤ 300 ∧ l3.length ≤ 300
  · have hg := get_spec a0 a1 l2 (by omega) (by omega)
    have hg' := ref_get a0 a1 l2 (by omega) (by omega) (int_bounds ha1)
    have hp := put_spec l2 l3 (by omega) (by omega)
    have hp' := ref_put l2 l3 (by omega)
    have ho2 := own_f l2 (by omega)
    have ho3 := own_f l3 (by omega)
    have hi2 := ref_ints l2 l2 (by omega)
    have hi3 := ref_ints l3 l3 (by omega)
    have hgi := ref_ints (gspec a0 a1 l2).1 (gspec a0 a1 l2).1 (gspec_length a0 a1 l2 (by omega))
    simp only [decide_true] at hi2 hi3 hgi
    unfold vinculumlaw03_BinDoes.f
    simp only [few_f, Option.bind_some, decide_eq_true hf, if_true, ho2, ho3, hg, hp]
    refine Ev.bind hg' (Ev.bind hp' (Ev.bind read_ev ?_))
    simp only [if_true]
    refine Ev.bind hgi ?_
    simp only [if_true]
    refine Ev.bind hi2 ?_
    simp only [if_true]
    refine Ev.bind hi3 ?_
    exact Ev.now _
  · unfold vinculumlaw03_BinDoes.f
    simp only [few_f, Option.bind_some, decide_eq_false hf]
    exact Ev.now _
end Go.Proofs.Ytipbcjegigonjaa.Pure
