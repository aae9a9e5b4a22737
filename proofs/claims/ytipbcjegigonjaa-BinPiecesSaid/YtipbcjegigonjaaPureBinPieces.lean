/- Layer 3: some bytes of a text, its sum, and what is padded are what the reference answers. Conditions: those of the statement alone. -/
import Derived.Test.YtipbcjegigonjaaSumSpec
import Derived.Test.YtipbcjegigonjaaPx12
namespace Go.Proofs.Ytipbcjegigonjaa.Pure
open Go.RowKit Go.Proofs.Ytipbcjegigonjaa.P Go.Proofs.YtipbcjegigonjaaW.PrintWords Go.Proofs.YtipbcjegigonjaaW.PrintLast Go.Proofs.Ytipbcjegigonjaa.BN
set_option linter.unusedVariables false
set_option linter.unusedSimpArgs false
theorem BinPieces : vinculumlaw03_BinPieces.Pure := by
  intro a0 a1 a2 _ ha1 ha2
  refine Ev.rounds (g := fun k => vinculumlaw03_BinPieces.f k a0 a1 a2) ?_
  unfold vinculumlaw03_BinPieces.f
  by_cases hf : a0.size ≤ 2000 ∧ ([] : List Int).length ≤ 300 ∧ ([] : List Int).length ≤ 300
  · have h := hf.1
    simp only [few_f, Option.bind_some, decide_eq_true hf, if_true, piece_spec a0 a1 a2 (by omega), pad_spec a0 a2 (by omega)]
    refine Ev.bind (ref_piece a0 a1 a2 (by omega) (int_bounds ha1)) (Ev.bind (ref_pad a0 a2 (by omega)) (Ev.bind read_ev ?_))
    simp only [if_true]
    refine Ev.bind (sum_spec a0 (by omega)) (Ev.bind (ref_sum a0 (by omega)) ?_)
    rw [beq_self_eq_true]
    exact Ev.now _
  · simp only [few_f, Option.bind_some, decide_eq_false hf]
    exact Ev.now _
end Go.Proofs.Ytipbcjegigonjaa.Pure
