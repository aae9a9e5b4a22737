/- Layer 13: names and places. Conditions: those of the statement alone. -/
import Derived.Test.YtgleffjeaognfaaNames13
import Derived.Test.YtgleffjeaognfaaPx11
namespace Go.Proofs.Ytgleffjeaognfaa.Pure
open Go.RowKit Go.Proofs.Ytgleffjeaognfaa.P Go.Proofs.YtgleffjeaognfaaW.PrintWords Go.Proofs.YtgleffjeaognfaaW.PrintLast Go.Proofs.Ytgleffjeaognfaa.BN
set_option linter.unusedVariables false
set_option linter.unusedSimpArgs false
theorem KonstNames : vinculumlaw13_KonstNames.Pure := by
  intro a0 a1 _ _
  refine Ev.rounds (g := fun k => vinculumlaw13_KonstNames.f k a0 a1) ?_
  unfold vinculumlaw13_KonstNames.f
  by_cases hs : (a1.size : Int) > 100
  · simp only [if_pos hs]; exact Ev.now _
  simp only [if_neg hs]
  by_cases hr : 0 ≤ a0 ∧ a0 < 56
  · obtain ⟨n, rfl⟩ : ∃ n : Nat, a0 = n := ⟨a0.toNat, by omega⟩
    have hn : konst_Name.f n = some (namesL.getD n ⟨#[]⟩, 0) := by
      unfold konst_Name.f; rw [if_neg (by omega), if_neg (by omega), Int.toNat_natCast]
    have hff : konst_Find.f (namesL.getD n ⟨#[]⟩) = some ((n : Int), 0) := by
      unfold konst_Find.f; rw [names_find n (by omega), if_neg (by omega)]
    have hne : ((n : Int) != n) = false := by simp
    simp only [hn, Option.bind_some, if_true, hff, hne]
    rcases find_name a1 with he | ⟨j, he, hj, hz⟩
    · have h1 : konst_Find.f a1 = some (0, 9) := by unfold konst_Find.f; rw [he]; rfl
      simp only [h1, Option.bind_some]
      refine Ev.step (f := fun k => (vinculumlaw13_told.f k).bind fun t241 => (if t241 = true then (some true) else (some false))) (fun k => ?_) ?_
      · simp only [vinculumlaw13_KonstNames.j0]
        rw [if_neg (by decide), if_neg (by decide)]
        rfl
      · exact Ev.bind told_ev (Ev.now _)
    · have h1 : konst_Find.f a1 = some ((j : Int), 0) := by unfold konst_Find.f; rw [he, if_neg (by omega)]
      have hj' : konst_Name.f j = some (a1, 0) := by
        unfold konst_Name.f; rw [if_neg (by omega), if_neg (by omega), Int.toNat_natCast, hz]
      have hb : (a1.toList == a1.toList) = true := by simp
      simp only [h1, Option.bind_some]
      refine Ev.step (f := fun k => (vinculumlaw13_told.f k).bind fun t240 => (if t240 = true then (some true) else (some false))) (fun k => ?_) ?_
      · simp only [vinculumlaw13_KonstNames.j0]
        rw [if_neg (by decide), if_pos trivial, hj', Option.bind_some]
        simp only [if_true, hb]
      · exact Ev.bind told_ev (Ev.now _)
  · have hn : konst_Name.f a0 = some (⟨#[]⟩, 1) := by
      unfold konst_Name.f
      by_cases h : a0 < 0
      · rw [if_pos h]
      · rw [if_neg h, if_pos (by omega)]
    have he : (⟨#[]⟩ : ByteArray).toList = ([] : List UInt8) := by decide +kernel
    simp only [hn, Option.bind_some]
    simp only [if_neg (show ¬ (1 : Int) = 0 by decide), he, if_true]
    refine Ev.bind told_ev ?_
    simp only [if_true]
    by_cases h : a0 < 0
    · simp only [if_pos h]; exact Ev.now _
    · simp only [if_neg h, decide_eq_true (show a0 ≥ 56 by omega)]; exact Ev.now _
end Go.Proofs.Ytgleffjeaognfaa.Pure
