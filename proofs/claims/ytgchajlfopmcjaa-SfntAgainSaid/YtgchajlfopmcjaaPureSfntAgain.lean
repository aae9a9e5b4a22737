/- Layer 4: what is got, and put, is got as it was, and is put as that. No condition but the statement's own. -/
import Derived.Test.YtgchajlfopmcjaaPutGet
import Derived.Test.YtgchajlfopmcjaaPx11
namespace Go.Proofs.Ytgchajlfopmcjaa.Pure
open Go.RowKit Go.Proofs.Ytgchajlfopmcjaa.P Go.Proofs.YtgchajlfopmcjaaW.PrintWords Go.Proofs.YtgchajlfopmcjaaW.PrintLast Go.Proofs.Ytgchajlfopmcjaa.BN
set_option linter.unusedVariables false
set_option linter.unusedSimpArgs false
theorem SfntAgain : vinculumlaw04_SfntAgain.Pure := by
  intro a0 ha0
  refine Ev.rounds (g := fun k => vinculumlaw04_SfntAgain.f k a0) ?_
  unfold vinculumlaw04_SfntAgain.f
  by_cases h0 : (a0.size : Int) > 4000
  · exact Ev.congr (fun k => by rw [if_pos h0]) (Ev.now _)
  · have hg : sfnt_Get.f a0 = some (getS a0) := by unfold sfnt_Get.f; rw [if_pos ha0]
    simp only [if_neg h0, hg, Option.bind_some]
    obtain ⟨v, l, e, hr⟩ : ∃ v l e, getS a0 = (v, l, e) := ⟨_, _, _, rfl⟩
    rw [hr]
    simp only
    by_cases he : e = 0
    · subst he
      obtain ⟨t, ht, hf⟩ := got_put (by omega) hr
      have h2 := put_get ht
      have hgt : sfnt_Get.f t = some (v, l, 0) := by
        unfold sfnt_Get.f
        obtain ⟨h1, _, _⟩ := put_file ht
        rw [if_pos (by have := h1.size; omega), h2]
      simp only [if_true, hf, hgt, Option.bind_some]
      refine Ev.bind filed_ev ?_
      simp only [if_true]
      refine Ev.bind (same_refl l (got_short hr)) ?_
      simp only [if_true, beq_self_eq_true]
      exact Ev.now _
    · obtain ⟨rfl, rfl⟩ := got_none hr he
      simp only [if_neg he]
      refine Ev.bind filed_ev ?_
      simp only [if_true]
      exact Ev.now _
end Go.Proofs.Ytgchajlfopmcjaa.Pure
