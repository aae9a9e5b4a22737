/- Layer 22, sizes: cramped a font is as great; twice as great it is twice as great in a script, or one more or less. Conditions: those of the statement alone. -/
import Derived.Test.YticfflihniifaaaPx10
import Derived.Test.YticfflihniifaaaSpec22
namespace Go.Proofs.Yticfflihniifaaa.Pure
open Go.RowKit Go.Proofs.Yticfflihniifaaa.P Go.Proofs.YticfflihniifaaaW.PrintWords Go.Proofs.YticfflihniifaaaW.PrintLast
set_option linter.unusedVariables false
set_option linter.unusedSimpArgs false
theorem near_100 (a b : Int) : -50 ≤ 100 * mdV a b 100 - a * b ∧ 100 * mdV a b 100 - a * b ≤ 50 := by
  unfold mdV
  generalize a * b = p
  have h1 : 100 * p.tdiv 100 + p.tmod 100 = p := Int.mul_tdiv_add_tmod p 100
  have h2 : (p.tmod 100).natAbs < 100 := by rw [Int.natAbs_tmod]; exact Nat.mod_lt _ (by decide)
  have h3 : 0 ≤ p → 0 ≤ p.tmod 100 := fun h => Int.tmod_nonneg _ h
  have h4 : p < 0 → p.tmod 100 ≤ 0 := fun h => by
    have := Int.tmod_nonneg (a := -p) 100 (by omega)
    rw [Int.neg_tmod] at this; omega
  generalize p.tdiv 100 = q at h1 ⊢
  generalize p.tmod 100 = r at h1 h2 h3 h4 ⊢
  have h100 : ((100 : Int).natAbs : Int) = 100 := rfl
  rw [h100]
  split
  · split
    · rename_i h5 h6
      have : ¬ p < 0 := fun h => absurd (h6.1 h) (by decide)
      have := h3 (by omega)
      omega
    · rename_i h5 h6
      have : p < 0 := Classical.byContradiction fun h => h6 ⟨fun x => absurd x h, fun x => absurd x (by decide)⟩
      have := h4 this
      omega
  · omega
theorem mdF_ok {a b c : Int} (h : (mdF a b c).2 = 0) : (mdF a b c).1 = mdV a b c := by
  revert h; unfold mdF; split
  · split
    · intro _; rfl
    · intro h; exact absurd h (by decide)
  · intro h; exact absurd h (by decide)
theorem szV_ok {l : List Int} {c z : Int} (h : (szV l c z).2 = 0) : szOk l c z = true ∧ 0 ≤ (szV l c z).1 ∧ (c < 4 → (szV l c z).1 = z) ∧ (¬ c < 4 → (szV l c z).1 = mdV z (rd l (if c ≥ 6 then 1 else 0)) 100) := by
  have ho := (szV_len h).1
  refine ⟨ho, ?_⟩
  unfold szV at h ⊢
  rw [if_pos ho] at h ⊢
  have hz : 0 ≤ z := by
    unfold szOk at ho; simp only [Bool.and_eq_true, decide_eq_true_eq] at ho; exact ho.1.2
  by_cases h4 : c < 4
  · rw [if_pos h4]
    exact ⟨hz, fun _ => rfl, fun h => absurd h4 h⟩
  · rw [if_neg h4] at h ⊢
    by_cases hn : (mdF z (rd l (if c ≥ 6 then 1 else 0)) 100).1 < 0
    · rw [if_pos hn] at h; exact absurd h (by decide)
    · rw [if_neg hn] at h ⊢
      exact ⟨by omega, fun x => absurd x h4, fun _ => mdF_ok h⟩
theorem pick_ok (m : Int × Int) (hm : ∀ h : m.2 = 0, lenB m.1 = true) (he : ¬ m.2 = 0 → m.1 = 0) : ((if m.1 < 0 then ((0 : Int), (1 : Int)) else m).2 = 0 → lenB (if m.1 < 0 then ((0 : Int), (1 : Int)) else m).1 = true) ∧ (¬ (if m.1 < 0 then ((0 : Int), (1 : Int)) else m).2 = 0 → (if m.1 < 0 then ((0 : Int), (1 : Int)) else m).1 = 0) := by
  by_cases h : m.1 < 0
  · rw [if_pos h]; exact ⟨fun h => absurd h (by decide), fun _ => rfl⟩
  · rw [if_neg h]; exact ⟨hm, he⟩
theorem mdF_len (a b c : Int) : (mdF a b c).2 = 0 → lenB (mdF a b c).1 = true := by
  unfold mdF; split
  · split
    · rename_i h; intro _; exact h
    · intro h; exact absurd h (by decide)
  · intro h; exact absurd h (by decide)
theorem szV_len0 {l : List Int} {c z : Int} (h : (szV l c z).2 = 0) (h4 : ¬ c < 4) : lenB (szV l c z).1 = true := by
  have ho := (szV_len h).1
  unfold szV at h ⊢
  rw [if_pos ho, if_neg h4] at h ⊢
  exact (pick_ok _ (mdF_len _ _ _) (mdF_err _ _ _)).1 h
theorem szV_err {l : List Int} {c z : Int} (h : ¬ (szV l c z).2 = 0) : (szV l c z).1 = 0 := by
  unfold szV at h ⊢
  by_cases ho : szOk l c z = true
  · rw [if_pos ho] at h ⊢
    by_cases h4 : c < 4
    · rw [if_pos h4] at h; exact absurd rfl h
    · rw [if_neg h4] at h ⊢
      exact (pick_ok _ (mdF_len _ _ _) (mdF_err _ _ _)).2 h
  · rw [if_neg ho]
theorem szV_cramp {l : List Int} {c z : Int} (hc : 0 ≤ c ∧ c < 8) : szV l (crampV c) z = szV l c z := by
  have h1 : decide (0 ≤ crampV c ∧ crampV c < 8) = decide (0 ≤ c ∧ c < 8) := by
    rw [decide_eq_true hc, decide_eq_true]; unfold crampV; split <;> omega
  have h2 : (crampV c < 4) ↔ (c < 4) := by unfold crampV; split <;> omega
  have h3 : (if crampV c ≥ 6 then (1 : Int) else 0) = (if c ≥ 6 then 1 else 0) := by
    unfold crampV; split
    · by_cases h6 : c ≥ 6
      · rw [if_pos (by omega), if_pos h6]
      · rw [if_neg (by omega), if_neg h6]
    · rfl
  unfold szV szOk
  rw [h1, h3]
  by_cases h4 : c < 4
  · simp only [if_pos h4, if_pos (h2.2 h4)]
  · simp only [if_neg h4, if_neg (fun x => h4 (h2.1 x))]
theorem StyleSizes : vinculumlaw22_StyleSizes.Pure := by
  intro l c z _ hl _ _ hz
  refine Ev.rounds (g := fun k => vinculumlaw22_StyleSizes.f k l c z) ?_
  unfold vinculumlaw22_StyleSizes.f
  by_cases hl100 : (l.length : Int) > 100
  · simp only [if_pos hl100]; exact Ev.now _
  simp only [if_neg hl100, vinculumlaw22_styled.f, Option.bind_some, if_true]
  refine Ev.bind (size_ev l c z (by omega)) ?_
  by_cases he : (szV l c z).2 = 0
  · obtain ⟨ho, hn, hlow, hhigh⟩ := szV_ok he
    have hoo := ho
    unfold szOk at hoo
    simp only [Bool.and_eq_true, decide_eq_true_eq] at hoo
    obtain ⟨⟨⟨hc, hzl⟩, hz0⟩, hk⟩ := hoo
    have hzb := (lenB_iff z).1 hzl
    simp only [if_pos he, style_Cramp.f, if_pos hc, Option.bind_some]
    refine Ev.bind (size_ev l (crampV c) z (by omega)) ?_
    rw [szV_cramp hc]
    simp only [if_pos he, if_true, if_neg (show ¬ (szV l c z).1 < 0 by omega)]
    have hj : Ev (fun k => vinculumlaw22_StyleSizes.j0 k l c z (szV l c z).1 false) true := by
      have h2z : wrap64 (2 * z) = 2 * z := wrap64_small (by omega) (by omega)
      refine Ev.step (f := fun k => (style_Size.f k l c (2 * z)).bind fun bt196 => (if bt196.2 = 0 then (if z > 1073741823 then (some true) else (if bt196.1 ≥ (wrap64 ((wrap64 (2 * (szV l c z).1)) - 1)) then (some (decide (bt196.1 ≤ (wrap64 ((wrap64 (2 * (szV l c z).1)) + 1))))) else (some false))) else (some true))) (fun k => ?_) ?_
      · simp only [vinculumlaw22_StyleSizes.j0, Bool.false_eq_true, if_false, vinculumlaw22_styled.f, Option.bind_some, if_true, is_k l (by omega), hk, h2z]
      refine Ev.bind (size_ev l c (2 * z) (by omega)) ?_
      by_cases hg : (szV l c (2 * z)).2 = 0
      · obtain ⟨ho2, hn2, hlow2, hhigh2⟩ := szV_ok hg
        simp only [if_pos hg, if_neg (show ¬ z > 1073741823 by omega)]
        have hb : -1 ≤ (szV l c (2 * z)).1 - 2 * (szV l c z).1 ∧ (szV l c (2 * z)).1 - 2 * (szV l c z).1 ≤ 1 ∧ (szV l c z).1 ≤ 4611686018427387902 := by
          by_cases h4 : c < 4
          · rw [hlow h4, hlow2 h4]; omega
          · rw [hhigh h4, hhigh2 h4]
            generalize rd l (if c ≥ 6 then 1 else 0) = x at hhigh ⊢
            have e1 := near_100 z x
            have e2 := near_100 (2 * z) x
            rw [Int.mul_assoc] at e2
            have e3 : lenB (mdV z x 100) = true := by
              rw [← hhigh h4]; exact szV_len0 he h4
            rw [lenB_iff] at e3
            generalize z * x = p at e1 e2
            omega
        rw [wrap64_small (x := 2 * (szV l c z).1) (by omega) (by omega), wrap64_small (x := 2 * (szV l c z).1 - 1) (by omega) (by omega), wrap64_small (x := 2 * (szV l c z).1 + 1) (by omega) (by omega)]
        rw [if_pos (by omega), decide_eq_true (by omega)]
        exact Ev.now _
      · simp only [if_neg hg]; exact Ev.now _
    by_cases h4 : c < 4
    · simp only [if_pos h4]
      rw [show ((szV l c z).1 != z) = false by rw [hlow h4]; simp]
      exact hj
    · simp only [if_neg h4]
      exact hj
  · simp only [if_neg he]
    have := szV_err he
    rw [this]
    exact Ev.now _
end Go.Proofs.Yticfflihniifaaa.Pure
