/- Layer 13: the reference's Is. -/
import Derived.Test.YticfflihniifaaaSpecK
import Derived.Test.YticfflihniifaaaPx2
namespace Go.Proofs.Yticfflihniifaaa.P
open Go.RowKit Go.Proofs.YticfflihniifaaaW.PrintWords Go.Proofs.YticfflihniifaaaW.PrintLast Go.Proofs.YticfflihniifaaaW.PrintMore Go.Proofs.Yticfflihniifaaa.BN
set_option linter.unusedVariables false
set_option linter.unusedSimpArgs false
theorem size_ref (k : Nat) : vinculumref13_size.f (k : Int) = some (sizeK k) := by
  unfold vinculumref13_size.f sizeK
  by_cases h2 : k = 2
  · subst h2; rfl
  · by_cases h3 : k = 3
    · subst h3; rfl
    · rw [if_neg (by omega), if_neg (by omega), if_neg (by omega)]
def okF (l : List Int) (i : Nat) : Nat → Bool
  | 0 => true
  | d + 1 => fitsB (rd l (i : Int)) (sizeK i) && okF l (i + 1) d
theorem okF_okK (l : List Int) : ∀ d i, (okK l i && okF l i d) = okK l (i + d)
  | 0, i => by simp [okF]
  | d + 1, i => by
    have h := okF_okK l d (i + 1)
    rw [show i + 1 + d = i + (d + 1) by omega] at h
    rw [← h]
    simp only [okF, okK, Bool.and_assoc]
theorem ref_kis (l : List Int) (hl : l.length ≤ 1000000000) : Ev (fun k => vinculumref13_Is.f k l) (isK l) := by
  unfold vinculumref13_Is.f isK
  by_cases h56 : l.length = 56
  · have hb : ((l.length : Int) == 56) = true := by simp; omega
    have key : ∀ (d i : Nat), i + d = 56 → Ev (fun k => vinculumref13_Is.l0 k l (i : Int)) (okF l i d) := by
      intro d
      induction d with
      | zero =>
        intro i hd
        refine Ev.step (f := fun k => vinculumref13_Is.j1 k l (i : Int) false) (fun k => by simp only [vinculumref13_Is.l0]; rw [if_neg (by omega)]) ?_
        exact Ev.step (f := fun k => some true) (fun k => by simp only [vinculumref13_Is.j1]; rw [if_neg (by decide), hb]) (Ev.now _)
      | succ d ih =>
        intro i hd
        refine Ev.step (f := fun k => vinculumref13_Is.j1 k l (i : Int) true) (fun k => by simp only [vinculumref13_Is.l0]; rw [if_pos (by omega), hb]) ?_
        refine Ev.step (f := fun k => (vinculumref03_Fits.f k (rd l (i : Int)) (sizeK i)).bind fun t117 => (if t117 = true then (vinculumref13_Is.l0 k l ((i + 1 : Nat) : Int)) else (some false))) (fun k => ?_) ?_
        · simp only [vinculumref13_Is.j1]
          rw [if_pos trivial, if_pos (by omega), if_pos (by omega), size_ref, Option.bind_some, wrap64_small (x := (i : Int) + 1) (by omega) (by omega)]
          rfl
        · refine Ev.bind (ref_fits _ _ (sizeK_ok i)) ?_
          simp only [okF]
          cases fitsB (rd l (i : Int)) (sizeK i)
          · exact Ev.now _
          · simp only [if_true, Bool.true_and]; exact ih (i + 1) (by omega)
    have h0 := key 56 0 (by omega)
    have he := okF_okK l 56 0
    rw [show okK l 0 = true from rfl, Bool.true_and, Nat.zero_add] at he
    rw [he] at h0
    simpa [h56] using h0
  · have hb : ((l.length : Int) == 56) = false := by simp; omega
    rw [decide_eq_false h56, Bool.false_and]
    refine Ev.step (f := fun k => vinculumref13_Is.j1 k l 0 false) (fun k => by simp only [vinculumref13_Is.l0, hb]; split <;> rfl) ?_
    exact Ev.step (f := fun k => some false) (fun k => by simp only [vinculumref13_Is.j1]; rw [if_neg (by decide), hb]) (Ev.now _)
end Go.Proofs.Yticfflihniifaaa.P
