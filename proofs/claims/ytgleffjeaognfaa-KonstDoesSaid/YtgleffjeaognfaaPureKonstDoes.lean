/- Layer 13: the program answers what the reference answers. Conditions: those of the statement alone. -/
import Derived.Test.YtgleffjeaognfaaRef13
import Derived.Test.YtgleffjeaognfaaPx8
namespace Go.Proofs.Ytgleffjeaognfaa.Pure
open Go.RowKit Go.Proofs.Ytgleffjeaognfaa.P Go.Proofs.YtgleffjeaognfaaW.PrintWords Go.Proofs.YtgleffjeaognfaaW.PrintLast Go.Proofs.Ytgleffjeaognfaa.BN
set_option linter.unusedVariables false
set_option linter.unusedSimpArgs false
theorem does_pure (s : ByteArray) (a : Int) (l : List Int) (x : Int) (nm : ByteArray) (hs : s.size ≤ 600) (hl : l.length ≤ 100) (ha : -9223372036854775808 ≤ a ∧ a ≤ 9223372036854775807) (hx : -9223372036854775808 ≤ x ∧ x ≤ 9223372036854775807) :
    Ev (fun k => vinculumlaw13_KonstDoes.j0 k s a l x nm false) true := by
  have hown := own_f l (by omega)
  have hg := get_k s a (by omega)
  have hrg := ref_kget s a (by omega) ha
  have hgl : (if a < 0 then (([] : List Int), (1 : Int)) else if a > s.size ∨ s.size - a.toNat < 214 then ([], 4) else (gotK ((bytesl s).drop a.toNat) 56, 0)).1.length < 17592186044416 := by
    have h := gotK_length ((bytesl s).drop a.toNat) 56
    split
    · simp
    · split
      · simp
      · simp [h]
  generalize (if a < 0 then (([] : List Int), (1 : Int)) else if a > s.size ∨ s.size - a.toNat < 214 then ([], 4) else (gotK ((bytesl s).drop a.toNat) 56, 0)) = G at hg hrg hgl
  have hp := put_k l (by omega)
  have hrp := ref_kput l (by omega)
  generalize (if isK l = true then ((⟨(outK l 56).toArray⟩ : ByteArray), (0 : Int)) else (⟨#[]⟩, 1)) = P at hp hrp
  obtain ⟨R, hn, hrn⟩ := ref_kname x hx
  obtain ⟨F, hf, hrf⟩ := ref_kfind nm
  have hi := is_k l (by omega)
  have hri := ref_kis l (by omega)
  generalize isK l = I at hi hri
  have hii := ref_ints l l (by omega)
  have hgi := ref_ints G.1 G.1 hgl
  simp only [decide_true] at hii hgi
  refine Ev.step (f := ?f) (fun k => ?h) ?g
  case h =>
    simp only [vinculumlaw13_KonstDoes.j0, Bool.false_eq_true, if_false]
    rfl
  case g =>
    simp only [hown, hg, hp, hn, hf, hi, Option.bind_some]
    refine Ev.bind hrg (Ev.bind hrp (Ev.bind hrn (Ev.bind hrf (Ev.bind told_ev ?_))))
    simp only [if_true]
    refine Ev.bind hgi ?_
    simp only [if_true]
    refine Ev.bind hri ?_
    simp only [beq_self_eq_true, if_true]
    exact Ev.bind hii (Ev.now _)
theorem KonstDoes : vinculumlaw13_KonstDoes.Pure := by
  intro a0 a1 l2 a3 a4 _ h1 _ _ _ h3 _
  have b1 := int_bounds h1
  have b3 := int_bounds h3
  refine Ev.rounds (g := fun k => vinculumlaw13_KonstDoes.f k a0 a1 l2 a3 a4) ?_
  have hT : Ev (fun k => vinculumlaw13_KonstDoes.j0 k a0 a1 l2 a3 a4 true) true := Ev.step (f := fun k => some true) (fun k => by simp only [vinculumlaw13_KonstDoes.j0, if_true]) (Ev.now _)
  unfold vinculumlaw13_KonstDoes.f
  by_cases c1 : (a0.size : Int) > 600
  · simp only [if_pos c1]; exact hT
  simp only [if_neg c1]
  by_cases c2 : (l2.length : Int) > 100
  · simp only [if_pos c2]; exact hT
  simp only [if_neg c2]
  by_cases c3 : (a4.size : Int) > 100
  · simp only [decide_eq_true c3]; exact hT
  simp only [decide_eq_false c3]
  exact does_pure a0 a1 l2 a3 a4 (by omega) (by omega) b1 b3
end Go.Proofs.Ytgleffjeaognfaa.Pure
