/- Layer 13: what is put is got, wherever it stands. Conditions: those of the statement alone. -/
import Derived.Test.YtgleffjeaognfaaNames13
import Derived.Test.YtgleffjeaognfaaSpec13
import Derived.Test.YtgleffjeaognfaaPx9
namespace Go.Proofs.Ytgleffjeaognfaa.Pure
open Go.RowKit Go.Proofs.Ytgleffjeaognfaa.P Go.Proofs.YtgleffjeaognfaaW.PrintWords Go.Proofs.YtgleffjeaognfaaW.PrintLast Go.Proofs.Ytgleffjeaognfaa.BN
set_option linter.unusedVariables false
set_option linter.unusedSimpArgs false
theorem bytesl_append (a b : ByteArray) : bytesl (a ++ b) = bytesl a ++ bytesl b := by
  unfold bytesl; rw [ByteArray.data_append, Array.toList_append]
theorem back_pure (l : List Int) (a2 a3 : ByteArray) (hl : l.length ≤ 100) (h2 : a2.size ≤ 1000) (h3 : a3.size ≤ 1000) : Ev (fun k => vinculumlaw13_KonstBack.j0 k l a2 a3 false) true := by
  have hp := put_k l (by omega)
  have hi := is_k l (by omega)
  cases hk : isK l
  · rw [hk] at hp hi
    have he : (⟨#[]⟩ : ByteArray).toList == ([] : List UInt8) := by decide +kernel
    refine Ev.step (f := fun k => (vinculumlaw13_told.f k).bind fun t184 => (if t184 = true then (some true) else (some false))) (fun k => ?_) (Ev.bind told_ev (Ev.now _))
    simp only [vinculumlaw13_KonstBack.j0]
    rw [if_neg (by decide), hp]
    simp only [Option.bind_some, Bool.false_eq_true, if_false, if_neg (show ¬ (1 : Int) = 0 by decide), hi]
    rw [he]
  · rw [hk] at hp
    simp only [if_true] at hp
    generalize hB : (⟨(outK l 56).toArray⟩ : ByteArray) = B at hp
    have hol : (outK l 56).length = 214 := by rw [outK_length]; decide
    have hBs : B.size = 214 := by rw [← hB, bytes_size, hol]
    have hBl : bytesl B = outK l 56 := by rw [← hB]; rfl
    have hgot := got_out l (bytesl a3) hk
    have hll : l.length = 56 := by unfold isK at hk; rw [Bool.and_eq_true, decide_eq_true_eq] at hk; exact hk.1
    generalize outK l 56 = O at hB hol hBl hgot
    have hsz : ((a2 ++ B) ++ a3).size = a2.size + 214 + a3.size := by rw [ByteArray.size_append, ByteArray.size_append, hBs]
    have hg := get_k ((a2 ++ B) ++ a3) (a2.size : Int) (by omega)
    rw [if_neg (by omega), if_neg (by rw [Int.toNat_natCast]; omega), Int.toNat_natCast,
      show (bytesl ((a2 ++ B) ++ a3)).drop a2.size = O ++ bytesl a3 by rw [bytesl_append, bytesl_append, List.append_assoc, ← bytesl_length a2, List.drop_left, hBl], hgot] at hg
    have hw : wrap64 ((B.size : Int) - 1) = 213 := (wrap64_small (by omega) (by omega)).trans (by omega)
    have hx : (B.extract 0 (213 : Int).toNat).size = 213 := by rw [ByteArray.size_extract, hBs]; decide
    have hxs : (a2 ++ B.extract 0 (213 : Int).toNat).size = a2.size + 213 := by rw [ByteArray.size_append, hx]
    have hg2 := get_k (a2 ++ B.extract 0 (213 : Int).toNat) (a2.size : Int) (by omega)
    rw [if_neg (by omega), if_pos (by rw [Int.toNat_natCast]; omega)] at hg2
    have hii := ref_ints l l (by omega)
    simp only [decide_true] at hii
    have g1 : a2.size + B.size ≤ 9223372036854775807 := by omega
    have g2 : (a2 ++ B).size + a3.size ≤ 9223372036854775807 := by rw [ByteArray.size_append]; omega
    have g3 : ¬ (B.size : Int) < 1 := by omega
    have g4 : (213 : Int) ≤ (B.size : Int) := by omega
    have g5 : a2.size + (B.extract 0 (213 : Int).toNat).size ≤ 9223372036854775807 := by omega
    refine Ev.step (f := fun k => (vinculumlaw13_told.f k).bind fun t194 => (if t194 = true then ((vinculumref03_Ints.f k l l).bind fun t195 => (if t195 = true then (some true) else (some false))) else (some false))) (fun k => ?_) ?_
    · simp only [vinculumlaw13_KonstBack.j0]
      rw [if_neg (by decide), hp, Option.bind_some]
      simp only [if_true]
      rw [if_pos g1, if_pos g2, hg, Option.bind_some, if_neg g3, hw, if_pos (by decide), if_pos g4, if_pos g5, hg2, Option.bind_some]
      simp only [if_true]
      rfl
    · refine Ev.bind told_ev ?_
      simp only [if_true]
      exact Ev.bind hii (Ev.now _)
theorem KonstBack : vinculumlaw13_KonstBack.Pure := by
  intro l0 a1 a2 _ _ _ h1 h2
  refine Ev.rounds (g := fun k => vinculumlaw13_KonstBack.f k l0 a1 a2) ?_
  have hT : Ev (fun k => vinculumlaw13_KonstBack.j0 k l0 a1 a2 true) true := Ev.step (f := fun k => some true) (fun k => by simp only [vinculumlaw13_KonstBack.j0, if_true]) (Ev.now _)
  unfold vinculumlaw13_KonstBack.f
  by_cases hf : (l0.length : Int) > 100
  · simp only [if_pos hf]; exact hT
  · simp only [if_neg hf]
    have hw : wrap64 ((a1.size : Int) + (a2.size : Int)) = (a1.size : Int) + (a2.size : Int) := wrap64_small (by omega) (by omega)
    rw [hw]
    by_cases h3 : (a1.size : Int) + (a2.size : Int) > 500
    · simp only [decide_eq_true h3]; exact hT
    · simp only [decide_eq_false h3]
      exact back_pure l0 a1 a2 (by omega) (by omega) (by omega)
end Go.Proofs.Ytgleffjeaognfaa.Pure
