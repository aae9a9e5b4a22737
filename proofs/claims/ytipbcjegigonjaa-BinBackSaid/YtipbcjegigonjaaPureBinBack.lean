/- Layer 3: what is put is got, whatever stands around it. Conditions: those of the statement alone. -/
import Derived.Test.YtipbcjegigonjaaBackSpec
import Derived.Test.YtipbcjegigonjaaPx9
namespace Go.Proofs.Ytipbcjegigonjaa.Pure
open Go.RowKit Go.Proofs.Ytipbcjegigonjaa.P Go.Proofs.YtipbcjegigonjaaW.PrintWords Go.Proofs.YtipbcjegigonjaaW.PrintLast Go.Proofs.Ytipbcjegigonjaa.BN
set_option linter.unusedVariables false
set_option linter.unusedSimpArgs false
theorem bytesl_append (a b : ByteArray) : bytesl (a ++ b) = bytesl a ++ bytesl b := by
  unfold bytesl; rw [ByteArray.data_append, Array.toList_append]
theorem tot_small (l : List Int) (h : rightB l = true) (hl : l.length ≤ 300) : tot l ≤ 1200 := by have := tot_le l h; omega
theorem back_pure (l0 l1 : List Int) (a2 a3 : ByteArray) (hs : a2.size ≤ 2000) (hl0 : l0.length ≤ 300) (hl1 : l1.length ≤ 300) (h3 : a3.size ≤ 2000) : Ev (fun k => vinculumlaw03_BinBack.j0 k l0 l1 a2 a3 false) true := by
  have hp := put_spec l0 l1 (by omega) (by omega)
  by_cases hok : (pspec l0 l1).2 = 0
  · have hc : ¬ (rightB l0 = false ∨ l0.length ≠ l1.length) ∧ ¬ fitsAll l0 l1 = false := by
      unfold pspec at hok
      refine ⟨fun h => ?_, fun h => ?_⟩
      · rw [if_pos h] at hok; exact absurd hok (by decide)
      · rw [if_pos h] at hok
        split at hok <;> exact absurd hok (by decide)
    have hpv : pspec l0 l1 = (⟨(putAll l0 l1).toArray⟩, 0) := by unfold pspec; rw [if_neg hc.1, if_neg hc.2]
    have hr : rightB l0 = true := by
      cases h : rightB l0
      · exact absurd (.inl h) hc.1
      · rfl
    have hl : l0.length = l1.length := by
      rcases Nat.decEq l0.length l1.length with h | h
      · exact absurd (.inr h) hc.1
      · exact h
    have hf : fitsAll l0 l1 = true := by simpa using hc.2
    have htot := tot_small l0 hr hl0
    have hlen := putAll_length l0 l1 hl
    generalize hB : (⟨(putAll l0 l1).toArray⟩ : ByteArray) = B at hpv
    have hBs : B.size = tot l0 := by rw [← hB, bytes_size, hlen]
    have hBl : bytesl B = putAll l0 l1 := by rw [← hB]; rfl
    have hsz : ((a2 ++ B) ++ a3).size = a2.size + tot l0 + a3.size := by rw [ByteArray.size_append, ByteArray.size_append, hBs]
    have hg := get_spec ((a2 ++ B) ++ a3) (a2.size : Int) l0 (by omega) (by omega)
    have hgv : gspec ((a2 ++ B) ++ a3) (a2.size : Int) l0 = (l1, 0) := by
      unfold gspec
      rw [if_neg (by rw [hr]; simp), if_neg (by omega), if_pos (by rw [Int.toNat_natCast]; omega), Int.toNat_natCast]
      have : (bytesl ((a2 ++ B) ++ a3)).drop a2.size = putAll l0 l1 ++ bytesl a3 := by
        rw [bytesl_append, bytesl_append, List.append_assoc, ← bytesl_length a2, List.drop_left, hBl]
      rw [this, vals_putAll l0 l1 _ hr hl hf]
    rw [hgv] at hg
    rw [hpv] at hp
    have hi := ref_ints l1 l1 (by omega)
    simp only [decide_true] at hi
    have g1 : a2.size + B.size ≤ 9223372036854775807 := by omega
    have g2 : (a2 ++ B).size + a3.size ≤ 9223372036854775807 := by rw [ByteArray.size_append]; omega
    refine Ev.step (f := fun k => (vinculumlaw03_read.f k).bind fun t195 => (if t195 = true then ((vinculumref03_Ints.f k l1 l1).bind fun t196 => (some t196)) else (some false))) (fun k => ?_) ?_
    · simp only [vinculumlaw03_BinBack.j0]
      rw [if_neg (by decide), hp, Option.bind_some, if_pos rfl, if_pos g1, if_pos g2, hg, Option.bind_some]
      simp only [if_true]
    · refine Ev.bind read_ev ?_
      simp only [if_true]
      exact Ev.bind hi (Ev.now _)
  · have he : (pspec l0 l1).1 = ⟨#[]⟩ := by
      unfold pspec at hok ⊢
      split
      · rfl
      · split
        · rfl
        · rename_i h1 h2
          rw [if_neg h1, if_neg h2] at hok
          exact absurd rfl hok
    refine Ev.step (f := fun k => (vinculumlaw03_read.f k).bind fun t197 => (if t197 = true then (some ((pspec l0 l1).1.toList == ([] : List UInt8))) else (some false))) (fun k => ?_) ?_
    · simp only [vinculumlaw03_BinBack.j0]
      rw [if_neg (by decide), hp, Option.bind_some, if_neg hok]
    · refine Ev.bind read_ev ?_
      simp only [if_true]
      rw [he, show ((⟨#[]⟩ : ByteArray).toList == ([] : List UInt8)) = true by decide +kernel]
      exact Ev.now _
theorem BinBack : vinculumlaw03_BinBack.Pure := by
  intro l0 l1 a2 a3 _ _ _ _ _ _ _ _
  refine Ev.rounds (g := fun k => vinculumlaw03_BinBack.f k l0 l1 a2 a3) ?_
  have hT : Ev (fun k => vinculumlaw03_BinBack.j0 k l0 l1 a2 a3 true) true := Ev.step (f := fun k => some true) (fun k => by simp only [vinculumlaw03_BinBack.j0, if_true]) (Ev.now _)
  unfold vinculumlaw03_BinBack.f
  by_cases hf : a2.size ≤ 2000 ∧ l0.length ≤ 300 ∧ l1.length ≤ 300
  · simp only [few_f, Option.bind_some, decide_eq_true hf, if_true]
    by_cases h3 : (a3.size : Int) > 2000
    · simp only [decide_eq_true h3]; exact hT
    · simp only [decide_eq_false h3]
      exact back_pure l0 l1 a2 a3 hf.1 hf.2.1 hf.2.2 (by omega)
  · simp only [few_f, Option.bind_some, decide_eq_false hf]
    exact hT
end Go.Proofs.Ytipbcjegigonjaa.Pure
