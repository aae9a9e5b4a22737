/- Layer 3: padding turns no sum; the sum of two texts is that of both. Conditions: those of the statement alone. -/
import Derived.Test.YtipbcjegigonjaaSumSpec
import Derived.Test.YtipbcjegigonjaaPx11
namespace Go.Proofs.Ytipbcjegigonjaa.Pure
open Go.RowKit Go.Proofs.Ytipbcjegigonjaa.P Go.Proofs.YtipbcjegigonjaaW.PrintWords Go.Proofs.YtipbcjegigonjaaW.PrintLast Go.Proofs.Ytipbcjegigonjaa.BN
set_option linter.unusedVariables false
set_option linter.unusedSimpArgs false
theorem sums_pure (s t : ByteArray) (hs : s.size ≤ 2000) (ht : t.size ≤ 2000) : Ev (fun k => vinculumlaw03_BinSums.j0 k s t false) true := by
  have h4 := pad_spec s 4 (by omega)
  have h2 := pad_spec s 2 (by omega)
  have e4 : padspec s 4 = (s ++ noughts ((4 - s.size % 4) % 4), 0) := by unfold padspec; rw [if_neg (by decide)]; rfl
  have e2 : padspec s 2 = (s ++ noughts ((2 - s.size % 2) % 2), 0) := by unfold padspec; rw [if_neg (by decide)]; rfl
  rw [e4] at h4
  rw [e2] at h2
  have hm := up_mod 4 s (by decide)
  have hq := Nat.mod_lt (4 - s.size % 4) (show 0 < 4 by decide)
  have hq2 := Nat.mod_lt (2 - s.size % 2) (show 0 < 2 by decide)
  generalize (4 - s.size % 4) % 4 = q at *
  generalize (2 - s.size % 2) % 2 = q2 at *
  have hA : (s ++ noughts q).size = s.size + q := by rw [ByteArray.size_append, noughts_size]
  have hB : (s ++ noughts q2).size = s.size + q2 := by rw [ByteArray.size_append, noughts_size]
  have hpre : (s ++ noughts q).extract 0 s.size = s := by
    apply ByteArray.ext
    apply Array.toList_inj.1
    show bytesl _ = bytesl _
    rw [bytesl_extract, bytesl_app, ← bytesl_length s, List.take_left, List.drop_zero]
  have g1 : (((s ++ noughts q).size : Int) % 4) = 0 := by omega
  have g2 : ¬ (wrap64 (((s ++ noughts q).size : Int) - (s.size : Int))) > 3 := by rw [wrap64_small (by omega) (by omega)]; omega
  have g3 : ¬ ((s ++ noughts q).size : Int) < (s.size : Int) := by omega
  have g4 : 0 ≤ (s.size : Int) := by omega
  have g5 : (s.size : Int) ≤ ((s ++ noughts q).size : Int) := by omega
  have g6 : (s.toList != s.toList) = false := by rw [bne, beq_self_eq_true]; rfl
  have g7 : 4 + s.size ≤ 9223372036854775807 := by omega
  have g8 : (s ++ noughts q).size + t.size ≤ 9223372036854775807 := by omega
  have z4 : (⟨#[0, 0, 0, 0]⟩ : ByteArray) = noughts 4 := rfl
  have c1 := sum_spec s (by omega)
  have c2 := sum_spec (s ++ noughts q) (by omega)
  have c3 := sum_spec (s ++ noughts q2) (by omega)
  have c4 := sum_spec (noughts 4 ++ s) (by rw [ByteArray.size_append, noughts_size]; omega)
  have c5 := sum_spec ((s ++ noughts q) ++ t) (by rw [ByteArray.size_append]; omega)
  have c6 := sum_spec t (by omega)
  have hl : ((bytesl s).length + (List.replicate q (0 : UInt8)).length) % 4 = 0 % 4 := by rw [bytesl_length, List.length_replicate]; omega
  rw [bytesl_app, bytesl_noughts, sumF_append, sumF_zeros, Int.add_zero] at c2 c3
  rw [bytesl_app, bytesl_noughts, sumF_append, sumF_zeros, Int.zero_add, List.length_replicate, sumF_four (bytesl s) (0 + 4) 0 rfl] at c4
  rw [bytesl_app, bytesl_app, bytesl_noughts, sumF_append, sumF_append, sumF_zeros, Int.add_zero, List.length_append, Nat.zero_add, sumF_four (bytesl t) _ 0 hl] at c5
  have b0 := Int.emod_nonneg (sumF (bytesl s) 0) (show (4294967296 : Int) ≠ 0 by decide)
  have b1 := Int.emod_lt_of_pos (sumF (bytesl s) 0) (show (0 : Int) < 4294967296 by decide)
  have b2 := Int.emod_nonneg (sumF (bytesl t) 0) (show (4294967296 : Int) ≠ 0 by decide)
  have b3 := Int.emod_lt_of_pos (sumF (bytesl t) 0) (show (0 : Int) < 4294967296 by decide)
  have last : (((sumF (bytesl s) 0 + sumF (bytesl t) 0) % 4294967296) == (Int.tmod (wrap64 (sumF (bytesl s) 0 % 4294967296 + sumF (bytesl t) 0 % 4294967296)) 4294967296)) = true := by
    rw [wrap64_small (by omega) (by omega), Int.tmod_eq_emod_of_nonneg (by omega), ← Int.add_emod]
    exact beq_self_eq_true _
  have inner : Ev (fun k => vinculumlaw03_BinSums.j1 k s t (s ++ noughts q) (s ++ noughts q2) false) true := by
    refine Ev.step (f := fun k => (bin_Sum.f k s).bind fun t241 => ((vinculumlaw03_read.f k).bind fun t242 => (if t242 = true then ((bin_Sum.f k (s ++ noughts q)).bind fun t243 => (if t243 = t241 then ((bin_Sum.f k (s ++ noughts q2)).bind fun t244 => (if t244 = t241 then (((bin_Sum.f k (noughts 4 ++ s)).bind fun t245 => (if t245 = t241 then (((bin_Sum.f k ((s ++ noughts q) ++ t)).bind fun t246 => ((bin_Sum.f k t).bind fun t247 => (some (t246 == (Int.tmod (wrap64 (t241 + t247)) 4294967296)))))) else (some false)))) else (some false))) else (some false))) else (some false)))) (fun k => ?_) ?_
    · simp only [vinculumlaw03_BinSums.j1, Bool.false_eq_true, if_false, if_pos g7, if_pos g8, z4]
    · refine Ev.bind c1 (Ev.bind read_ev ?_)
      simp only [if_true]
      refine Ev.bind c2 ?_
      simp only [if_true]
      refine Ev.bind c3 ?_
      simp only [if_true]
      refine Ev.bind c4 ?_
      simp only [if_true]
      refine Ev.bind c5 (Ev.bind c6 ?_)
      rw [last]
      exact Ev.now _
  refine Ev.step (f := fun k => vinculumlaw03_BinSums.j1 k s t (s ++ noughts q) (s ++ noughts q2) false) (fun k => ?_) inner
  simp only [vinculumlaw03_BinSums.j0]
  rw [if_neg (by decide), h4, Option.bind_some, h2, Option.bind_some, if_pos rfl, if_pos rfl, if_pos g1, if_neg g2, if_neg g3, if_pos g4, if_pos g5, Int.toNat_natCast, hpre, g6]
theorem BinSums : vinculumlaw03_BinSums.Pure := by
  intro a0 a1 _ _
  refine Ev.rounds (g := fun k => vinculumlaw03_BinSums.f k a0 a1) ?_
  have hT : Ev (fun k => vinculumlaw03_BinSums.j0 k a0 a1 true) true := Ev.step (f := fun k => some true) (fun k => by simp only [vinculumlaw03_BinSums.j0, if_true]) (Ev.now _)
  unfold vinculumlaw03_BinSums.f
  by_cases hf : a0.size ≤ 2000 ∧ ([] : List Int).length ≤ 300 ∧ ([] : List Int).length ≤ 300
  · simp only [few_f, Option.bind_some, decide_eq_true hf, if_true]
    by_cases hg : a1.size ≤ 2000 ∧ ([] : List Int).length ≤ 300 ∧ ([] : List Int).length ≤ 300
    · simp only [decide_eq_true hg]
      exact sums_pure a0 a1 hf.1 hg.1
    · simp only [decide_eq_false hg]
      exact hT
  · simp only [few_f, Option.bind_some, decide_eq_false hf]
    exact hT
end Go.Proofs.Ytipbcjegigonjaa.Pure
