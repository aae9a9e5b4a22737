/- Layer 4: a table's sum is that of its bytes; of head that of these with noughts in four of them. No condition but the statement's own. -/
import Derived.Test.YtgchajlfopmcjaaPutGet
import Derived.Test.YtgchajlfopmcjaaPx12
namespace Go.Proofs.Ytgchajlfopmcjaa.Pure
open Go.RowKit Go.Proofs.Ytgchajlfopmcjaa.P Go.Proofs.YtgchajlfopmcjaaW.PrintWords Go.Proofs.YtgchajlfopmcjaaW.PrintLast Go.Proofs.Ytgchajlfopmcjaa.BN
set_option linter.unusedVariables false
set_option linter.unusedSimpArgs false
theorem sum_parts (t d : ByteArray) (ht : t.toList = headT) (hd : 12 ≤ d.size) :
    (Int.tmod (wrap64 (tabSum t d + tabSum ⟨#[116, 97, 105, 108]⟩ (d.extract 8 12))) 4294967296 == sumF (bytesl d) 0 % 4294967296) = true := by
  have e1 : bytesl d = (bytesl d).take 8 ++ (((bytesl d).drop 8).take 4 ++ (bytesl d).drop 12) := by
    rw [show (bytesl d).drop 12 = ((bytesl d).drop 8).drop 4 by rw [List.drop_drop], List.take_append_drop, List.take_append_drop]
  have hl : (bytesl d).length = d.size := bytesl_length d
  have l8 : ((bytesl d).take 8).length = 8 := by rw [List.length_take]; omega
  have l4 : (((bytesl d).drop 8).take 4).length = 4 := by rw [List.length_take, List.length_drop]; omega
  have s1 : sumF (bytesl d) 0 = sumF ((bytesl d).take 8) 0 + (sumF (((bytesl d).drop 8).take 4) 0 + sumF ((bytesl d).drop 12) 0) := by
    conv => lhs; rw [e1]
    rw [sumF_append, sumF_append, l8, l4, sumF_four (((bytesl d).drop 8).take 4) (0 + 8) 0 (by omega), sumF_four ((bytesl d).drop 12) (0 + 8 + 4) 0 (by omega)]
  have s2 : sumF (bytesl (sumOf t d)) 0 = sumF ((bytesl d).take 8) 0 + sumF ((bytesl d).drop 12) 0 := by
    unfold sumOf
    rw [if_pos ⟨ht, hd⟩, bytesl_app, bytesl_app, bytesl_extract, bytesl_extract, List.drop_zero, show (bytesl d).take d.size = bytesl d by rw [← hl, List.take_length], sumF_append, sumF_append]
    have z : ∀ i, sumF (bytesl (⟨#[0, 0, 0, 0]⟩ : ByteArray)) i = 0 := fun i => sumF_zeros 4 i
    rw [z, Int.add_zero]
    congr 1
    refine sumF_four _ _ _ ?_
    rw [List.length_append, l8]
    rfl
  have s3 : tabSum ⟨#[116, 97, 105, 108]⟩ (d.extract 8 12) = sumF (((bytesl d).drop 8).take 4) 0 % 4294967296 := by
    unfold tabSum sumOf
    rw [if_neg (by intro h; exact absurd h.1 (by decide +kernel)), bytesl_extract, List.drop_take]
  have s4 : tabSum t d = (sumF ((bytesl d).take 8) 0 + sumF ((bytesl d).drop 12) 0) % 4294967296 := by unfold tabSum; rw [s2]
  rw [s3, s4, s1]
  generalize sumF ((bytesl d).take 8) 0 = a
  generalize sumF ((bytesl d).drop 12) 0 = b
  generalize sumF (((bytesl d).drop 8).take 4) 0 = c
  have h1 : wrap64 ((a + b) % 4294967296 + c % 4294967296) = (a + b) % 4294967296 + c % 4294967296 := by unfold wrap64; omega
  rw [h1, Int.tmod_eq_emod_of_nonneg (by omega), beq_iff_eq]
  omega
theorem SfntSums : vinculumlaw04_SfntSums.Pure := by
  intro a0 a1 ha0 ha1
  refine Ev.rounds (g := fun k => vinculumlaw04_SfntSums.f k a0 a1) ?_
  unfold vinculumlaw04_SfntSums.f
  have stop : Ev (fun k => vinculumlaw04_SfntSums.j0 k a0 a1 true) true := Ev.step (f := fun k => some true) (fun k => by rw [vinculumlaw04_SfntSums.j0]; rw [if_pos rfl]) (Ev.now _)
  by_cases h0 : (a0.size : Int) > 4000
  · exact Ev.congr (fun k => by rw [if_pos h0]) stop
  · refine Ev.congr (f := fun k => vinculumlaw04_SfntSums.j0 k a0 a1 (decide ((a1.size : Int) > 20))) (fun k => by rw [if_neg h0]) ?_
    by_cases h1 : (a1.size : Int) > 20
    · rw [decide_eq_true h1]; exact stop
    · rw [decide_eq_false h1]
      have hsum : sfnt_Sum.f a1 a0 = some (tabSum a1 a0) := by unfold sfnt_Sum.f; rw [if_pos (by omega)]
      have hsum2 : sfnt_Sum.f (⟨#[116, 97, 105, 108]⟩ : ByteArray) (a0.extract 8 12) = some (tabSum ⟨#[116, 97, 105, 108]⟩ (a0.extract 8 12)) := by unfold sfnt_Sum.f; rw [if_pos (by rw [ByteArray.size_extract]; omega)]
      have hb := sum_spec a0 (by omega)
      have plain (h : ¬ (a1.toList = headT ∧ 12 ≤ a0.size)) : Ev (fun k => vinculumlaw04_SfntSums.j1 k a0 (tabSum a1 a0) true) true := by
        have e : tabSum a1 a0 = sumF (bytesl a0) 0 % 4294967296 := by unfold tabSum sumOf; rw [if_neg h]
        rw [e]
        refine Ev.step (f := fun k => (vinculumlaw04_filed.f k).bind fun t258 => (if t258 = true then ((bin_Sum.f k a0).bind fun t259 => (some (sumF (bytesl a0) 0 % 4294967296 == t259))) else (some false))) (fun k => by rw [vinculumlaw04_SfntSums.j1]; rw [if_pos rfl]) ?_
        refine Ev.bind filed_ev ?_
        simp only [if_true]
        refine Ev.bind hb ?_
        rw [beq_self_eq_true]
        exact Ev.now _
      by_cases ht : a1.toList = headT
      · refine Ev.step (f := fun k => vinculumlaw04_SfntSums.j1 k a0 (tabSum a1 a0) (decide ((a0.size : Int) < 12))) (fun k => by rw [vinculumlaw04_SfntSums.j0]; rw [if_neg (by decide), hsum]; simp only [Option.bind_some]; exact if_pos ht) ?_
        by_cases h12 : (a0.size : Int) < 12
        · rw [decide_eq_true h12]; exact plain (fun h => by omega)
        · rw [decide_eq_false h12]
          refine Ev.step (f := fun k => (vinculumlaw04_filed.f k).bind fun t261 => (if t261 = true then ((bin_Sum.f k a0).bind fun t262 => (some ((Int.tmod (wrap64 (tabSum a1 a0 + tabSum ⟨#[116, 97, 105, 108]⟩ (a0.extract 8 12))) 4294967296) == t262))) else (some false))) (fun k => by rw [vinculumlaw04_SfntSums.j1]; rw [if_neg (by decide), if_pos (by decide), if_pos (by omega), hsum2]; simp only [Option.bind_some]) ?_
          refine Ev.bind filed_ev ?_
          simp only [if_true]
          refine Ev.bind hb ?_
          rw [sum_parts a1 a0 ht (by omega)]
          exact Ev.now _
      · refine Ev.step (f := fun k => vinculumlaw04_SfntSums.j1 k a0 (tabSum a1 a0) true) (fun k => by rw [vinculumlaw04_SfntSums.j0]; rw [if_neg (by decide), hsum]; simp only [Option.bind_some]; exact if_neg ht) ?_
        exact plain (fun h => ht h.1)
end Go.Proofs.Ytgchajlfopmcjaa.Pure
