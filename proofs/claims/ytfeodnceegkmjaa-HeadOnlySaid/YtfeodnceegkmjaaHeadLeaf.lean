/- head.Is's closures, walked. -/
import Derived.Test.YtfeodnceegkmjaaPx0
import Derived.Lib.Hide
import Derived.Laws.Rows
import Derived.Laws.NewBlocks
import Derived.Deep.WholeRow
import Derived.Shelf.Abstract
namespace Go.Proofs.Ytfeodnceegkmjaa.P
open Go.RowKit Go.Proofs.YtfeodnceegkmjaaW.PrintWords Go.Proofs.YtfeodnceegkmjaaW.PrintLast Go.Proofs.YtfeodnceegkmjaaW.PrintMore
set_option linter.unusedVariables false
set_option linter.unusedSimpArgs false
def HV (a0 a1 a2 a3 a4 : Int) (a5 : Bool) : Array Value := #[.int .i64 a0, .int .i64 a1, .int .i64 a2, .int .i64 a3, .int .i64 a4, .bool a5]
theorem hd1 (n : Int) (w : World) : Calls Try.prog 25 #[.int .i64 n] w fun e w' => e = .returned (.bool (decide (-32768 ≤ n ∧ n < 32768))) ∧ w' = w := by
  go_enter Try.func25, Try.ntmps25
  go_wp2_with fail
  all_goals (go_ret; refine ⟨?_, rfl⟩; congr 1; simp; try omega)
theorem hd2 (a0 a1 a2 a3 a4 : Int) (a5 : Bool) (w : World) : Calls Try.prog 26 #[.agg (HV a0 a1 a2 a3 a4 a5)] w fun e w' => e = .returned (.bool (decide (16 ≤ a0 ∧ a0 ≤ 16384))) ∧ Below w.heap.size w w' := by
  unfold HV
  go_enter Try.func26, Try.ntmps26
  go_wp2_with fail
  all_goals (go_ret; refine ⟨?_, (Below.refl w.heap.size w).alloc (Nat.le_refl _) _⟩; congr 1; simp; try omega)
theorem hd3 (a0 a1 a2 a3 a4 : Int) (a5 : Bool) (w : World) : Calls Try.prog 27 #[.agg (HV a0 a1 a2 a3 a4 a5)] w fun e w' => e = .returned (.bool (decide (1 ≤ a1 ∧ a1 ≤ 65535))) ∧ Below w.heap.size w w' := by
  unfold HV
  go_enter Try.func27, Try.ntmps27
  go_wp2_with fail
  all_goals (go_ret; refine ⟨?_, (Below.refl w.heap.size w).alloc (Nat.le_refl _) _⟩; congr 1; simp; try omega)
theorem hd4 (a0 a1 a2 a3 a4 : Int) (a5 : Bool) (w : World) : Calls Try.prog 28 #[.agg (HV a0 a1 a2 a3 a4 a5)] w fun e w' => e = .returned (.bool (decide (1 ≤ a2 ∧ a2 ≤ a1))) ∧ Below w.heap.size w w' := by
  unfold HV
  go_enter Try.func28, Try.ntmps28
  go_wp2_with fail
  all_goals (go_ret; refine ⟨?_, (Below.refl w.heap.size w).alloc (Nat.le_refl _) _⟩; congr 1; simp; try omega)
set_option maxHeartbeats 4000000 in
theorem hd5 (a0 a1 a2 a3 a4 : Int) (a5 : Bool) (s : Nat) (w : World) (hp : w.cell? ⟨s, 0, none⟩ = some (.func (.func 25) #[] #[])) (hlt : s < w.heap.size) :
    Calls Try.prog 29 #[.agg (HV a0 a1 a2 a3 a4 a5), .pointer (some ⟨s, 0, none⟩)] w fun e w' => e = .returned (.bool (decide ((-32768 ≤ a3 ∧ a3 < 32768) ∧ (-32768 ≤ a4 ∧ a4 < 32768)))) ∧ Below w.heap.size w w' := by
  unfold HV
  by_cases h3 : -32768 ≤ a3 ∧ a3 < 32768
  · have e3 := decide_eq_true h3
    have HE3 := Lib.hid e3
    rw [show decide ((-32768 ≤ a3 ∧ a3 < 32768) ∧ (-32768 ≤ a4 ∧ a4 < 32768)) = decide (-32768 ≤ a4 ∧ a4 < 32768) by simp [h3]]
    clear h3 e3
    generalize hd : decide (-32768 ≤ a4 ∧ a4 < 32768) = d
    have HD := Lib.hid hd
    clear hd
    go_enter Try.func29, Try.ntmps29
    go_wp2_with (first
      | (go_at_call 25; refine (hd1 a3 _).mono ?_; rintro e w1 ⟨rfl, rfl⟩; rw [HE3.out]; clear HE3)
      | (go_at_call 25; refine (hd1 a4 _).mono ?_; rintro e w1 ⟨rfl, rfl⟩; rw [HD.out]))
    go_ret
    exact ⟨rfl, (Below.refl w.heap.size w).alloc (Nat.le_refl _) _⟩
  · have e3 := decide_eq_false h3
    have HE3 := Lib.hid e3
    rw [show decide ((-32768 ≤ a3 ∧ a3 < 32768) ∧ (-32768 ≤ a4 ∧ a4 < 32768)) = false by simp [h3]]
    clear h3 e3
    go_enter Try.func29, Try.ntmps29
    go_wp2_with (go_at_call 25; refine (hd1 a3 _).mono ?_; rintro e w1 ⟨rfl, rfl⟩; rw [HE3.out])
    go_ret
    exact ⟨rfl, (Below.refl w.heap.size w).alloc (Nat.le_refl _) _⟩
end Go.Proofs.Ytfeodnceegkmjaa.P
