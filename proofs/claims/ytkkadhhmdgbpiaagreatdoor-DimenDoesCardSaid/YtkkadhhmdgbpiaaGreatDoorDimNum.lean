/- power, nearest and the closure of digits, at small numbers. -/
import Derived.Test.YtkkadhhmdgbpiaaGreatDoorDimScale
import Derived.Test.YtkkadhhmdgbpiaaGreatDoorPx1
import Derived.Test.YtkkadhhmdgbpiaaGreatDoorPx1
namespace Go.Proofs.YtkkadhhmdgbpiaaGreatDoor.P
open Go.RowKit Go.Proofs.YtkkadhhmdgbpiaaGreatDoorW.PrintWords Go.Proofs.YtkkadhhmdgbpiaaGreatDoorW.PrintLast Go.Proofs.YtkkadhhmdgbpiaaGreatDoorW.PrintMore
set_option linter.unusedVariables false
set_option linter.unusedSimpArgs false
attribute [local go_sem] max2_int min2_int max_two min_two max_three min_three max_four min_four
theorem power_ev (k : Nat) (hk : k ≤ 10) : Ev (fun n => dimen_power.f n (k : Int)) ((10 ^ k : Nat) : Int) := by
  have key : ∀ d i : Nat, i + d = k → Ev (fun n => dimen_power.l0 n ((10 ^ i : Nat) : Int) (k : Int) (i : Int)) ((10 ^ k : Nat) : Int) := by
    intro d
    induction d with
    | zero =>
      intro i hi
      have : i = k := by omega
      subst this
      exact Ev.step (f := fun _ => some ((10 ^ i : Nat) : Int)) (fun n => by simp only [dimen_power.l0]; rw [if_neg (by omega)]) (Ev.now _)
    | succ d ih =>
      intro i hi
      refine Ev.step (f := fun n => dimen_power.l0 n ((10 ^ (i + 1) : Nat) : Int) (k : Int) ((i + 1 : Nat) : Int)) (fun n => ?_) (ih (i + 1) (by omega))
      simp only [dimen_power.l0]
      have h10 : 10 ^ i ≤ 10 ^ 10 := Nat.pow_le_pow_right (by decide) (by omega)
      have hs : 10 ^ (i + 1) = 10 ^ i * 10 := Nat.pow_succ _ _
      rw [if_pos (by omega), wrap64_small (x := (i : Int) + 1) (by omega) (by omega)]
      have : wrap64 (((10 ^ i : Nat) : Int) * 10) = ((10 ^ (i + 1) : Nat) : Int) := by
        rw [hs]
        generalize 10 ^ i = p at *
        rw [wrap64_small (by omega) (by omega)]
        omega
      rw [this]
      rfl
  exact key k 0 (by omega)
theorem power_calls (k : Nat) (hk : k ≤ 10) (w : World) : Calls Tryz.prog 34 #[.int .i64 k] w fun e w' => e = .returned (.int .i64 ((10 ^ k : Nat) : Int)) ∧ Drawn0 w w' := by
  obtain ⟨n, hn⟩ := Ev.rounds (power_ev k hk)
  exact dimen_power.calls n _ _ w hn
/-- The nearest whole number of p by c. -/
def nr (p c : Nat) : Nat := (2 * p + c) / (2 * c)
theorem nearest_calls (p c : Nat) (hp : p ≤ 1000000000000000000) (hc : c ≤ 1000000000000000000) (h0 : 0 < c) (w : World) : Calls Tryz.prog 33 #[.int .i64 p, .int .i64 c] w fun e w' => e = .returned (.int .i64 (nr p c)) ∧ Drawn0 w w' := by
  refine dimen_nearest.calls _ _ _ w ?_
  unfold dimen_nearest.f nr
  have hq : (2 * p + c) / (2 * c) ≤ 2 * p + c := Nat.div_le_self _ _
  have hdiv : Int.tdiv (2 * (p : Int) + c) (2 * c) = (((2 * p + c) / (2 * c) : Nat) : Int) := by
    rw [Int.tdiv_eq_ediv_of_nonneg (by omega), Int.natCast_ediv]
    push_cast
    rfl
  generalize (2 * p + c) / (2 * c) = Q at *
  rw [wrap64_small (x := 2 * (c : Int)) (by omega) (by omega), if_neg (by omega), wrap64_small (x := 2 * (p : Int)) (by omega) (by omega), wrap64_small (x := 2 * (p : Int) + c) (by omega) (by omega), hdiv, wrap64_small (x := (Q : Int)) (by omega) (by omega)]
end Go.Proofs.YtkkadhhmdgbpiaaGreatDoor.P
