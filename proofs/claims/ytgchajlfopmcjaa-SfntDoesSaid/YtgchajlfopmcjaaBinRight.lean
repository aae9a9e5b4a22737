/- What bin's 'right' tells: whether all numbers of a row are sizes. Condition: a row of fewer than 2^62 numbers. -/
import Derived.Test.YtgchajlfopmcjaaPx2
namespace Go.Proofs.Ytgchajlfopmcjaa.P
open Go.RowKit Go.Proofs.YtgchajlfopmcjaaW.PrintWords Go.Proofs.YtgchajlfopmcjaaW.PrintLast Go.Proofs.YtgchajlfopmcjaaW.PrintMore
set_option linter.unusedVariables false
set_option linter.unusedSimpArgs false
def sizeB (n : Int) : Bool := decide (n ≠ 0) && decide (-4 ≤ n) && decide (n ≤ 4)
def rightB (l : List Int) : Bool := l.all sizeB
theorem rd_drop (l : List Int) (i : Nat) (h : i < l.length) : l.drop i = rd l (i : Int) :: l.drop (i + 1) := by
  rw [List.drop_eq_getElem_cons h]
  simp [rd, List.getD_eq_getElem?_getD, h]
theorem wrap64_small {x : Int} (h0 : -9223372036854775808 ≤ x) (h1 : x ≤ 9223372036854775807) : wrap64 x = x := by unfold wrap64; omega
theorem wrap_succ (i : Nat) (h : i < 4611686018427387904) : wrap64 ((i : Int) + 1) = ((i + 1 : Nat) : Int) := (wrap64_small (x := (i : Int) + 1) (by omega) (by omega)).trans (Int.natCast_succ i).symm
theorem wrap_add (a m : Nat) (h : a + m < 4611686018427387904) : wrap64 ((a : Int) + (m : Int)) = ((a + m : Nat) : Int) := (wrap64_small (x := (a : Int) + (m : Int)) (by omega) (by omega)).trans (Int.natCast_add a m).symm
theorem right_from (l : List Int) (hl : l.length ≤ 4611686018427387904) (d : Nat) : ∀ (k i : Nat), i ≤ l.length → l.length - i = d → d < k →
    bin_right.l0 k l (l.length : Int) (i : Int) = some (rightB (l.drop i)) := by
  induction d with
  | zero =>
    intro k i h1 hd hk
    obtain ⟨k, rfl⟩ : ∃ m, k = m + 1 := ⟨k - 1, by omega⟩
    simp only [bin_right.l0]
    rw [if_neg (by omega), List.drop_of_length_le (by omega)]; rfl
  | succ d ih =>
    intro k i h1 hd hk
    obtain ⟨k, rfl⟩ : ∃ m, k = m + 1 := ⟨k - 1, by omega⟩
    have hlt : i < l.length := by omega
    simp only [bin_right.l0]
    rw [if_pos (by omega), if_pos (by omega), if_pos (by omega), rd_drop l i hlt]
    have he : rightB (rd l (i : Int) :: l.drop (i + 1)) = (sizeB (rd l i) && rightB (l.drop (i + 1))) := rfl
    rw [he]
    by_cases c1 : rd l (i : Int) = 0
    · rw [if_pos c1]; simp [sizeB, c1]
    · rw [if_neg c1]
      by_cases c2 : rd l (i : Int) < -4
      · rw [if_pos c2]; have : ¬ -4 ≤ rd l (i : Int) := by omega
        simp [sizeB, this]
      · rw [if_neg c2]
        by_cases c3 : rd l (i : Int) > 4
        · rw [if_pos c3]; have : ¬ rd l (i : Int) ≤ 4 := by omega
          simp [sizeB, this]
        · rw [if_neg c3, wrap64_small (by omega) (by omega)]
          have := ih k (i + 1) (by omega) (by omega) (by omega)
          rw [show ((i : Int) + 1) = ((i + 1 : Nat) : Int) by omega, this]
          have h1 : -4 ≤ rd l (i : Int) := by omega
          have h2 : rd l (i : Int) ≤ 4 := by omega
          simp [sizeB, c1, h1, h2]
theorem right_f (l : List Int) (hl : l.length ≤ 4611686018427387904) : bin_right.f (l.length + 1) l = some (rightB l) := by
  have := right_from l hl l.length (l.length + 1) 0 (by omega) (by omega) (by omega)
  simpa [bin_right.f] using this
theorem right_any (A0 : Option Addr) (c0 : Nat) (l : List Int) (w : World) (hr0 : Kd.C (Kd.int .i64) w A0 l.length l) (hc0 : l.length ≤ c0) (hl : l.length ≤ 4611686018427387904) :
    Calls Try.prog 44 #[.slice A0 l.length c0] w fun e w' => e = .returned (.bool (rightB l)) ∧ Drawn0 w w' :=
  bin_right.calls (l.length + 1) A0 c0 l _ w hr0 hc0 (right_f l hl)
end Go.Proofs.Ytgchajlfopmcjaa.P
