/- bin.Pad, walked: a text with noughts behind it. No condition but the text's size. -/
import Derived.Test.YtgchajlfopmcjaaPx0
import Derived.Test.YtgchajlfopmcjaaShelf
import Derived.Lib.Hide
namespace Go.Proofs.Ytgchajlfopmcjaa.P
open Go.RowKit Go.Proofs.YtgchajlfopmcjaaW.PrintWords Go.Proofs.YtgchajlfopmcjaaW.PrintLast Go.Proofs.YtgchajlfopmcjaaW.PrintMore
set_option linter.unusedVariables false
set_option linter.unusedSimpArgs false
/-- So many noughts. -/
def noughts (c : Nat) : ByteArray := ⟨(List.replicate c 0).toArray⟩
theorem repeat_noughts : ∀ c, Lib.repeatL [0] c = List.replicate c 0
  | 0 => rfl
  | c + 1 => by rw [Lib.repeatL, repeat_noughts c, List.replicate_succ]; rfl
def bin_Pad.f (s : ByteArray) (n : Int) : Option (ByteArray × Int) :=
  if s.size ≤ 140737488351232 then
    if n < 1 ∨ n > 64 then some (⟨#[]⟩, 1) else some (s ++ noughts ((n.toNat - s.size % n.toNat) % n.toNat), 0)
  else none
theorem bin_Pad.calls (a0 : ByteArray) (a1 : Int) (r1 : ByteArray) (r2 : Int) (w : World) (h : bin_Pad.f a0 a1 = some (r1, r2)) :
    Calls Try.prog 33 #[.string a0, .int .i64 a1] w fun e w' => e = .returned (.tuple #[.string r1, .int .i64 r2]) ∧ Below w.heap.size w w' := by
  unfold bin_Pad.f at h
  by_cases hs : a0.size ≤ 140737488351232
  · rw [if_pos hs] at h
    by_cases h1 : a1 < 1 ∨ a1 > 64
    · rw [if_pos h1] at h
      obtain ⟨rfl, rfl⟩ : r1 = ⟨#[]⟩ ∧ r2 = 1 := by simpa [eq_comm] using h
      clear h
      by_cases h2 : a1 < 1
      · clear h1
        go_enter Try.func33, Try.ntmps33
        go_wp2
        go_ret2
        exact ⟨rfl, Below.refl _ _⟩
      · have h3 : a1 > 64 := h1.resolve_left h2
        clear h1
        go_enter Try.func33, Try.ntmps33
        go_wp2
        go_ret2
        exact ⟨rfl, Below.refl _ _⟩
    · rw [if_neg h1] at h
      obtain ⟨k, rfl⟩ := Int.eq_ofNat_of_zero_le (show 0 ≤ a1 by omega)
      have g1 : 1 ≤ k := by omega
      have g2 : k ≤ 64 := by omega
      clear h1
      have g3 : (0 : Int) ≤ (k : Int) - (a0.size : Int) % (k : Int) := by have := Int.emod_lt_of_pos (a0.size : Int) (show (0 : Int) < k by omega); omega
      have g4 : (0 : Int) ≤ (a0.size : Int) % (k : Int) := Int.emod_nonneg _ (by omega)
      have g7 : (a0.size : Int) % (k : Int) ≤ 64 := by have := Int.emod_lt_of_pos (a0.size : Int) (show (0 : Int) < k by omega); omega
      have hc : ((k : Int) - (a0.size : Int) % (k : Int)) % (k : Int) = (((k - a0.size % k) % k : Nat) : Int) := by
        rw [Int.natCast_emod, Int.natCast_sub (Nat.le_of_lt (Nat.mod_lt _ (by omega))), Int.natCast_emod]
      have hlt : (k - a0.size % k) % k < 64 := Nat.lt_of_lt_of_le (Nat.mod_lt _ (by omega)) g2
      obtain ⟨rfl, rfl⟩ : r1 = a0 ++ noughts ((k - a0.size % k) % k) ∧ r2 = 0 := by simpa [eq_comm] using h
      clear h
      generalize (k - a0.size % k) % k = c at hc hlt ⊢
      have e0 : (⟨#[0]⟩ : ByteArray).size = 1 := rfl
      have e1 : c ≤ 9223372036854775807 := by omega
      have e2 : (⟨#[0]⟩ : ByteArray).size * c ≤ 140737488355328 := by rw [e0]; omega
      have E1 := Lib.hid e1
      have E2 := Lib.hid e2
      clear e0 e1 e2
      have hc2 : (-((a0.size : Int) % (k : Int))) % (k : Int) = (c : Int) := by rw [← hc]; simp
      have HC := Lib.hid hc2
      clear hc hc2
      go_enter Try.func33, Try.ntmps33
      go_wp2_with fail
      rw [HC.out]
      refine (Try.strings_Repeat ⟨#[0]⟩ c _ E1.out E2.out).mono ?_
      rintro e w' ⟨rfl, hb⟩
      have HB := Lib.hid hb
      clear hb
      generalize hz : (⟨(Lib.repeatL (⟨#[0]⟩ : ByteArray).data.toList c).toArray⟩ : ByteArray) = z
      have hz1 : z = noughts c := by rw [← hz]; unfold noughts; rw [← repeat_noughts]
      have hz2 : z.size ≤ 64 := by rw [hz1]; simp [noughts, ByteArray.size]; omega
      have hz3 : a0.size + z.size ≤ 9223372036854775807 := by omega
      have HZ := Lib.hid hz1
      clear hz hz1
      go_wp2_with fail
      go_ret2
      exact ⟨by rw [← HZ.out]; rfl, HB.out⟩
  · rw [if_neg hs] at h
    exact absurd h (by simp)
end Go.Proofs.Ytgchajlfopmcjaa.P
