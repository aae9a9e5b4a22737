/- bin.Piece, walked: some bytes of a text. No condition but the text's size. -/
import Derived.Test.YtipbcjegigonjaaPx0
import Derived.Lib.Hide
namespace Go.Proofs.Ytipbcjegigonjaa.P
open Go.RowKit Go.Proofs.YtipbcjegigonjaaW.PrintWords Go.Proofs.YtipbcjegigonjaaW.PrintLast Go.Proofs.YtipbcjegigonjaaW.PrintMore
attribute [local go_sem] max2_int min2_int max_two min_two max_three min_three max_four min_four
set_option linter.unusedVariables false
set_option linter.unusedSimpArgs false
def bin_Piece.f (s : ByteArray) (a n : Int) : Option (ByteArray × Int) :=
  if s.size ≤ 140737488351232 then
    if a < 0 ∨ n < 0 then some (⟨#[]⟩, 1) else if a > s.size ∨ n > s.size - a then some (⟨#[]⟩, 4)
    else some ((s.extract a.toNat s.size).extract 0 n.toNat, 0)
  else none
theorem bin_Piece.calls (a0 : ByteArray) (a1 : Int) (a2 : Int) (r1 : ByteArray) (r2 : Int) (w : World) (h : bin_Piece.f a0 a1 a2 = some (r1, r2)) :
    Calls Try.prog 18 #[.string a0, .int .i64 a1, .int .i64 a2] w fun e w' => e = .returned (.tuple #[.string r1, .int .i64 r2]) ∧ Drawn0 w w' := by
  unfold bin_Piece.f at h
  by_cases hs : a0.size ≤ 140737488351232
  · rw [if_pos hs] at h
    by_cases h1 : a1 < 0 ∨ a2 < 0
    · rw [if_pos h1] at h
      obtain ⟨rfl, rfl⟩ : r1 = ⟨#[]⟩ ∧ r2 = 1 := by simpa [eq_comm] using h
      clear h
      by_cases h12 : a2 < a1
      · have h3 : a2 < 0 := by omega
        clear h1
        go_enter Try.func18, Try.ntmps18
        go_wp2
        go_ret2
        exact ⟨rfl, ⟨⟨0, rfl⟩⟩⟩
      · have h3 : a1 < 0 := by omega
        clear h1
        go_enter Try.func18, Try.ntmps18
        go_wp2
        go_ret2
        exact ⟨rfl, ⟨⟨0, rfl⟩⟩⟩
    · rw [if_neg h1] at h
      have g1 : 0 ≤ a1 := by omega
      have g2 : 0 ≤ a2 := by omega
      clear h1
      by_cases h2 : a1 > (a0.size : Int) ∨ a2 > (a0.size : Int) - a1
      · rw [if_pos h2] at h
        obtain ⟨rfl, rfl⟩ : r1 = ⟨#[]⟩ ∧ r2 = 4 := by simpa [eq_comm] using h
        clear h
        by_cases h3 : a1 > (a0.size : Int)
        · clear h2
          by_cases h12 : a2 < a1
          · go_enter Try.func18, Try.ntmps18
            go_wp2
            go_ret2
            exact ⟨rfl, ⟨⟨0, rfl⟩⟩⟩
          · go_enter Try.func18, Try.ntmps18
            go_wp2
            go_ret2
            exact ⟨rfl, ⟨⟨0, rfl⟩⟩⟩
        · have h4 : a2 > (a0.size : Int) - a1 := h2.resolve_left h3
          have h5 : a1 ≤ (a0.size : Int) := by omega
          clear h2 h3
          by_cases h12 : a2 < a1
          · go_enter Try.func18, Try.ntmps18
            go_wp2
            go_ret2
            exact ⟨rfl, ⟨⟨0, rfl⟩⟩⟩
          · go_enter Try.func18, Try.ntmps18
            go_wp2
            go_ret2
            exact ⟨rfl, ⟨⟨0, rfl⟩⟩⟩
      · rw [if_neg h2] at h
        have g3 : a1 ≤ (a0.size : Int) := by omega
        have g4 : a2 ≤ (a0.size : Int) - a1 := by omega
        clear h2
        obtain ⟨p, rfl⟩ := Int.eq_ofNat_of_zero_le g1
        obtain ⟨q, rfl⟩ := Int.eq_ofNat_of_zero_le g2
        have g5 : p ≤ a0.size := by omega
        have g6 : q ≤ a0.size - p := by omega
        have g7 : q ≤ (a0.extract p a0.size).size := by simp; omega
        obtain ⟨rfl, rfl⟩ : r1 = (a0.extract p a0.size).extract 0 q ∧ r2 = 0 := by simpa [eq_comm] using h
        clear h
        by_cases h12 : q < p
        · go_enter Try.func18, Try.ntmps18
          go_wp2
          go_ret2
          exact ⟨rfl, ⟨⟨0, rfl⟩⟩⟩
        · go_enter Try.func18, Try.ntmps18
          go_wp2
          go_ret2
          exact ⟨rfl, ⟨⟨0, rfl⟩⟩⟩
  · rw [if_neg hs] at h
    exact absurd h (by simp)
end Go.Proofs.Ytipbcjegigonjaa.P
