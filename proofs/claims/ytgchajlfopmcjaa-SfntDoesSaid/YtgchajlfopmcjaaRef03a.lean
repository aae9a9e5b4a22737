/- What the plain functions of the reference of layer 3 answer: sizes, powers, one number, two rows. Conditions: rows of fewer than 2^40 numbers, texts of at most four bytes for one number. -/
import Derived.Test.YtgchajlfopmcjaaBinRight
import Derived.Test.YtgchajlfopmcjaaBeNum
import Derived.Test.YtgchajlfopmcjaaPx3
import Derived.Test.YtgchajlfopmcjaaPx3
namespace Go.Proofs.Ytgchajlfopmcjaa.P
open Go.RowKit Go.Proofs.YtgchajlfopmcjaaW.PrintWords Go.Proofs.YtgchajlfopmcjaaW.PrintLast Go.Proofs.YtgchajlfopmcjaaW.PrintMore Go.Proofs.Ytgchajlfopmcjaa.BN
set_option linter.unusedVariables false
set_option linter.unusedSimpArgs false

theorem ref_power (m : Nat) (h : m ≤ 4) : Ev (fun k => vinculumref03_Power.f k m) (256 ^ m) := by
  refine Ev.of (fun k => vinculumref03_Power.mono m k) (k := 6) ?_
  obtain rfl | rfl | rfl | rfl | rfl : m = 0 ∨ m = 1 ∨ m = 2 ∨ m = 3 ∨ m = 4 := by omega
  all_goals decide +kernel
theorem bt_get (s : ByteArray) (i : Nat) (h : i < s.size) : bt s (i : Int) = (s[i].toNat : Int) := by
  unfold bt
  rw [dif_pos (by simpa using h)]
  rfl
theorem pow_half (m : Nat) (h1 : 1 ≤ m) : (2 : Int) ^ (8 * m) = 2 * 2 ^ (8 * m - 1) := by
  obtain ⟨q, hq⟩ : ∃ q, 8 * m = q + 1 := ⟨8 * m - 1, by omega⟩
  rw [hq, Int.pow_succ', Nat.add_sub_cancel]
theorem pow256' (j : Nat) : (2 : Int) ^ (8 * j) = 256 ^ j := by rw [Int.pow_mul]; rfl
theorem ref_one (s : ByteArray) (n : Int) (h1 : 1 ≤ s.size) (h4 : s.size ≤ 4) : Ev (fun k => vinculumref03_One.f k s n) (takeV s s.size n) := by
  have key : ∀ (d i : Nat), i ≤ s.size → s.size - i = d → Ev (fun k => vinculumref03_One.l0 k s n (be ((bytesl s).take i)) (i : Int)) (takeV s s.size n) := by
    intro d
    induction d with
    | zero =>
      intro i hi hd
      obtain rfl : i = s.size := by omega
      by_cases hn : n < 0
      · have hp := ref_power s.size h4
        have hb := be_small ((bytesl s).take s.size) (by rw [List.length_take]; omega)
        have hP : ∃ P : Int, (256 : Int) ^ s.size = 2 * P ∧ (2 : Int) ^ (8 * s.size - 1) = P ∧ 0 < P ∧ P ≤ 2147483648 := by
          refine ⟨2 ^ (8 * s.size - 1), by rw [← pow256', pow_half _ h1], rfl, ?_⟩
          obtain h | h | h | h : s.size = 1 ∨ s.size = 2 ∨ s.size = 3 ∨ s.size = 4 := by omega
          all_goals rw [h]; decide
        obtain ⟨P, hP1, hP2, hP3, hP4⟩ := hP
        have hP5 : (2 : Int) ^ (8 * s.size) = 2 * P := by rw [pow256', hP1]
        rw [hP1] at hp
        refine Ev.step (f := fun k => (vinculumref03_Power.f k (s.size : Int)).bind fun t105 => (if be ((bytesl s).take s.size) ≥ (wrap64 (Int.tdiv t105 2)) then ((vinculumref03_Power.f k (s.size : Int)).bind fun t106 => (some (wrap64 (be ((bytesl s).take s.size) - t106)))) else (some (be ((bytesl s).take s.size))))) (fun k => by
          simp only [vinculumref03_One.l0]; rw [if_neg (by omega), if_pos hn]) ?_
        refine Ev.bind hp ?_
        have ht : wrap64 (Int.tdiv (2 * P) 2) = P := by
          rw [Int.mul_tdiv_cancel_left _ (by decide), wrap64_small (by omega) (by omega)]
        simp only [ht]
        by_cases hv : be ((bytesl s).take s.size) ≥ P
        · simp only [if_pos hv]
          refine Ev.bind hp ?_
          rw [takeV_neg _ _ _ hn (by rw [hP2]; exact hv), hP5, wrap64_small (by omega) (by omega)]
          exact Ev.now _
        · simp only [if_neg hv]
          rw [takeV_pos _ _ _ (fun h => hv (by have := h.2; rw [hP2] at this; exact this))]
          exact Ev.now _
      · refine Ev.step (f := fun k => some (be ((bytesl s).take s.size))) (fun k => by simp only [vinculumref03_One.l0]; rw [if_neg (by omega), if_neg hn]) ?_
        rw [takeV_pos _ _ _ (fun h => hn h.1)]
        exact Ev.now _
    | succ d ih =>
      intro i hi hd
      have hlt : i < s.size := by omega
      have hb := be_small3 ((bytesl s).take i) (by rw [List.length_take]; omega)
      have hc := s[i].toNat_lt
      refine Ev.step (f := fun k => vinculumref03_One.l0 k s n (be ((bytesl s).take (i + 1))) ((i + 1 : Nat) : Int)) (fun k => ?_) (ih (i + 1) (by omega) (by omega))
      simp only [vinculumref03_One.l0]
      rw [if_pos (by omega), if_pos (by omega), bt_get s i hlt, bytesl_take s i hlt, be_snoc, wrap64_small (x := (i : Int) + 1) (by omega) (by omega), wrap64_small (x := (s[i].toNat : Int)) (by omega) (by omega), wrap64_small (x := 256 * be ((bytesl s).take i)) (by omega) (by omega),
        wrap64_small (by omega) (by omega)]
      congr 1
      omega
  have := key s.size 0 (by omega) (by omega)
  simpa [vinculumref03_One.f, be_nil] using this
end Go.Proofs.Ytgchajlfopmcjaa.P
