/- What bin's reader takes: m bytes off its front, as a number of a size; where they are missing it panics with ErrMore. No condition but that the reader holds a string of at most 2^47 bytes. -/
import Derived.Test.YtgchajlfopmcjaaPx0
import Derived.Test.YtgchajlfopmcjaaBeNum
import Derived.Defers
import Derived.Recover
import Derived.WalkLawsBesides
import Derived.WalkSpells
import Derived.Lib.Builder
import Derived.Lib.Hide
import Derived.OneCell
namespace Go.Proofs.Ytgchajlfopmcjaa.P
open Go.RowKit Go.Proofs.YtgchajlfopmcjaaW.PrintWords Go.Proofs.YtgchajlfopmcjaaW.PrintLast Go.Proofs.YtgchajlfopmcjaaW.PrintMore Go.Proofs.Ytgchajlfopmcjaa.BN
attribute [local go_sem] max2_int min2_int max_two min_two max_three min_three max_four min_four
set_option linter.unusedVariables false
set_option linter.unusedSimpArgs false

set_option maxHeartbeats 400000 in
theorem take_more (g : Nat) (s : ByteArray) (m : Nat) (n : Int) (w : World) (hg : w.heap[g]? = some (.cells #[.string s] 80 (0, 0)))
    (hn : n = m ∨ n = -m) (h1 : 1 ≤ m) (h4 : m ≤ 4) (hs : s.size ≤ 140737488351232) (hm : s.size < m) :
    Calls Try.prog 45 #[.pointer (some ⟨g, 0, none⟩), .int .i64 n] w fun e w' => e = .panicked [{ v := .iface 24 (.int .i64 4), recovered := false }] ∧ w' = w := by
  have c0 : w.cell? ⟨g, 0, none⟩ = some (.string s) := by rw [Lib.cell_of_heap hg]; rfl
  rcases hn with rfl | rfl
  · go_enter Try.func45, Try.ntmps45
    go_wp2
    exact ⟨rfl, rfl, rfl⟩
  · go_enter Try.func45, Try.ntmps45
    go_wp2
    exact ⟨rfl, rfl, rfl⟩

set_option maxRecDepth 100000 in
set_option maxHeartbeats 1000000 in
theorem take_any (g : Nat) (s : ByteArray) (m : Nat) (n : Int) (w : World) (hg : w.heap[g]? = some (.cells #[.string s] 80 (0, 0)))
    (hn : n = m ∨ n = -m) (h1 : 1 ≤ m) (h4 : m ≤ 4) (hs : s.size ≤ 140737488351232) (hm : m ≤ s.size) :
    Calls Try.prog 45 #[.pointer (some ⟨g, 0, none⟩), .int .i64 n] w fun e w' => e = .returned (.int .i64 (takeV s m n)) ∧ w'.heap[g]? = some (.cells #[.string (s.extract m s.size)] 80 (0, 0)) ∧ Below g w w' ∧ KeepBut w w' g none := by
  have hgl := blk_lt hg
  have c0 : w.cell? ⟨g, 0, none⟩ = some (.string s) := by rw [Lib.cell_of_heap hg]; rfl
  have f0 : w.frozen? ⟨g, 0, none⟩ = false := Lib.frozen_of_heap hg 0
  have hsz : (s.extract 0 m).size = m := by simp; omega
  obtain ⟨W1, hW1⟩ : ∃ W1, W1 = Lib.bytesWorld w 5 (s.extract 0 m) := ⟨_, rfl⟩
  obtain ⟨C, hC⟩ : ∃ C, C = grownCap w (s.extract 0 m).size 0 5 := ⟨_, rfl⟩
  have hcv : (convert 9 42 (.string (s.extract 0 m))).run Try.prog w = .ok (.slice (some ⟨w.heap.size, 0, none⟩) m C) W1 := by
    have := Lib.run_convert_string_bytes (P := Try.prog) w 9 42 5 (s.extract 0 m) Try.underlying9 Try.underlying42 Try.underlying5
    rw [this, hsz, hW1, hC, hsz]
  have hnew : ∀ j, j < m → W1.cell? ⟨w.heap.size, j, none⟩ = some (.int .u8 (s.data.toList.getD j 0).toNat) := by
    intro j hj
    rw [hW1, Lib.bytesWorld_cell _ _ _ _ (by omega)]
    congr 3
    simp [List.getD_eq_getElem?_getD, hj]
  have cW : W1.cell? ⟨g, 0, none⟩ = some (.string s) := by rw [hW1, Lib.bytesWorld_old _ _ _ _ hgl]; exact c0
  have fW : W1.frozen? ⟨g, 0, none⟩ = false := by rw [hW1, frozen_bytesWorld _ _ hgl]; exact f0
  have hbW : Below w.heap.size w W1 := by rw [hW1]; exact bytes_below (Below.refl _ _) (Nat.le_refl _) _ _
  have hgW : W1.heap[g]? = some (.cells #[.string s] 80 (0, 0)) := (hbW.block g hgl).trans hg
  have HB := Lib.hid hbW
  have HG := Lib.hid hgW
  have HN := Lib.hid hnew
  have HL := Lib.hid hgl
  clear hW1 hC hsz hg hbW hgW hnew hgl
  have hend : ∀ u : Value, (W1.setCell ⟨g, 0, none⟩ u).heap[g]? = some (.cells #[u] 80 (0, 0)) ∧ Below g w (W1.setCell ⟨g, 0, none⟩ u) ∧ KeepBut w (W1.setCell ⟨g, 0, none⟩ u) g none :=
    fun u => ⟨one_setCell HG.out, (HB.out.mono (Nat.le_of_lt HL.out)).setCell (Nat.le_refl _) _, (KeepBut.of_below HB.out g none).set_ 0 u⟩
  have HE := Lib.hid hend
  clear hend
  have hb4 := be_small ((bytesl s).take m) (by rw [List.length_take]; omega)
  rcases hn with rfl | rfl
  · go_enter Try.func45, Try.ntmps45
    go_wp2
    go_loop [6, 30] (fun v i => ∃ k : Nat, k ≤ m ∧ i = .int .i64 k ∧ v = .int .i64 (be ((bytesl s).take k))) (fun _ i => m - (intOf i).toNat)
    case atStart => exact ⟨0, Nat.zero_le _, rfl, rfl⟩
    case round =>
      obtain ⟨k, hk, rfl, rfl⟩ := hrel
      by_cases hlt : k < m
      · have hcell := HN.out k hlt
        have hb3 := be_small3 ((bytesl s).take k) (by rw [List.length_take]; omega)
        obtain ⟨b0, b1⟩ := hb3
        go_wp2
        go_round
        case rel => exact ⟨k + 1, by omega, by go_num, by rw [bytesl_take s k (by omega), getD_byte s k (by omega), or_byte _ _ (by rw [List.length_take]; omega)]⟩
        case measure => simp [intOf]; omega
      · obtain rfl : k = m := by omega
        go_wp2
        go_ret
        exact ⟨by rw [takeV_pos s _ _ (by omega)]; rfl, HE.out _⟩
  · obtain ⟨P, hP⟩ : ∃ P : Int, (2 : Int) ^ (8 * m - 1) = P := ⟨_, rfl⟩
    obtain ⟨hP1, hP2, hP3, hP4⟩ : 0 < P ∧ P ≤ 2147483648 ∧ (2 : Int) ^ (8 * m) = 2 * P ∧ be ((bytesl s).take m) < 2 * P := by
      have hbb := (be_bound ((bytesl s).take m)).2
      have hl : ((bytesl s).take m).length = m := by rw [List.length_take, bytesl_length]; omega
      rw [hl] at hbb
      rw [← hP]
      obtain rfl | rfl | rfl | rfl : m = 1 ∨ m = 2 ∨ m = 3 ∨ m = 4 := by omega
      all_goals exact ⟨by decide, by decide, by decide, by omega⟩
    have HP := Lib.hid hP
    have HP3 := Lib.hid hP3
    clear hP3
    go_enter Try.func45, Try.ntmps45
    go_wp2
    go_loop [6, 30] (fun v i => ∃ k : Nat, k ≤ m ∧ i = .int .i64 k ∧ v = .int .i64 (be ((bytesl s).take k))) (fun _ i => m - (intOf i).toNat)
    case atStart => exact ⟨0, Nat.zero_le _, rfl, rfl⟩
    case round =>
      obtain ⟨k, hk, rfl, rfl⟩ := hrel
      by_cases hlt : k < m
      · have hcell := HN.out k hlt
        have hb3 := be_small3 ((bytesl s).take k) (by rw [List.length_take]; omega)
        obtain ⟨b0, b1⟩ := hb3
        go_wp2
        go_round
        case rel => exact ⟨k + 1, by omega, by go_num, by rw [bytesl_take s k (by omega), getD_byte s k (by omega), or_byte _ _ (by rw [List.length_take]; omega)]⟩
        case measure => simp [intOf]; omega
      · obtain rfl : k = m := by omega
        by_cases hv : P ≤ be ((bytesl s).take k)
        · go_wp2
          go_ret
          exact ⟨by rw [takeV_neg s _ _ (by omega) (by rw [HP.out]; exact hv), HP3.out]; rfl, HE.out _⟩
        · go_wp2
          go_ret
          exact ⟨by rw [takeV_pos s _ _ (fun h => by have h2 := h.2; rw [HP.out] at h2; omega)]; rfl, HE.out _⟩
end Go.Proofs.Ytgchajlfopmcjaa.P
