/- DimenShort, walked. -/
import Derived.Test.YtkkadhhmdgbpiaaDoorDimTold
import Derived.Test.YtkkadhhmdgbpiaaDoorRead02
import Derived.Laws.IdiomStrings
import Derived.Lib.ConvBytes
import Derived.Lib.SmallJoins
namespace Go.Proofs.YtkkadhhmdgbpiaaDoor.P
open Go.RowKit Go.Proofs.YtkkadhhmdgbpiaaDoorW.PrintWords Go.Proofs.YtkkadhhmdgbpiaaDoorW.PrintLast Go.Proofs.YtkkadhhmdgbpiaaDoorW.PrintMore
set_option linter.unusedVariables false
set_option linter.unusedSimpArgs false
attribute [local go_sem] max2_int min2_int max_two min_two max_three min_three max_four min_four
set_option maxHeartbeats 4000000 in
theorem short_none (a : Int) (w : World)
    (h7 : ∀ w1, Below w.heap.size w w1 → Calls Tryd.prog 9 #[] w1 fun e w' => e = .returned (.bool true) ∧ Below w.heap.size w w')
    (h4 : ∀ w1, Below w.heap.size w w1 → Calls Tryd.prog 8 #[.int .i64 a] w1 fun e w' => e = .returned (.tuple #[.string ⟨#[]⟩, .int .i64 1]) ∧ Below w.heap.size w w') :
    Calls Tryd.prog 3 #[.int .i64 a] w fun e w' => e = .returned (.bool true) ∧ Below w.heap.size w w' := by
  have H4 := Lib.hid h4
  have H7 := Lib.hid h7
  have hb : Below w.heap.size w w := Below.refl _ _
  clear h4 h7
  go_enter Tryd.func3, Tryd.ntmps3
  go_wp2_with (first
    | (go_at_call 8; with_reducible refine (H4.out _ hb).mono ?_; rintro e w1 ⟨rfl, hb⟩)
    | (go_at_call 9; with_reducible refine (H7.out _ hb).mono ?_; rintro e w1 ⟨rfl, hb⟩))
  go_ret
  exact ⟨rfl, hb⟩
set_option maxHeartbeats 4000000 in
theorem short_one (a : Int) (s : ByteArray) (dt : Nat) (hn : s.size = dt + 4) (hn2 : s.size ≤ 100) (hpre : ∀ i (h : i < s.size), i < dt → (((s[i]'h).toNat : Int) != 46) = true) (hdot : ∀ h : dt < s.size, (((s[dt]'h).toNat : Int) != 46) = false) (w : World)
    (h7 : ∀ w1, Below w.heap.size w w1 → Calls Tryd.prog 9 #[] w1 fun e w' => e = .returned (.bool true) ∧ Below w.heap.size w w')
    (h4 : ∀ w1, Below w.heap.size w w1 → Calls Tryd.prog 8 #[.int .i64 a] w1 fun e w' => e = .returned (.tuple #[.string s, .int .i64 0]) ∧ Below w.heap.size w w') :
    Calls Tryd.prog 3 #[.int .i64 a] w fun e w' => e = .returned (.bool true) ∧ Below w.heap.size w w' := by
  have H4 := Lib.hid h4
  have H7 := Lib.hid h7
  have hb : Below w.heap.size w w := Below.refl _ _
  clear h4 h7
  go_enter Tryd.func3, Tryd.ntmps3
  go_wp2_with (first
    | (go_at_call 8; with_reducible refine (H4.out _ hb).mono ?_; rintro e w1 ⟨rfl, hb⟩)
    | (go_at_call 9; with_reducible refine (H7.out _ hb).mono ?_; rintro e w1 ⟨rfl, hb⟩))
  go_loopg [5] dt (fun kq v5 w' => ∃ i : Nat, v5 = .int .i64 (i : Int) ∧ kq + i = dt ∧ Hid (Below w.heap.size w w'))
  case atStart => exact ⟨0, rfl, rfl, Lib.hid hb⟩
  case round =>
    obtain ⟨i, rfl, hi, HD⟩ := hrel
    by_cases hlast : i = dt
    · subst hlast
      have hlt : i < s.size := by omega
      have hne := hdot hlt
      clear hpre hdot
      go_wp2_with (first
        | (go_at_call 9; with_reducible refine (H7.out _ HD.out).mono ?_; rintro e w1 ⟨rfl, hb⟩))
      go_ret
      exact ⟨rfl, hb⟩
    · have hlt : i < s.size := by omega
      have hne := hpre i hlt (by omega)
      have hwk : wrap64 ((i : Int) + 1) = ((i + 1 : Nat) : Int) := by rw [wrap64_small (by omega) (by omega)]; omega
      obtain ⟨g, rfl⟩ : ∃ g, gk = g + 1 := ⟨gk - 1, by omega⟩
      clear hpre hdot
      go_wp2
      go_roundg g
      case measure => omega
      case rel => exact ⟨i + 1, by first | rfl | (rw [hwk]), by omega, HD⟩
theorem bytesW_below (w : World) (e : TypeId) (s : ByteArray) : Below w.heap.size w (Lib.bytesWorld w e s) := by
  exact ⟨rfl, rfl, rfl, by rw [Lib.bytesWorld_size]; omega, fun _ hj => Lib.bytesWorld_at_old w e s _ hj⟩
/-- '[]byte(s)', one byte of it set, and '.. as a string' again. -/
theorem conv_set (s : ByteArray) (n : Nat) (x : Int) (hn : n < s.size) (hx : 0 ≤ x ∧ x < 256) (w : World) : ∃ (W : World) (C : Nat), (convert 9 28 (.string s)).run Tryd.prog w = .ok (.slice (some ⟨w.heap.size, 0, none⟩) s.size C) W ∧ Below w.heap.size w W ∧
    W.cell? ⟨w.heap.size, n, none⟩ = some (.int .u8 (s.data.toList.getD n 0).toNat) ∧ W.frozen? ⟨w.heap.size, n, none⟩ = false ∧ s.size ≤ C ∧
    (convert 28 9 (.slice (some ⟨w.heap.size, 0, none⟩) s.size C)).run Tryd.prog (W.setCell ⟨w.heap.size, n, none⟩ (.int .u8 x)) = .ok (.string ⟨(s.data.toList.set n (UInt8.ofNat x.toNat)).toArray⟩) (W.setCell ⟨w.heap.size, n, none⟩ (.int .u8 x)) := by
  have hc := Lib.bytesWorld_at_new w 5 s
  have hsz : s.size ≤ (Lib.bytesCells w 5 s).size := by
    unfold Lib.bytesCells
    rw [Array.size_append, Array.size_map]
    exact Nat.le_add_right _ _
  have hle : s.size ≤ grownCap w s.size 0 5 := grownCap_ge w s.size 0 5
  have hlen : s.data.toList.length = s.size := by simp only [Array.length_toList]; rfl
  refine ⟨Lib.bytesWorld w 5 s, grownCap w s.size 0 5, Lib.run_convert_string_bytes (P := Tryd.prog) w 9 28 5 s Tryd.underlying9 Tryd.underlying28 Tryd.underlying5, bytesW_below _ _ _, Lib.bytesWorld_cell w 5 s n hn, ?_, hle, ?_⟩
  · simp only [World.frozen?, hc]
    rw [decide_eq_false (by omega)]
    rfl
  · have := run_convert_bytes_back (P := Tryd.prog) ((Lib.bytesWorld w 5 s).setCell ⟨w.heap.size, n, none⟩ (.int .u8 x)) 28 9 5 ⟨w.heap.size, 0, none⟩ (grownCap w s.size 0 5) (s.data.toList.set n (UInt8.ofNat x.toNat)) Tryd.underlying28 Tryd.underlying5 Tryd.underlying9 (fun j hj => ?_)
    · rw [List.length_set, hlen] at this
      exact this
    · have hj' : j < s.size := by rw [List.length_set, hlen] at hj; exact hj
      have hadd : (⟨w.heap.size, 0, none⟩ : Addr).add j = ⟨w.heap.size, j, none⟩ := by unfold Addr.add; by_cases h : j = 0 <;> simp [h]
      rw [hadd]
      have hcell := Joins.cell_of_block (Joins.block_setCell (i := n) hc (.int .u8 x)) j
      rw [hcell, Array.getElem?_setIfInBounds]
      by_cases hnj : n = j
      · subst hnj
        rw [if_pos rfl, if_pos (by omega), List.getElem_set_self]
        have : ((UInt8.ofNat x.toNat).toNat : Int) = x := by rw [UInt8.toNat_ofNat']; omega
        rw [this]
      · rw [if_neg hnj, List.getElem_set_ne hnj]
        have h1 := Lib.bytesWorld_cell w 5 s j hj'
        rw [Joins.cell_of_block hc j] at h1
        rw [h1]
        have hd : j < s.data.size := hj'
        simp [List.getD, Array.getElem?_eq_getElem hd]
set_option maxRecDepth 100000 in
set_option maxHeartbeats 4000000 in
theorem short_many (a : Int) (s : ByteArray) (dt k : Nat) (hk : 2 ≤ k) (hn : s.size = dt + (3 + k)) (hn2 : s.size ≤ 100) (hpre : ∀ i (h : i < s.size), i < dt → (((s[i]'h).toNat : Int) != 46) = true) (hdot : ∀ h : dt < s.size, (((s[dt]'h).toNat : Int) != 46) = false)
    (b : Int) (w : World) (hba : b ≠ a)
    (h7 : ∀ w1, Below w.heap.size w w1 → Calls Tryd.prog 9 #[] w1 fun e w' => e = .returned (.bool true) ∧ Below w.heap.size w w')
    (h4 : ∀ w1, Below w.heap.size w w1 → Calls Tryd.prog 8 #[.int .i64 a] w1 fun e w' => e = .returned (.tuple #[.string s, .int .i64 0]) ∧ Below w.heap.size w w')
    (h5 : ∀ w1, Below w.heap.size w w1 → Calls Tryd.prog 10 #[.string (s.extract 0 (dt + (3 + k) - 3) ++ ⟨#[112, 116]⟩)] w1 fun e w' => e = .returned (.tuple #[.int .i64 b, .int .i64 0]) ∧ Below w.heap.size w w')
    (h6 : ((s.extract 0 (dt + (3 + k) - 3)).data.toList.getD (dt + k - 1) 0).toNat < 57 → ∃ c g1 : Int, (g1 ≠ 0 ∨ (g1 = 0 ∧ c ≠ a)) ∧ ∀ w1, Below w.heap.size w w1 → Calls Tryd.prog 10 #[.string (⟨((s.extract 0 (dt + (3 + k) - 3)).data.toList.set (dt + k - 1) (UInt8.ofNat ((s.extract 0 (dt + (3 + k) - 3)).data.toList.getD (dt + k - 1) 0).toNat + 1)).toArray⟩ ++ ⟨#[112, 116]⟩)] w1 fun e w' => e = .returned (.tuple #[.int .i64 c, .int .i64 g1]) ∧ Below w.heap.size w w') :
    Calls Tryd.prog 3 #[.int .i64 a] w fun e w' => e = .returned (.bool true) ∧ Below w.heap.size w w' := by
  have H4 := Lib.hid h4
  have H5 := Lib.hid h5
  have H7 := Lib.hid h7
  have hb : Below w.heap.size w w := Below.refl _ _
  clear h4 h5 h7
  go_enter Tryd.func3, Tryd.ntmps3
  go_wp2_with (first
    | (go_at_call 8; with_reducible refine (H4.out _ hb).mono ?_; rintro e w1 ⟨rfl, hb⟩)
    | (go_at_call 9; with_reducible refine (H7.out _ hb).mono ?_; rintro e w1 ⟨rfl, hb⟩))
  go_loopg [5] dt (fun kq v5 w' => ∃ i : Nat, v5 = .int .i64 (i : Int) ∧ kq + i = dt ∧ Hid (Below w.heap.size w w'))
  case atStart => exact ⟨0, rfl, rfl, Lib.hid hb⟩
  case round =>
    obtain ⟨i, rfl, hi, HD⟩ := hrel
    by_cases hlast : i = dt
    · subst hlast
      have hlt : i < s.size := by omega
      have hne := hdot hlt
      clear hpre hdot
      have hD := HD.out
      have hXs : (s.extract 0 (i + (3 + k) - 3)).size = i + k := by rw [ByteArray.size_extract]; omega
      go_wp2_with fail
      refine (H5.out _ hD).mono ?_
      rintro e w1 ⟨rfl, hD⟩
      by_cases h57 : (57 : Int) ≤ ((s.extract 0 (i + (3 + k) - 3)).data.toList.getD (i + k - 1) 0).toNat
      · have hba' : (b != a) = true := by simpa using hba
        obtain ⟨W5, C, hcv, hb5, hc5, hf5, hC5, hcb⟩ := conv_set (s.extract 0 (i + (3 + k) - 3)) (i + k - 1) 0 (by omega) (by omega) w1
        rw [hXs] at hcv
        generalize hX : s.extract 0 (i + (3 + k) - 3) = X at *
        generalize hL : ((X.data.toList.getD (i + k - 1) 0).toNat : Int) = L at *
        clear hX hL H5 h6
        have hD2 : Below w.heap.size w W5 := hD.trans (hb5.mono hD.size)
        go_wp2_with (first
          | (go_at_call 9; with_reducible refine (H7.out _ hD2).mono ?_; rintro e w1 ⟨rfl, hD⟩))
        go_ret
        exact ⟨rfl, hD⟩
      · obtain ⟨c, g1, hgc, h6'⟩ := h6 (by omega)
        have hba' : (b != a) = true := by simpa using hba
        obtain ⟨W5, C, hcv, hb5, hc5, hf5, hC5, hcb⟩ := conv_set (s.extract 0 (i + (3 + k) - 3)) (i + k - 1) (((s.extract 0 (i + (3 + k) - 3)).data.toList.getD (i + k - 1) 0).toNat + 1) (by omega) (by omega) w1
        rw [hXs] at hcv hcb hC5
        generalize hX : s.extract 0 (i + (3 + k) - 3) = X at *
        generalize hL : (X.data.toList.getD (i + k - 1) 0).toNat = L at *
        have hw8 : IntKind.u8.wrap ((L : Int) + 1) = (L : Int) + 1 := by rw [IntKind.wrap_u8]; omega
        have hb6 : Below w1.heap.size w1 (W5.setCell ⟨w1.heap.size, i + k - 1, none⟩ (.int .u8 ((L : Int) + 1))) := hb5.setCell (Nat.le_refl _) _
        have hD2 : Below w.heap.size w (W5.setCell ⟨w1.heap.size, i + k - 1, none⟩ (.int .u8 ((L : Int) + 1))) := hD.trans (hb6.mono hD.size)
        have H6 := Lib.hid h6'
        clear hX hL H5 h6 h6'
        rcases hgc with hg | ⟨hg, hc⟩
        · have hg' : (g1 != 0) = true := by simpa using hg
          clear hg
          go_wp2_with (first
            | (go_at_call 10; refine (H6.out _ hD2).mono ?_; rintro e w1 ⟨rfl, hD⟩)
            | (go_at_call 9; with_reducible refine (H7.out _ hD).mono ?_; rintro e w1 ⟨rfl, hD⟩))
          go_ret
          exact ⟨rfl, hD⟩
        · subst hg
          have hc' : (c != a) = true := by simpa using hc
          clear hc
          go_wp2_with (first
            | (go_at_call 10; refine (H6.out _ hD2).mono ?_; rintro e w1 ⟨rfl, hD⟩)
            | (go_at_call 9; with_reducible refine (H7.out _ hD).mono ?_; rintro e w1 ⟨rfl, hD⟩))
          go_ret
          exact ⟨rfl, hD⟩
    · have hlt : i < s.size := by omega
      have hne := hpre i hlt (by omega)
      have hwk : wrap64 ((i : Int) + 1) = ((i + 1 : Nat) : Int) := by rw [wrap64_small (by omega) (by omega)]; omega
      obtain ⟨g, rfl⟩ : ∃ g, gk = g + 1 := ⟨gk - 1, by omega⟩
      clear hpre hdot
      go_wp2
      go_roundg g
      case measure => omega
      case rel => exact ⟨i + 1, by first | rfl | (rw [hwk]), by omega, HD⟩
/-! ### the text's parts -/
open Go.Lib Go.Proofs.YtkkadhhmdgbpiaaDoor.DC
def frontL (neg : Bool) (q : Nat) : List UInt8 := (if neg then [45] else []) ++ decDigits q
theorem txt_front (neg : Bool) (q j e : Nat) : txt neg q j e = (frontL neg q ++ 46 :: dig j e) ++ [112, 116] := by
  unfold txt frontL
  simp
theorem txt_more (neg : Bool) (q j p : Nat) : txt neg q (j + 1) p = (frontL neg q ++ 46 :: dig j (p / 10)) ++ [UInt8.ofNat (48 + p % 10), 112, 116] := by
  unfold txt frontL
  rw [dig]
  simp
theorem front_ne (neg : Bool) (q : Nat) (hq : q < 100000) : ∀ b ∈ frontL neg q, b ≠ 46 := by
  intro b hb he
  subst he
  unfold frontL at hb
  rcases List.mem_append.1 hb with h | h
  · cases neg
    · cases h
    · exact absurd (List.mem_singleton.1 h) (by decide)
  · exact absurd ((decDigits_from 4 q hq).2.1 _ h).1 (by decide)
theorem bOf_size (l : List UInt8) : (bOf l).size = l.length := by show l.toArray.size = _; simp
theorem bOf_get (l : List UInt8) (i : Nat) (h : i < (bOf l).size) : (bOf l)[i]'h = l[i]'(bOf_size l ▸ h) := rfl
theorem bOf_take (A B : List UInt8) (n : Nat) (hn : n = A.length) : (bOf (A ++ B)).extract 0 n = bOf A := by
  subst hn
  apply ByteArray.ext
  unfold bOf
  simp
theorem bOf_app (A B : List UInt8) : (⟨A.toArray⟩ : ByteArray) ++ ⟨B.toArray⟩ = bOf (A ++ B) := by
  apply ByteArray.ext
  unfold bOf
  simp [ByteArray.data_append]
theorem last_of (A : List UInt8) (j e : Nat) (n : Nat) (hj : 1 ≤ j) (hn : n = A.length + j) : (A ++ 46 :: dig j e).getD n 0 = UInt8.ofNat (48 + e % 10) ∧ ∀ x, (A ++ 46 :: dig j e).set n x = A ++ 46 :: (dig (j - 1) (e / 10) ++ [x]) := by
  obtain ⟨i, rfl⟩ : ∃ i, j = i + 1 := ⟨j - 1, by omega⟩
  subst hn
  have hl := dig_len i (e / 10)
  have hr : A ++ 46 :: dig (i + 1) e = (A ++ 46 :: dig i (e / 10)) ++ [UInt8.ofNat (48 + e % 10)] := by rw [dig]; simp
  have hlen : (A ++ 46 :: dig i (e / 10)).length = A.length + (i + 1) := by simp [hl]
  rw [hr, ← hlen]
  refine ⟨?_, fun x => ?_⟩
  · simp [List.getD]
  · rw [List.set_append_right _ _ (Nat.le_refl _), Nat.sub_self]
    simp
theorem less_read (rest j p : Nat) (hr : rest < 65536) (h1 : 1 ≤ j) (h4 : j ≤ 4) (h : nr (65536 * p) (10 ^ (j + 1)) = rest) : nr (65536 * (p / 10)) (10 ^ j) ≤ rest := by
  unfold nr at h ⊢
  rcases (by omega : j = 1 ∨ j = 2 ∨ j = 3 ∨ j = 4) with rfl | rfl | rfl | rfl <;> omega
theorem short_law (a : Int) (w : World) (ht : DimTabs w) : Calls Tryd.prog 3 #[.int .i64 a] w fun e w' => e = .returned (.bool true) ∧ Below w.heap.size w w' := by
  have h7 : ∀ w1, Below w.heap.size w w1 → Calls Tryd.prog 9 #[] w1 fun e w' => e = .returned (.bool true) ∧ Below w.heap.size w w' := fun w1 hb => (told_calls w1 (ht.below hb)).mono fun e w2 h => ⟨h.1, hb.trans (h.2.mono hb.size)⟩
  have hT : ∀ s e0, textE a = (s, e0) → ∀ w1, Below w.heap.size w w1 → Calls Tryd.prog 8 #[.int .i64 a] w1 fun e w' => e = .returned (.tuple #[.string s, .int .i64 e0]) ∧ Below w.heap.size w w' := fun s e0 he w1 hb => (Text_calls a w1 (ht.below hb)).mono fun e w2 h => ⟨by rw [h.1, he], hb.trans (h.2.mono hb.size)⟩
  have hP : ∀ s, s.size ≤ 1000 → ∀ w1, Below w.heap.size w w1 → Calls Tryd.prog 10 #[.string s] w1 fun e w' => e = .returned (.tuple #[.int .i64 (parseE s).1, .int .i64 (parseE s).2]) ∧ Below w.heap.size w w' := fun s hs w1 hb => (parse_calls s w1 (ht.below hb) hs).mono fun e w2 h => ⟨h.1, hb.trans (h.2.mono hb.size)⟩
  cases hl : lenB a
  · exact short_none a w h7 (hT _ 1 (by unfold textE; rw [hl, if_neg (by decide)]))
  · have hr : -1073741823 ≤ a ∧ a ≤ 1073741823 := by unfold lenB at hl; simpa using hl
    have hte := textE_bytes a hr
    have hrest : a.natAbs % 65536 < 65536 := Nat.mod_lt _ (by decide)
    have hq : a.natAbs / 65536 < 100000 := by omega
    have hK := kf_le (a.natAbs % 65536) 4 1
    have hlt := kf_lt _ hrest
    have hrd := kf_reads _ hrest
    have hno := short_read a hr
    have hna : 65536 * (a.natAbs / 65536) + a.natAbs % 65536 ≤ 1073741823 := by omega
    generalize hneg : decide (a < 0) = neg at *
    generalize a.natAbs / 65536 = q at *
    generalize a.natAbs % 65536 = rest at *
    generalize nr (rest * 10 ^ kf rest 4 1) 65536 = p at *
    generalize kf rest 4 1 = K at *
    have hfl : (frontL neg q).length ≤ 6 := by
      unfold frontL
      rw [List.length_append]
      have := (decDigits_from 4 q hq).2.2.1
      have : (if neg = true then [(45 : UInt8)] else []).length ≤ 1 := by split <;> simp
      omega
    obtain ⟨j, rfl⟩ : ∃ j, K = j + 1 := ⟨K - 1, by omega⟩
    have hsz : (bOf (txt neg q (j + 1) p)).size = (frontL neg q).length + (3 + (j + 1)) := by
      rw [bOf_size, txt_more]
      simp [dig_len]
      omega
    have hpre : ∀ i (h : i < (bOf (txt neg q (j + 1) p)).size), i < (frontL neg q).length → ((((bOf (txt neg q (j + 1) p))[i]'h).toNat : Int) != 46) = true := by
      intro i h hi
      rw [bOf_get]
      have hm : (txt neg q (j + 1) p)[i]'(by rw [bOf_size] at h; exact h) = (frontL neg q)[i] := by
        simp only [txt_more, List.append_assoc]
        rw [List.getElem_append_left hi]
      rw [hm]
      have := front_ne neg q hq _ (List.getElem_mem hi)
      have h2 : ((frontL neg q)[i].toNat : Int) ≠ 46 := fun h => this (UInt8.toNat_inj.1 (by have e : (46 : UInt8).toNat = 46 := rfl; omega))
      simpa using h2
    have hdot : ∀ h : (frontL neg q).length < (bOf (txt neg q (j + 1) p)).size, ((((bOf (txt neg q (j + 1) p))[(frontL neg q).length]'h).toNat : Int) != 46) = false := by
      intro h
      rw [bOf_get]
      have hm : (txt neg q (j + 1) p)[(frontL neg q).length]'(by rw [bOf_size] at h; exact h) = 46 := by
        simp only [txt_more, List.append_assoc]
        rw [List.getElem_append_right (Nat.le_refl _)]
        simp
      rw [hm]
      rfl
    rcases Nat.eq_zero_or_pos j with h0 | h0
    · subst h0
      exact short_one a _ _ hsz (by omega) hpre hdot w h7 (hT _ 0 hte)
    · have hX : (bOf (txt neg q (j + 1) p)).extract 0 ((frontL neg q).length + (3 + (j + 1)) - 3) = bOf (frontL neg q ++ 46 :: dig j (p / 10)) := by
        rw [txt_more]
        exact bOf_take _ _ _ (by simp [dig_len]; omega)
      have he : p / 10 < 10 ^ j := by rw [Nat.div_lt_iff_lt_mul (by decide), ← Nat.pow_succ]; exact hlt
      have hs1 : ∀ e, (bOf (txt neg q j e)).size ≤ 1000 := fun e => by
        rw [bOf_size, txt_front]
        simp [dig_len]
        omega
      have hb2 : (parseE (bOf (txt neg q j (p / 10)))).2 = 0 := by
        rw [parse_txt neg q j _ hq h0 (by omega) he]
        have := less_read rest j p hrest h0 (by omega) hrd
        unfold readN
        rw [if_pos (by omega)]
      have hba := fun h => hno j (p / 10) h0 (by omega) he h hb2
      obtain ⟨l1, l2⟩ := last_of (frontL neg q) j (p / 10) ((frontL neg q).length + (j + 1) - 1) h0 (by omega)
      refine short_many a _ _ (j + 1) (by omega) hsz (by omega) hpre hdot _ w hba h7 (hT _ 0 hte) ?_ ?_
      · rw [hX]
        have := hP _ (hs1 (p / 10))
        rw [hb2] at this
        rw [show bOf (frontL neg q ++ 46 :: dig j (p / 10)) ++ (⟨#[112, 116]⟩ : ByteArray) = bOf (txt neg q j (p / 10)) by rw [txt_front]; exact bOf_app _ [112, 116]]
        exact this
      · have hdl : (bOf (frontL neg q ++ 46 :: dig j (p / 10))).data.toList = frontL neg q ++ 46 :: dig j (p / 10) := rfl
        rw [hX, hdl]
        intro hlt9
        rw [l1, byte_val _ (Nat.mod_lt _ (by decide))] at hlt9
        have he1 : p / 10 + 1 < 10 ^ j := by
          obtain ⟨i, rfl⟩ : ∃ i, j = i + 1 := ⟨j - 1, by omega⟩
          rw [Nat.pow_succ] at he ⊢
          omega
        refine ⟨(parseE (bOf (txt neg q j (p / 10 + 1)))).1, (parseE (bOf (txt neg q j (p / 10 + 1)))).2, ?_, ?_⟩
        · by_cases hz : (parseE (bOf (txt neg q j (p / 10 + 1)))).2 = 0
          · exact .inr ⟨hz, fun h => hno j _ h0 (by omega) he1 h hz⟩
          · exact .inl hz
        · rw [l1, byte_val _ (Nat.mod_lt _ (by decide)), l2]
          have hd : dig (j - 1) (p / 10 / 10) ++ [UInt8.ofNat (48 + p / 10 % 10) + 1] = dig j (p / 10 + 1) := by
            obtain ⟨i, rfl⟩ : ∃ i, j = i + 1 := ⟨j - 1, by omega⟩
            rw [dig, show (p / 10 + 1) / 10 = p / 10 / 10 by omega, show (p / 10 + 1) % 10 = p / 10 % 10 + 1 by omega]
            rw [← Nat.add_assoc, UInt8.ofNat_add (48 + p / 10 % 10) 1]
            rfl
          rw [hd, bOf_app _ [112, 116]]
          have := hP _ (hs1 (p / 10 + 1))
          rw [txt_front] at this
          rw [txt_front]
          exact this
end Go.Proofs.YtkkadhhmdgbpiaaDoor.P
