/- Layer 19: the laws LexWhite and LexJoins, walked. Condition: the library's tables stand. -/
import Derived.Test.YtplkdfkahcpoeaaDoorLexTop
import Derived.Test.YtplkdfkahcpoeaaDoorLawP19
namespace Go.Proofs.YtplkdfkahcpoeaaDoor.P
open Go.Shelf Go.RowKit Go.Proofs.YtplkdfkahcpoeaaDoorW.PrintWords Go.Proofs.YtplkdfkahcpoeaaDoorW.PrintLast Go.Proofs.YtplkdfkahcpoeaaDoorW.PrintMore
set_option linter.unusedVariables false
set_option linter.unusedSimpArgs false
set_option maxRecDepth 100000
/-! ### white: the plain law -/
theorem whB3 : whB 32 = true ∧ whB 9 = true ∧ whB 10 = true := by decide
theorem allL_front (X : List UInt8) : allL (32 :: 9 :: 10 :: X) = if okL X then shiftT 3 (allL X) else ([], 0, 5) := by
  have hok : okL (32 :: 9 :: 10 :: X) = okL X := by
    unfold okL
    rw [Lib.validD_cons 32 _ (by decide), Lib.validD_cons 9 _ (by decide), Lib.validD_cons 10 _ (by decide)]
    rw [List.contains_cons, List.contains_cons, List.contains_cons]
    rfl
  have hsk : skp false (32 :: 9 :: 10 :: X) = skp false X := by
    rw [skp, if_pos whB3.1, skp, if_pos whB3.2.1, skp, if_pos whB3.2.2]
  unfold allL
  rw [hok, hsk]
  by_cases h : okL X = true
  · rw [if_pos h, if_pos h, if_pos h, ← lexE_shift, List.length_cons, List.length_cons, List.length_cons]
    have := skp_le false X
    rw [show ((X.length + 1 + 1 + 1 : Nat) : Int) = (X.length : Int) + 3 by omega]
    exact lexE_fuel _ _ _ _ (by omega) (by omega)
  · rw [if_neg h, if_neg h]
theorem ascii_ok : ∀ l : List UInt8, (∀ b ∈ l, 0 < b.toNat ∧ b.toNat < 128) → okL l = true := by
  intro l h
  unfold okL
  have hv := Lib.validD_ascii l.length l (fun b hb => (h b (List.mem_of_mem_take hb)).2)
  rw [hv, List.drop_length, Lib.validD_nil, Bool.true_and]
  simp only [Bool.not_eq_true', List.contains_eq_mem, decide_eq_false_iff_not]
  intro hm
  have := (h 0 hm).1
  exact absurd this (by decide)
theorem skp_remark (r : List UInt8) (h : ∀ b ∈ r, b ≠ 10) : ∀ t, skp true (r ++ 10 :: t) = skp false t := by
  induction r with
  | nil => intro t; rw [List.nil_append, skp, if_pos rfl]
  | cons b r ih =>
    intro t
    rw [List.cons_append, skp, if_neg (h b (by simp)), ih (fun x hx => h x (by simp [hx]))]
theorem allL_tail (r : List UInt8) (h : ∀ b ∈ r, 32 ≤ b.toNat ∧ b.toNat ≤ 126) : allL (37 :: (r ++ [10, 32])) = ([], (r.length : Int) + 3, 0) ∧ okL (37 :: (r ++ [10, 32])) = true := by
  have hok : okL (37 :: (r ++ [10, 32])) = true := ascii_ok _ (fun b hb => by
    simp only [List.mem_cons, List.mem_append, List.not_mem_nil, or_false] at hb
    rcases hb with rfl | hb | rfl | rfl
    · decide
    · have := h b hb; omega
    · decide
    · decide)
  refine ⟨?_, hok⟩
  have hsk : skp false (37 :: (r ++ [10, 32])) = [] := by
    rw [skp, if_neg (by decide), if_pos rfl, skp_remark r (fun b hb e => by subst e; exact absurd (h 10 hb).1 (by decide))]
    rfl
  unfold allL
  rw [if_pos hok, hsk, lexE_nil, List.length_cons, List.length_append]
  rfl
/-- The source with white ahead, white and a remark behind. -/
theorem allL_white (l r : List UInt8) (h : ∀ b ∈ r, 32 ≤ b.toNat ∧ b.toNat ≤ 126) :
    allL (32 :: 9 :: 10 :: (l ++ 10 :: (37 :: (r ++ [10, 32])))) = if okL l then (if (allL l).2.2 ≠ 0 then ([], (allL l).2.1 + 3, (allL l).2.2) else ((allL l).1.map (movT 3), (l.length : Int) + (r.length : Int) + 7, 0)) else ([], 0, 5) := by
  obtain ⟨ht, hok⟩ := allL_tail r h
  rw [allL_front, okL_app, hok, Bool.and_true, allL_join, hok, Bool.and_true, ht]
  by_cases ho : okL l = true
  · rw [if_pos ho, if_pos ho, if_pos ho]
    have herr := allL_err l
    generalize allL l = X at herr
    obtain ⟨a, m, e⟩ := X
    unfold thenT shiftT combT
    by_cases he : e = 0
    · simp only [he, ne_eq, not_true_eq_false, if_false, List.map_nil, List.append_nil]
      congr 2
      omega
    · simp only at herr
      simp [he, herr he]
  · rw [if_neg ho, if_neg ho]
/-! ### white: the walk -/
theorem white_long (s r : ByteArray) (h : 1000 < s.size ∨ 200 < r.size) (w : World) : Calls Tryd.prog 5 #[.string s, .string r] w fun e w' => e = .returned (.bool true) ∧ Below w.heap.size w w' := by
  by_cases h1 : 1000 < s.size
  · have d1 : decide ((1000 : Int) < (s.size : Int)) = true := decide_eq_true (by omega)
    have d2 : decide (1000 < s.size) = true := decide_eq_true h1
    clear h h1
    go_enter Tryd.func5, Tryd.ntmps5
    go_wp2_with fail
    go_ret
    exact ⟨rfl, Below.refl _ _⟩
  · have d1 : decide ((1000 : Int) < (s.size : Int)) = false := decide_eq_false (by omega)
    have d2 : decide (1000 < s.size) = false := decide_eq_false h1
    have d3 : decide ((200 : Int) < (r.size : Int)) = true := decide_eq_true (by omega)
    have d4 : decide (200 < r.size) = true := decide_eq_true (by omega)
    clear h h1
    go_enter Tryd.func5, Tryd.ntmps5
    go_wp2_with fail
    go_ret
    exact ⟨rfl, Below.refl _ _⟩
set_option maxHeartbeats 8000000 in
theorem white_bad (s r : ByteArray) (h1 : s.size ≤ 1000) (h2 : r.size ≤ 200) (k : Int) (hk0 : 0 ≤ k) (hk1 : k < (r.size : Int)) (hb : bt r k < 32 ∨ 126 < bt r k) (hg : ∀ j : Int, 0 ≤ j → j < k → 32 ≤ bt r j ∧ bt r j ≤ 126) (w : World) (hT : LexTabs w) :
    Calls Tryd.prog 5 #[.string s, .string r] w fun e w' => e = .returned (.bool true) ∧ Below w.heap.size w w' := by
  have HX := Lib.hid (lexed_calls w hT)
  have d1 : decide ((1000 : Int) < (s.size : Int)) = false := decide_eq_false (by omega)
  have d2 : decide (1000 < s.size) = false := decide_eq_false (by omega)
  have d3 : decide ((200 : Int) < (r.size : Int)) = false := decide_eq_false (by omega)
  have d4 : decide (200 < r.size) = false := decide_eq_false (by omega)
  have HG := Lib.hid hg
  have HK := Lib.hid (show 0 ≤ k ∧ k < (r.size : Int) ∧ r.size ≤ 200 from ⟨hk0, hk1, h2⟩)
  have HBD := Lib.hid hb
  clear h1 h2 hk0 hk1 hb hg hT
  go_enter Tryd.func5, Tryd.ntmps5
  go_wp2_with fail
  go_loopg [5] (r.size + 1) (fun gk v5 wr => ∃ i : Int, v5 = .int .i64 i ∧ Hid (0 ≤ i ∧ i ≤ k ∧ (r.size : Int) + 1 ≤ i + gk) ∧ w = wr)
  case atStart => exact ⟨0, rfl, Lib.hid (by have := HK.out; omega), rfl⟩
  case round =>
    obtain ⟨i, rfl, HI, rfl⟩ := hrel
    have hx := bt_at r i
    have hI := HI.out
    have hK := HK.out
    have c1 : decide (i < (r.size : Int)) = true := decide_eq_true (by omega)
    have g1 := eq_true (show 0 ≤ i by omega)
    have g2 := eq_true (show i < (r.size : Int) by omega)
    by_cases hik : i = k
    · have hB := HBD.out
      rw [← hik] at hB
      by_cases h32 : bt r i < 32
      · have e1 : decide (bt r i < 32) = true := decide_eq_true h32
        clear hB h32 hI hK hik
        go_wp2_with fail
        refine HX.out.mono ?_
        rintro e w4 ⟨rfl, hb⟩
        go_wp2_with fail
        go_ret
        exact ⟨rfl, hb⟩
      · have e1 : decide (bt r i < 32) = false := decide_eq_false h32
        have e2 : decide (126 < bt r i) = true := decide_eq_true (by omega)
        clear hB h32 hI hK hik
        go_wp2_with fail
        refine HX.out.mono ?_
        rintro e w4 ⟨rfl, hb⟩
        go_wp2_with fail
        go_ret
        exact ⟨rfl, hb⟩
    · have hgd := HG.out i (by omega) (by omega)
      have e1 : decide (bt r i < 32) = false := decide_eq_false (by omega)
      have e2 : decide (126 < bt r i) = false := decide_eq_false (by omega)
      have wr1 : IntKind.i64.wrap (i + 1) = i + 1 := IntWalk.i64_in _ (by omega)
      have HN := Lib.hid (show i < k by omega)
      clear hgd hI hK hik
      go_wp2_with fail
      go_roundg (gk - 1)
      case measure => have := HI.out; have := HN.out; have := HK.out; omega
      case rel => exact ⟨i + 1, rfl, Lib.hid (by have := HI.out; have := HN.out; have := HK.out; omega), rfl⟩
def whS : ByteArray := ⟨#[32, 9, 10]⟩
def whT : ByteArray := ⟨#[10, 37]⟩
def whU : ByteArray := ⟨#[10, 32]⟩
def whX (s r : ByteArray) : ByteArray := whS ++ s ++ whT ++ r ++ whU
set_option maxHeartbeats 16000000 in
theorem white_err (s r : ByteArray) (h1 : s.size ≤ 1000) (h2 : r.size ≤ 200) (hg : ∀ j : Int, 0 ≤ j → j < (r.size : Int) → 32 ≤ bt r j ∧ bt r j ≤ 126) (n m e : Int) (he : e ≠ 0) (ha : allS s = ([], n, e)) (hb : allS (whX s r) = ([], m, e)) (hn : m = n + 3 ∨ (m = 0 ∧ n = 0)) (hn0 : 0 ≤ n) (hn1 : n ≤ 1000) (w : World) (hT : LexTabs w) :
    Calls Tryd.prog 5 #[.string s, .string r] w fun e w' => e = .returned (.bool true) ∧ Below w.heap.size w w' := by
  have HTB := Lib.hid (fun (w' : World) (hb : Below w.heap.size w w') => hT.below hb)
  have HX := Lib.hid lexed_calls
  have HA := Lib.hid (all_reads s)
  rw [ha] at HA
  have HB := Lib.hid (all_reads (whX s r))
  rw [hb] at HB
  unfold whX whS whT whU at HB
  simp only [List.length_nil] at HA HB
  have d1 : decide ((1000 : Int) < (s.size : Int)) = false := decide_eq_false (by omega)
  have d2 : decide (1000 < s.size) = false := decide_eq_false (by omega)
  have d3 : decide ((200 : Int) < (r.size : Int)) = false := decide_eq_false (by omega)
  have d4 : decide (200 < r.size) = false := decide_eq_false (by omega)
  have e1 : (e != 0) = true := bne_iff_ne.mpr he
  have e2 : (e == e) = true := beq_iff_eq.mpr rfl
  have wr3 : IntKind.i64.wrap (n + 3) = n + 3 := IntWalk.i64_in _ (by omega)
  have s1 := eq_false (show ¬ 9223372036854775807 < 3 + s.size by omega)
  have s2 := eq_false (show ¬ 9223372036854775807 < 3 + s.size + 2 by omega)
  have s3 := eq_false (show ¬ 9223372036854775807 < 3 + s.size + 2 + r.size by omega)
  have s4 := eq_false (show ¬ 9223372036854775807 < 3 + s.size + 2 + r.size + 2 by omega)
  have HG := Lib.hid hg
  have HK := Lib.hid h2
  have HN := Lib.hid hn
  clear h1 h2 hg hT ha hb he hn hn0 hn1
  go_enter Tryd.func5, Tryd.ntmps5
  go_wp2_with fail
  go_loopg [5] (r.size + 1) (fun gk v5 wr => ∃ i : Int, v5 = .int .i64 i ∧ Hid (0 ≤ i ∧ i ≤ (r.size : Int) ∧ (r.size : Int) + 1 ≤ i + gk) ∧ w = wr)
  case atStart => exact ⟨0, rfl, Lib.hid (by omega), rfl⟩
  case round =>
    obtain ⟨i, rfl, HI, rfl⟩ := hrel
    have hI := HI.out
    have hK := HK.out
    by_cases hik : i < (r.size : Int)
    · have hx := bt_at r i
      have c1 : decide (i < (r.size : Int)) = true := decide_eq_true hik
      have g1 := eq_true (show 0 ≤ i by omega)
      have g2 := eq_true hik
      have hgd := HG.out i (by omega) hik
      have f1 : decide (bt r i < 32) = false := decide_eq_false (by omega)
      have f2 : decide (126 < bt r i) = false := decide_eq_false (by omega)
      have wr1 : IntKind.i64.wrap (i + 1) = i + 1 := IntWalk.i64_in _ (by omega)
      have HNN := Lib.hid hik
      clear hgd hI hK hik
      go_wp2_with fail
      go_roundg (gk - 1)
      case measure => have := HI.out; have := HNN.out; omega
      case rel => exact ⟨i + 1, rfl, Lib.hid (by have := HI.out; have := HNN.out; omega), rfl⟩
    · have c1 : decide (i < (r.size : Int)) = false := decide_eq_false hik
      clear hI hK hik
      go_wp2_with fail
      refine (HA.out _ (HTB.out _ (Below.refl _ _))).mono ?_
      rintro e' w2 ⟨A, cp, rfl, hcp, hC, hb⟩
      have HB2 := Lib.hid hb
      clear hb hC hcp HA
      go_wp2_with fail
      refine (HB.out _ (HTB.out _ HB2.out)).mono ?_
      rintro e' w3 ⟨A2, cp2, rfl, hcp, hC, hb⟩
      have HB3 := Lib.hid (HB2.out.trans (hb.mono HB2.out.size))
      clear hb hC hcp HB
      go_wp2_with fail
      refine (HX.out _ (HTB.out _ HB3.out)).mono ?_
      rintro e' w4 ⟨rfl, hb⟩
      have HB4 := Lib.hid (HB3.out.trans (hb.mono HB3.out.size))
      clear hb
      rcases HN.out with rfl | ⟨rfl, rfl⟩
      · go_wp2_with fail
        go_ret
        exact ⟨rfl, HB4.out⟩
      · go_wp2_with fail
        go_ret
        exact ⟨rfl, HB4.out⟩
set_option maxHeartbeats 16000000 in
theorem white_ok (s r : ByteArray) (h1 : s.size ≤ 1000) (h2 : r.size ≤ 200) (hg : ∀ j : Int, 0 ≤ j → j < (r.size : Int) → 32 ≤ bt r j ∧ bt r j ≤ 126) (L : List S37) (hL : L.length ≤ 1000) (hLp : ∀ x ∈ L, 0 ≤ x.f3 ∧ x.f3 ≤ 1000) (ha : allS s = (L, (s.size : Int), 0)) (hb : allS (whX s r) = (L.map (movT 3), (s.size : Int) + (r.size : Int) + 7, 0)) (w : World) (hT : LexTabs w) :
    Calls Tryd.prog 5 #[.string s, .string r] w fun e w' => e = .returned (.bool true) ∧ Below w.heap.size w w' := by
  have HTB := Lib.hid (fun (w' : World) (hb : Below w.heap.size w w') => hT.below hb)
  have HX := Lib.hid lexed_calls
  have HA := Lib.hid (all_reads s)
  rw [ha] at HA
  have HB := Lib.hid (all_reads (whX s r))
  rw [hb] at HB
  unfold whX whS whT whU at HB
  simp only [List.length_map] at HA HB
  have HM := Lib.hid (fun A0 c0 A1 c1 w hr0 hr1 hc0 hc1 => moved_calls A0 c0 L A1 c1 3 w hr0 hr1 hc0 hc1 (by omega) (fun x hx => by have := hLp x hx; omega) (by decide) (by decide))
  have d1 : decide ((1000 : Int) < (s.size : Int)) = false := decide_eq_false (by omega)
  have d2 : decide (1000 < s.size) = false := decide_eq_false (by omega)
  have d3 : decide ((200 : Int) < (r.size : Int)) = false := decide_eq_false (by omega)
  have d4 : decide (200 < r.size) = false := decide_eq_false (by omega)
  have wr3 : IntKind.i64.wrap ((s.size : Int) + (r.size : Int)) = (s.size : Int) + (r.size : Int) := IntWalk.i64_in _ (by omega)
  have wr4 : IntKind.i64.wrap ((s.size : Int) + (r.size : Int) + 7) = (s.size : Int) + (r.size : Int) + 7 := IntWalk.i64_in _ (by omega)
  have s1 := eq_false (show ¬ 9223372036854775807 < 3 + s.size by omega)
  have s2 := eq_false (show ¬ 9223372036854775807 < 3 + s.size + 2 by omega)
  have s3 := eq_false (show ¬ 9223372036854775807 < 3 + s.size + 2 + r.size by omega)
  have s4 := eq_false (show ¬ 9223372036854775807 < 3 + s.size + 2 + r.size + 2 by omega)
  have HG := Lib.hid hg
  have HK := Lib.hid h2
  clear h1 h2 hg hT ha hb hL hLp
  go_enter Tryd.func5, Tryd.ntmps5
  go_wp2_with fail
  go_loopg [5] (r.size + 1) (fun gk v5 wr => ∃ i : Int, v5 = .int .i64 i ∧ Hid (0 ≤ i ∧ i ≤ (r.size : Int) ∧ (r.size : Int) + 1 ≤ i + gk) ∧ w = wr)
  case atStart => exact ⟨0, rfl, Lib.hid (by omega), rfl⟩
  case round =>
    obtain ⟨i, rfl, HI, rfl⟩ := hrel
    have hI := HI.out
    have hK := HK.out
    by_cases hik : i < (r.size : Int)
    · have hx := bt_at r i
      have c1 : decide (i < (r.size : Int)) = true := decide_eq_true hik
      have g1 := eq_true (show 0 ≤ i by omega)
      have g2 := eq_true hik
      have hgd := HG.out i (by omega) hik
      have f1 : decide (bt r i < 32) = false := decide_eq_false (by omega)
      have f2 : decide (126 < bt r i) = false := decide_eq_false (by omega)
      have wr1 : IntKind.i64.wrap (i + 1) = i + 1 := IntWalk.i64_in _ (by omega)
      have HNN := Lib.hid hik
      clear hgd hI hK hik
      go_wp2_with fail
      go_roundg (gk - 1)
      case measure => have := HI.out; have := HNN.out; omega
      case rel => exact ⟨i + 1, rfl, Lib.hid (by have := HI.out; have := HNN.out; omega), rfl⟩
    · have c1 : decide (i < (r.size : Int)) = false := decide_eq_false hik
      clear hI hK hik
      go_wp2_with fail
      refine (HA.out _ (HTB.out _ (Below.refl _ _))).mono ?_
      rintro e' w2 ⟨A, cp, rfl, hcp, hC, hb⟩
      have HB2 := Lib.hid hb
      have HC2 := Lib.hid hC
      have HCP := Lib.hid hcp
      clear hb hC hcp HA
      go_wp2_with fail
      refine (HB.out _ (HTB.out _ HB2.out)).mono ?_
      rintro e' w3 ⟨A2, cp2, rfl, hcp, hC, hb⟩
      have HB3 := Lib.hid (HB2.out.trans (hb.mono HB2.out.size))
      have HC3 := Lib.hid (Kd.C_below HC2.out hb)
      have HD3 := Lib.hid hC
      have HCP2 := Lib.hid hcp
      clear hb hC hcp HB
      go_wp2_with fail
      refine (HX.out _ (HTB.out _ HB3.out)).mono ?_
      rintro e' w4 ⟨rfl, hb⟩
      have HB4 := Lib.hid (HB3.out.trans (hb.mono HB3.out.size))
      have HC4 := Lib.hid (Kd.C_below HC3.out hb)
      have HD4 := Lib.hid (Kd.C_below HD3.out hb)
      clear hb
      go_wp2_with fail
      refine (HM.out _ _ _ _ _ HC4.out HD4.out HCP.out HCP2.out).mono ?_
      rintro e' w5 ⟨rfl, hb⟩
      have HB5 := Lib.hid (HB4.out.trans (hb.mono HB4.out.size))
      clear hb
      go_wp2_with fail
      go_ret
      exact ⟨rfl, HB5.out⟩
theorem bt_bl (r : ByteArray) (i : Nat) (h : i < r.size) : bt r (i : Int) = (((bl r)[i]'(by rw [bl_len]; exact h)).toNat : Int) := by
  unfold bt
  rw [dif_pos (by rw [Int.toNat_natCast]; exact h)]
  rfl
theorem first_bad (r : ByteArray) (p : Int → Prop) [DecidablePred p] : (∀ j : Int, 0 ≤ j → j < (r.size : Int) → p j) ∨ ∃ k : Int, 0 ≤ k ∧ k < (r.size : Int) ∧ ¬ p k ∧ ∀ j : Int, 0 ≤ j → j < k → p j := by
  have key : ∀ n : Nat, n ≤ r.size → (∀ j : Int, 0 ≤ j → j < (n : Int) → p j) ∨ ∃ k : Int, 0 ≤ k ∧ k < (n : Int) ∧ ¬ p k ∧ ∀ j : Int, 0 ≤ j → j < k → p j := by
    intro n
    induction n with
    | zero => intro _; exact .inl (fun j h0 h1 => by omega)
    | succ n ih =>
      intro hn
      rcases ih (by omega) with h | ⟨k, k0, k1, k2, k3⟩
      · by_cases hp : p (n : Int)
        · refine .inl (fun j h0 h1 => ?_)
          by_cases hj : j = (n : Int)
          · subst hj; exact hp
          · exact h j h0 (by omega)
        · exact .inr ⟨n, by omega, by omega, hp, h⟩
      · exact .inr ⟨k, k0, by omega, k2, k3⟩
  exact key r.size (Nat.le_refl _)
theorem white_law (s r : ByteArray) (w : World) (hT : LexTabs w) : Calls Tryd.prog 5 #[.string s, .string r] w fun e w' => e = .returned (.bool true) ∧ Below w.heap.size w w' := by
  by_cases hl : 1000 < s.size ∨ 200 < r.size
  · exact white_long s r hl w
  have h1 : s.size ≤ 1000 := by omega
  have h2 : r.size ≤ 200 := by omega
  rcases first_bad r (fun j => 32 ≤ bt r j ∧ bt r j ≤ 126) with hg | ⟨k, k0, k1, k2, k3⟩
  rotate_left
  · exact white_bad s r h1 h2 k k0 k1 (by omega) k3 w hT
  have hgl : ∀ b ∈ bl r, 32 ≤ b.toNat ∧ b.toNat ≤ 126 := by
    intro b hb
    obtain ⟨i, hi, rfl⟩ := List.getElem_of_mem hb
    rw [bl_len] at hi
    have := hg (i : Int) (by omega) (by omega)
    rw [bt_bl r i hi] at this
    omega
  have hbl : bl (whX s r) = 32 :: 9 :: 10 :: (bl s ++ 10 :: (37 :: (bl r ++ [10, 32]))) := by
    unfold whX
    rw [bl_app, bl_app, bl_app, bl_app]
    show [32, 9, 10] ++ bl s ++ [10, 37] ++ bl r ++ [10, 32] = _
    simp
  have hxz : (whX s r).size ≤ 65536 := by
    rw [← bl_len, hbl]
    simp only [List.length_cons, List.length_append, List.length_nil]
    rw [bl_len, bl_len]
    omega
  have ha := allS_L s (by omega)
  have hb := allS_L (whX s r) hxz
  rw [hbl, allL_white (bl s) (bl r) hgl, bl_len, bl_len] at hb
  obtain ⟨g1, g2, g3, g4⟩ := allL_good (bl s)
  have herr := allL_err (bl s)
  rw [bl_len] at g3 g4
  by_cases ho : okL (bl s) = true
  rotate_left
  · have hA : allL (bl s) = ([], 0, 5) := by unfold allL; rw [if_neg ho]
    rw [if_neg ho] at hb
    rw [hA] at ha
    exact white_err s r h1 h2 hg 0 0 5 (by decide) ha hb (.inr ⟨rfl, rfl⟩) (by decide) (by decide) w hT
  rw [if_pos ho] at hb
  obtain ⟨L, m, e, hL⟩ : ∃ L m e, allL (bl s) = (L, m, e) := ⟨_, _, _, rfl⟩
  rw [hL] at ha hb g1 g2 g3 g4 herr
  simp only at hb g1 g2 g3 g4 herr
  by_cases he : e = 0
  · subst he
    obtain rfl := g4 rfl
    rw [if_neg (by simp)] at hb
    have hpl : ∀ y ∈ L, 0 ≤ y.f3 ∧ y.f3 < (s.size : Int) := fun y hy => by obtain ⟨q, a, b, _⟩ := g1 y hy; rw [bl_len] at b; omega
    have hlen : L.length ≤ 1000 := by
      rcases pairwise_len L (s.size : Int) g2 hpl with h | h
      · omega
      · rw [h]; simp
    exact white_ok s r h1 h2 hg L hlen (fun x hx => by have := hpl x hx; omega) ha hb w hT
  · rw [if_pos he] at hb
    rw [herr he] at ha
    exact white_err s r h1 h2 hg m (m + 3) e he ha hb (.inl rfl) g3.1 (by omega) w hT
end Go.Proofs.YtplkdfkahcpoeaaDoor.P
