/- DimenScales, walked. -/
import Derived.Test.YtkkadhhmdgbpiaaDoorDimTold
import Derived.Test.YtkkadhhmdgbpiaaDoorFloat3
namespace Go.Proofs.YtkkadhhmdgbpiaaDoor.P
open Go.RowKit Go.Proofs.YtkkadhhmdgbpiaaDoorW.PrintWords Go.Proofs.YtkkadhhmdgbpiaaDoorW.PrintLast Go.Proofs.YtkkadhhmdgbpiaaDoorW.PrintMore
set_option linter.unusedVariables false
set_option linter.unusedSimpArgs false
attribute [local go_sem] max2_int min2_int max_two min_two max_three min_three max_four min_four
theorem inf_calls (w : World) : Calls Tryd.prog 18 #[.int .i64 1] w fun e w' => e = .returned (.float .f64 9218868437227405312) ∧ Drawn0 w w' := by
  go_enter Tryd.func18, Tryd.ntmps18
  go_wp2
  go_ret
  exact ⟨rfl, by repeat (first | exact Drawn0.refl _ | apply Drawn0.step)⟩
theorem near_bound (b : Nat) (hb : b < 2 ^ 64) : -1073741823 ≤ (nearB b).1 ∧ (nearB b).1 ≤ 1073741823 := by
  have q : ∀ s q, -1073741823 ≤ (FL.nearQ s q).1 ∧ (FL.nearQ s q).1 ≤ 1073741823 := by
    intro s q
    unfold FL.nearQ
    by_cases h : q ≤ 1073741823
    · rw [if_pos h]; cases s
      · rw [if_neg (by decide)]; dsimp only; omega
      · rw [if_pos rfl]; dsimp only; omega
    · rw [if_neg h]; dsimp only; omega
  rcases FL.kinds b with h | h | h
  · rw [(FL.near_fin b hb h).1]; exact q _ _
  · rw [(FL.near_inf b hb h).1]; decide
  · rw [(FL.near_nan b hb h).1]; decide
theorem prod_bound (x y : Nat) : -1073741823 ≤ (prodB x y).1 ∧ (prodB x y).1 ≤ 1073741823 := by
  unfold prodB
  cases hm : Ieee.double.mul x y with
  | none => decide
  | some p => exact near_bound p (mul_lt hm)
theorem lenB_range (a : Int) : lenB a = true ↔ -1073741823 ≤ a ∧ a ≤ 1073741823 := by
  unfold lenB
  simp
set_option maxRecDepth 100000 in
set_option maxHeartbeats 4000000 in
theorem scales_calls (a : Int) (f : Nat) (hf : f < 2 ^ 64) (w : World) (ht : DimTabs w) : Calls Tryd.prog 7 #[.int .i64 a, .float .f64 f] w fun e w' => e = .returned (.bool true) ∧ Below w.heap.size w w' := by
  have h7 : ∀ w1, Below w.heap.size w w1 → Calls Tryd.prog 9 #[] w1 fun e w' => e = .returned (.bool true) ∧ Below w.heap.size w w' := fun w1 hb => (told_calls w1 (ht.below hb)).mono fun e w2 h => ⟨h.1, hb.trans (h.2.mono hb.size)⟩
  have hi : ∀ w1, Below w.heap.size w w1 → Calls Tryd.prog 12 #[.slice (some ⟨w1.heap.size, 0, none⟩) 1 1] (w1.alloc (.cells #[.int .i64 a] 3)) fun e w' => e = .returned (.bool (lenB a)) ∧ Below w.heap.size w w' := fun w1 hb => (is_calls a w1 _ rfl).mono fun e w2 h => ⟨h.1, (hb.alloc hb.size _).trans (h.2.below.mono (by have := hb.size; simp; omega))⟩
  have hS : ∀ x r1 r2, scaleB a x = (r1, r2) → ∀ w1, Below w.heap.size w w1 → Calls Tryd.prog 16 #[.int .i64 a, .float .f64 x] w1 fun e w' => e = .returned (.tuple #[.int .i64 r1, .int .i64 r2]) ∧ Below w.heap.size w w' := fun x r1 r2 hx w1 hb => (scale_calls a x w1).mono fun e w2 h => ⟨by rw [h.1, hx], hb.trans (h.2.mono hb.size)⟩
  have hb : Below w.heap.size w w := Below.refl _ _
  cases hl : lenB a
  · have hF := hS f 0 1 (by unfold scaleB; rw [hl]; rfl)
    rw [hl] at hi
    have HF := Lib.hid hF
    have H7 := Lib.hid h7
    have HI := Lib.hid hi
    clear hF h7 hi hS ht hl
    go_enter Tryd.func7, Tryd.ntmps7
    go_wp2_with (first
      | (go_at_call 16; with_reducible refine (HF.out _ hb).mono ?_; rintro e w1 ⟨rfl, hb⟩)
      | (go_at_call 12; refine (HI.out _ hb).mono ?_; rintro e w1 ⟨rfl, hb⟩)
      | (go_at_call 9; with_reducible refine (H7.out _ hb).mono ?_; rintro e w1 ⟨rfl, hb⟩))
    go_ret
    exact ⟨rfl, hb⟩
  · have hr := (lenB_range a).1 hl
    have hsc : ∀ x, scaleB a x = prodB (floatOfInt .f64 a) x := fun x => by unfold scaleB; rw [hl, if_pos rfl]
    have hfin := (FL.ofInt_parts a (by omega)).2.1
    have h1 := hS 4607182418800017408 a 0 (by rw [hsc]; exact FL.once a hr)
    have h0 := hS 0 0 0 (by rw [hsc]; exact FL.never a hr)
    have hF := hS f (prodB (floatOfInt .f64 a) f).1 (prodB (floatOfInt .f64 a) f).2 (hsc f)
    have hG := hS (FL.flip f) (-(prodB (floatOfInt .f64 a) f).1) (prodB (floatOfInt .f64 a) f).2 (by rw [hsc, FL.prod_flip _ _ hfin hf]; rfl)
    have hN := hS 9221120237041090561 0 3 (by rw [hsc]; exact FL.no_number a _ (by decide))
    have hE := hS 9218868437227405312 0 (if a = 0 then 3 else 2) (by rw [hsc]; exact FL.endless a hr _ (by decide))
    have hbd := prod_bound (floatOfInt .f64 a) f
    generalize (prodB (floatOfInt .f64 a) f).1 = r1 at *
    generalize (prodB (floatOfInt .f64 a) f).2 = r2 at *
    obtain ⟨s1, hs1⟩ : ∃ s, s = -r1 := ⟨_, rfl⟩
    rw [← hs1] at hG
    have hwr : wrap64 (-r1) = s1 := by rw [hs1]; exact wrap64_small (by omega) (by omega)
    clear hs1
    have hna := nan_calls
    have hin := inf_calls
    rw [hl] at hi
    have H1 := Lib.hid h1
    have H0 := Lib.hid h0
    have HF := Lib.hid hF
    have HG := Lib.hid hG
    have HN := Lib.hid hN
    have H7 := Lib.hid h7
    have HI := Lib.hid hi
    have HNA := Lib.hid hna
    have HIN := Lib.hid hin
    by_cases ha : a = 0
    · rw [if_pos ha] at hE
      have HE := Lib.hid hE
      have haz : (a == 0) = true := by rw [ha]; rfl
      clear h1 h0 hF hG hN hE h7 hi hS ht hl hna hin hsc hfin hbd hf hr ha
      go_enter Tryd.func7, Tryd.ntmps7
      go_wp2_with (first
        | (go_at_call 16; first
          | (with_reducible refine (H1.out _ hb).mono ?_; rintro e w1 ⟨rfl, hb⟩)
          | (with_reducible refine (H0.out _ hb).mono ?_; rintro e w1 ⟨rfl, hb⟩)
          | (with_reducible refine (HF.out _ hb).mono ?_; rintro e w1 ⟨rfl, hb⟩)
          | (with_reducible refine (HG.out _ hb).mono ?_; rintro e w1 ⟨rfl, hb⟩)
          | (with_reducible refine (HN.out _ hb).mono ?_; rintro e w1 ⟨rfl, hb⟩)
          | (with_reducible refine (HE.out _ hb).mono ?_; rintro e w1 ⟨rfl, hb⟩))
        | (go_at_call 17; with_reducible refine (HNA.out _).mono ?_; rintro e w1 ⟨rfl, hd⟩; replace hb := hb.trans (hd.below.mono hb.size))
        | (go_at_call 18; with_reducible refine (HIN.out _).mono ?_; rintro e w1 ⟨rfl, hd⟩; replace hb := hb.trans (hd.below.mono hb.size))
        | (go_at_call 12; refine (HI.out _ hb).mono ?_; rintro e w1 ⟨rfl, hb⟩)
        | (go_at_call 9; with_reducible refine (H7.out _ hb).mono ?_; rintro e w1 ⟨rfl, hb⟩))
      go_ret
      exact ⟨rfl, hb⟩
    · rw [if_neg ha] at hE
      have HE := Lib.hid hE
      have haz : (a == 0) = false := by simpa using ha
      clear h1 h0 hF hG hN hE h7 hi hS ht hl hna hin hsc hfin hbd hf hr ha
      go_enter Tryd.func7, Tryd.ntmps7
      go_wp2_with (first
        | (go_at_call 16; first
          | (with_reducible refine (H1.out _ hb).mono ?_; rintro e w1 ⟨rfl, hb⟩)
          | (with_reducible refine (H0.out _ hb).mono ?_; rintro e w1 ⟨rfl, hb⟩)
          | (with_reducible refine (HF.out _ hb).mono ?_; rintro e w1 ⟨rfl, hb⟩)
          | (with_reducible refine (HG.out _ hb).mono ?_; rintro e w1 ⟨rfl, hb⟩)
          | (with_reducible refine (HN.out _ hb).mono ?_; rintro e w1 ⟨rfl, hb⟩)
          | (with_reducible refine (HE.out _ hb).mono ?_; rintro e w1 ⟨rfl, hb⟩))
        | (go_at_call 17; with_reducible refine (HNA.out _).mono ?_; rintro e w1 ⟨rfl, hd⟩; replace hb := hb.trans (hd.below.mono hb.size))
        | (go_at_call 18; with_reducible refine (HIN.out _).mono ?_; rintro e w1 ⟨rfl, hd⟩; replace hb := hb.trans (hd.below.mono hb.size))
        | (go_at_call 12; refine (HI.out _ hb).mono ?_; rintro e w1 ⟨rfl, hb⟩)
        | (go_at_call 9; with_reducible refine (H7.out _ hb).mono ?_; rintro e w1 ⟨rfl, hb⟩))
      go_ret
      exact ⟨rfl, hb⟩
end Go.Proofs.YtkkadhhmdgbpiaaDoor.P
