/- DimenNear, walked. -/
import Derived.Test.YtkkadhhmdgbpiaaDoorDimTold
import Derived.Test.YtkkadhhmdgbpiaaDoorFloat4
namespace Go.Proofs.YtkkadhhmdgbpiaaDoor.P
open Go.RowKit Go.Proofs.YtkkadhhmdgbpiaaDoorW.PrintWords Go.Proofs.YtkkadhhmdgbpiaaDoorW.PrintLast Go.Proofs.YtkkadhhmdgbpiaaDoorW.PrintMore
set_option linter.unusedVariables false
set_option linter.unusedSimpArgs false
attribute [local go_sem] max2_int min2_int max_two min_two max_three min_three max_four min_four
/-- No number. -/
def NearHyps (f : Nat) (r1 e1 r2 e2 : Int) (w : World) : Prop :=
  (∀ w1, Below w.heap.size w w1 → Calls Tryd.prog 11 #[.float .f64 f] w1 fun e w' => e = .returned (.tuple #[.int .i64 r1, .int .i64 e1]) ∧ Below w.heap.size w w') ∧
  (∀ w1, Below w.heap.size w w1 → Calls Tryd.prog 11 #[.float .f64 (FL.flip f)] w1 fun e w' => e = .returned (.tuple #[.int .i64 r2, .int .i64 e2]) ∧ Below w.heap.size w w') ∧
  (∀ w1, Below w.heap.size w w1 → Calls Tryd.prog 9 #[] w1 fun e w' => e = .returned (.bool true) ∧ Below w.heap.size w w')
set_option maxRecDepth 100000 in
set_option maxHeartbeats 4000000 in
theorem near_walk_nan (f g : Nat) (w : World) (hy : NearHyps f 0 3 0 3 w) (ho : FloatKind.f64.format.order f f = none) : Calls Tryd.prog 4 #[.float .f64 f, .float .f64 g] w fun e w' => e = .returned (.bool true) ∧ Below w.heap.size w w' := by
  obtain ⟨h1, h2, h7⟩ := hy
  have H1 := Lib.hid h1
  have H2 := Lib.hid h2
  have H7 := Lib.hid h7
  have hb : Below w.heap.size w w := Below.refl _ _
  clear h1 h2 h7
  go_enter Tryd.func4, Tryd.ntmps4
  go_wp2_with (first
    | (go_at_call 11; first
      | (with_reducible refine (H1.out _ hb).mono ?_; rintro e w1 ⟨rfl, hb⟩)
      | (with_reducible refine (H2.out _ hb).mono ?_; rintro e w1 ⟨rfl, hb⟩))
    | (go_at_call 9; with_reducible refine (H7.out _ hb).mono ?_; rintro e w1 ⟨rfl, hb⟩))
  go_ret
  exact ⟨rfl, hb⟩
set_option maxRecDepth 100000 in
set_option maxHeartbeats 4000000 in
theorem near_walk_over (f g P : Nat) (r3 e3 : Int) (w : World) (hy : NearHyps f 0 2 0 2 w) (ho : FloatKind.f64.format.order f f = some .eq) (hm : Ieee.double.mul f 4679240012837945344 = some P)
    (h3 : ∀ w1, Below w.heap.size w w1 → Calls Tryd.prog 11 #[.float .f64 g] w1 fun e w' => e = .returned (.tuple #[.int .i64 r3, .int .i64 e3]) ∧ Below w.heap.size w w')
    (hP : (FloatKind.f64.format.order P 4742290407612743680 = some .gt ∨ FloatKind.f64.format.order P 4742290407612743680 = some .eq) ∨
       (FloatKind.f64.format.order P 4742290407612743680 = some .lt ∧ (FloatKind.f64.format.order P 13965662444467519488 = some .lt ∨ FloatKind.f64.format.order P 13965662444467519488 = some .eq))) :
    Calls Tryd.prog 4 #[.float .f64 f, .float .f64 g] w fun e w' => e = .returned (.bool true) ∧ Below w.heap.size w w' := by
  obtain ⟨h1, h2, h7⟩ := hy
  have hmul : ∀ t w, (binOp .mul t (.float .f64 f) (.float .f64 4679240012837945344)).run Tryd.prog w = .ok (.float .f64 P) w := fun t w => run_float_arith w .mul t .f64 _ _ _ hm
  have H1 := Lib.hid h1
  have H2 := Lib.hid h2
  have H3 := Lib.hid h3
  have H7 := Lib.hid h7
  have hb : Below w.heap.size w w := Below.refl _ _
  clear h1 h2 h3 h7 hm
  rcases hP with (h | h) | ⟨h, h' | h'⟩
  all_goals
    go_enter Tryd.func4, Tryd.ntmps4
    go_wp2_with (first
      | (go_at_call 11; first
        | (with_reducible refine (H1.out _ hb).mono ?_; rintro e w1 ⟨rfl, hb⟩)
        | (with_reducible refine (H2.out _ hb).mono ?_; rintro e w1 ⟨rfl, hb⟩)
        | (with_reducible refine (H3.out _ hb).mono ?_; rintro e w1 ⟨rfl, hb⟩))
      | (go_at_call 9; with_reducible refine (H7.out _ hb).mono ?_; rintro e w1 ⟨rfl, hb⟩))
    go_ret
    exact ⟨rfl, hb⟩
set_option maxRecDepth 100000 in
set_option maxHeartbeats 8000000 in
theorem near_walk_ok (f g P D F : Nat) (a s1 r3 e3 : Int) (w : World) (hy : NearHyps f a 0 s1 0 w) (hwr : wrap64 (-a) = s1) (ho : FloatKind.f64.format.order f f = some .eq)
    (hm : Ieee.double.mul f 4679240012837945344 = some P) (hF : floatOfInt .f64 a = F) (hs : Ieee.double.sub F P = some D) (hl : lenB a = true)
    (h3 : ∀ w1, Below w.heap.size w w1 → Calls Tryd.prog 11 #[.float .f64 g] w1 fun e w' => e = .returned (.tuple #[.int .i64 r3, .int .i64 e3]) ∧ Below w.heap.size w w')
    (hM : ((e3 == 0) = false ∧ True ∧ True) ∨ ((e3 == 0) = true ∧ (FloatKind.f64.format.order f g = none ∨ FloatKind.f64.format.order f g = some .gt) ∧ True) ∨ ((e3 == 0) = true ∧ (FloatKind.f64.format.order f g = some .lt ∨ FloatKind.f64.format.order f g = some .eq) ∧ ¬ r3 < a))
    (hO : (FloatKind.f64.format.order D 4602678819172646912 = some .lt ∧ FloatKind.f64.format.order D 13826050856027422720 = some .gt ∧ True) ∨
       (FloatKind.f64.format.order D 4602678819172646912 = some .eq ∧ FloatKind.f64.format.order D 13826050856027422720 = some .gt ∧ FloatKind.f64.format.order P 0 = some .gt) ∨
       (FloatKind.f64.format.order D 4602678819172646912 = some .lt ∧ FloatKind.f64.format.order D 13826050856027422720 = some .eq ∧ FloatKind.f64.format.order P 0 = some .lt)) :
    Calls Tryd.prog 4 #[.float .f64 f, .float .f64 g] w fun e w' => e = .returned (.bool true) ∧ Below w.heap.size w w' := by
  obtain ⟨h1, h2, h7⟩ := hy
  have hmul : ∀ t w, (binOp .mul t (.float .f64 f) (.float .f64 4679240012837945344)).run Tryd.prog w = .ok (.float .f64 P) w := fun t w => run_float_arith w .mul t .f64 _ _ _ hm
  have hsub : ∀ t w, (binOp .sub t (.float .f64 F) (.float .f64 P)).run Tryd.prog w = .ok (.float .f64 D) w := fun t w => run_float_arith w .sub t .f64 _ _ _ hs
  have hconv : ∀ w, (convert 3 30 (.int .i64 a)).run Tryd.prog w = .ok (.float .f64 F) w := fun w => (run_convert_int_float w _ _ _ _ _ (by kernel_rfl) (by kernel_rfl)).trans (by rw [hF])
  have hi : ∀ w1, Below w.heap.size w w1 → Calls Tryd.prog 12 #[.slice (some ⟨w1.heap.size, 0, none⟩) 1 1] (w1.alloc (.cells #[.int .i64 a] 3)) fun e w' => e = .returned (.bool (lenB a)) ∧ Below w.heap.size w w' := fun w1 hb => (is_calls a w1 _ rfl).mono fun e w2 h => ⟨h.1, (hb.alloc hb.size _).trans (h.2.below.mono (by have := hb.size; simp; omega))⟩
  rw [hl] at hi
  have H1 := Lib.hid h1
  have H2 := Lib.hid h2
  have H3 := Lib.hid h3
  have H7 := Lib.hid h7
  have HI := Lib.hid hi
  have hb : Below w.heap.size w w := Below.refl _ _
  clear h1 h2 h3 h7 hm hs hF hl hi
  rcases hM with ⟨m1, m2, m3⟩ | ⟨m1, m2 | m2, m3⟩ | ⟨m1, m2 | m2, m3⟩
  all_goals
    rcases hO with ⟨o1, o2, o3⟩ | ⟨o1, o2, o3⟩ | ⟨o1, o2, o3⟩
  all_goals
    go_enter Tryd.func4, Tryd.ntmps4
    go_wp2_with (first
      | (go_at_call 11; first
        | (with_reducible refine (H1.out _ hb).mono ?_; rintro e w1 ⟨rfl, hb⟩)
        | (with_reducible refine (H2.out _ hb).mono ?_; rintro e w1 ⟨rfl, hb⟩)
        | (with_reducible refine (H3.out _ hb).mono ?_; rintro e w1 ⟨rfl, hb⟩))
      | (go_at_call 12; refine (HI.out _ hb).mono ?_; rintro e w1 ⟨rfl, hb⟩)
      | (go_at_call 9; with_reducible refine (H7.out _ hb).mono ?_; rintro e w1 ⟨rfl, hb⟩))
    go_ret
    exact ⟨rfl, hb⟩
theorem near_law (f g : Nat) (hf : f < 2 ^ 64) (hg : g < 2 ^ 64) (w : World) (ht : DimTabs w) : Calls Tryd.prog 4 #[.float .f64 f, .float .f64 g] w fun e w' => e = .returned (.bool true) ∧ Below w.heap.size w w' := by
  have h7 : ∀ w1, Below w.heap.size w w1 → Calls Tryd.prog 9 #[] w1 fun e w' => e = .returned (.bool true) ∧ Below w.heap.size w w' := fun w1 hb => (told_calls w1 (ht.below hb)).mono fun e w2 h => ⟨h.1, hb.trans (h.2.mono hb.size)⟩
  have hO : ∀ x r e, prodB x 4679240012837945344 = (r, e) → ∀ w1, Below w.heap.size w w1 → Calls Tryd.prog 11 #[.float .f64 x] w1 fun en w' => en = .returned (.tuple #[.int .i64 r, .int .i64 e]) ∧ Below w.heap.size w w' := fun x r e hx w1 hb => (of_calls x w1).mono fun en w2 h => ⟨by rw [h.1, hx], hb.trans (h.2.mono hb.size)⟩
  have hfl : ∀ r e, prodB f 4679240012837945344 = (r, e) → prodB (FL.flip f) 4679240012837945344 = (-r, e) := fun r e h => by rw [FL.of_flip f hf, h]; rfl
  have hg3 := hO g (prodB g 4679240012837945344).1 (prodB g 4679240012837945344).2 rfl
  have over : (f % 2 ^ 63 < FL.INF ∧ ¬ FL.half (FL.mg (f % 2 ^ 63) * 2 ^ 16) ≤ 1073741823) ∨ f % 2 ^ 63 = FL.INF → Calls Tryd.prog 4 #[.float .f64 f, .float .f64 g] w fun e w' => e = .returned (.bool true) ∧ Below w.heap.size w w' := fun hk => by
    have h2 : prodB f 4679240012837945344 = (0, 2) := by
      rcases hk with ⟨h1, h2⟩ | h1
      · rw [FL.of_fin f h1, FL.nearQ_no _ _ h2]
      · exact FL.of_inf f h1
    obtain ⟨P, hm, hP⟩ := FL.over_facts f hk
    exact near_walk_over f g P _ _ w ⟨hO f 0 2 h2, hO _ 0 2 (hfl 0 2 h2), h7⟩ (FL.order_same f (by rcases hk with ⟨h, _⟩ | h; exact .inl h; exact .inr h)) hm hg3 hP
  rcases FL.kinds f with h | h | h
  · by_cases hq : FL.half (FL.mg (f % 2 ^ 63) * 2 ^ 16) ≤ 1073741823
    · obtain ⟨P, D, hm, hs, hor⟩ := FL.off_facts f h hq
      have h2 := FL.of_fin f h
      rw [FL.nearQ_ok _ _ hq] at h2
      have hmore := fun h' => FL.more_no_less f g h'
      have hlen : ∀ s q, q ≤ 1073741823 → -1073741823 ≤ FL.sgn s q ∧ FL.sgn s q ≤ 1073741823 := fun s q hq => by
        unfold FL.sgn
        cases s
        · rw [if_neg (by decide)]; omega
        · rw [if_pos rfl]; omega
      have hl := hlen (f / 2 ^ 63 % 2 == 1) _ hq
      refine near_walk_ok f g P D _ _ (-FL.sgn (f / 2 ^ 63 % 2 == 1) (FL.half (FL.mg (f % 2 ^ 63) * 2 ^ 16))) _ _ w ⟨hO f _ 0 h2, hO _ _ 0 (hfl _ 0 h2), h7⟩ (wrap64_small (by omega) (by omega)) (FL.order_same f (.inl h)) hm rfl hs ?_ hg3 ?_ hor
      · unfold lenB
        rw [decide_eq_true hl.1, decide_eq_true hl.2]; rfl
      · rcases FL.kinds g with h' | h' | h'
        · by_cases hq' : FL.half (FL.mg (g % 2 ^ 63) * 2 ^ 16) ≤ 1073741823
          · rw [FL.of_fin g h', FL.nearQ_ok _ _ hq']
            refine .inr ?_
            rcases Int.lt_or_le (FL.V g) (FL.V f) with hv | hv
            · exact .inl ⟨rfl, .inr (FL.order_gt f g h h' hv), trivial⟩
            · refine .inr ⟨rfl, ?_, Int.not_lt.2 (hmore hv)⟩
              rcases Int.lt_or_eq_of_le hv with hv | hv
              · exact .inl (FL.order_lt f g h h' hv)
              · exact .inr (FL.order_eq f g h h' hv)
          · rw [FL.of_fin g h', FL.nearQ_no _ _ hq']
            exact .inl ⟨rfl, trivial, trivial⟩
        · rw [FL.of_inf g h']
          exact .inl ⟨rfl, trivial, trivial⟩
        · rw [FL.of_nan g h']
          exact .inl ⟨rfl, trivial, trivial⟩
    · exact over (.inl ⟨h, hq⟩)
  · exact over (.inr h)
  · have h2 := FL.of_nan f h
    exact near_walk_nan f g w ⟨hO f 0 3 h2, hO _ 0 3 (hfl 0 3 h2), h7⟩ (FL.order_nan f h)
end Go.Proofs.YtkkadhhmdgbpiaaDoor.P
