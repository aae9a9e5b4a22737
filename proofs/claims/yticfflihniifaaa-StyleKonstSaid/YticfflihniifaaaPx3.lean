/- Each theorem here says that a call of one Go function ends with what the plain function of that name answers (printed by a program of this session); a law's row says that the law returns true for every input. No condition. -/
import Derived.Test.YticfflihniifaaaPx0
import Derived.Test.YticfflihniifaaaPx1
import Derived.Test.YticfflihniifaaaPx2
namespace Go.Proofs.Yticfflihniifaaa.P
open Go.RowKit Go.Proofs.YticfflihniifaaaW.PrintWords Go.Proofs.YticfflihniifaaaW.PrintLast Go.Proofs.YticfflihniifaaaW.PrintMore
attribute [local go_sem] max2_int min2_int max_two min_two max_three min_three max_four min_four   -- for this text's walks alone
set_option linter.unusedVariables false
set_option linter.unusedSimpArgs false

/-! ### vinculumref01_Nearest: function 53 -/
def vinculumref01_Nearest.f (a0 : Int) (a1 : Int) : Option (Int) := (vinculumref01_far.f a0).bind fun t109 => (if a1 = 0 then (none) else ((vinculumref01_far.f a0).bind fun t110 => (if (wrap64 (2 * (Int.tmod t110 a1))) ≥ a1 then (if a0 < 0 then (some (wrap64 (-(wrap64 ((wrap64 (Int.tdiv t109 a1)) + 1))))) else (some (wrap64 ((wrap64 (Int.tdiv t109 a1)) + 1)))) else (if a0 < 0 then (some (wrap64 (-(wrap64 (Int.tdiv t109 a1))))) else (some (wrap64 (Int.tdiv t109 a1)))))))
set_option maxHeartbeats 8000000 in
set_option maxRecDepth 100000 in
theorem vinculumref01_Nearest.calls (a0 : Int) (a1 : Int) (r : Int) (w : World) (h : vinculumref01_Nearest.f a0 a1 = some r) :
    Calls Try.prog 53 #[.int .i64 a0, .int .i64 a1] w fun e w' => e = .returned (.int .i64 r) ∧ Drawn0 w w' := by
  have H : ((vinculumref01_far.f a0).bind fun t109 => (if a1 = 0 then (none) else ((vinculumref01_far.f a0).bind fun t110 => (if (wrap64 (2 * (Int.tmod t110 a1))) ≥ a1 then (if a0 < 0 then (some (wrap64 (-(wrap64 ((wrap64 (Int.tdiv t109 a1)) + 1))))) else (some (wrap64 ((wrap64 (Int.tdiv t109 a1)) + 1)))) else (if a0 < 0 then (some (wrap64 (-(wrap64 (Int.tdiv t109 a1))))) else (some (wrap64 (Int.tdiv t109 a1)))))))) = some r := h
  clear h
  replace H := Option.bind_eq_some_iff.mp H
  obtain ⟨t109, A30, H⟩ := H
  replace H : (if a1 = 0 then (none) else ((vinculumref01_far.f a0).bind fun t110 => (if (wrap64 (2 * (Int.tmod t110 a1))) ≥ a1 then (if a0 < 0 then (some (wrap64 (-(wrap64 ((wrap64 (Int.tdiv t109 a1)) + 1))))) else (some (wrap64 ((wrap64 (Int.tdiv t109 a1)) + 1)))) else (if a0 < 0 then (some (wrap64 (-(wrap64 (Int.tdiv t109 a1))))) else (some (wrap64 (Int.tdiv t109 a1))))))) = some r := H
  have A3 := Aside0.mk A30
  clear A30
  by_cases c4 : a1 = 0
  · rw [if_pos c4] at H
    exact absurd H (by simp)
  · rw [if_neg c4] at H
    have c4b0 : (a1 == 0) = false := beq_eq_false_iff_ne.mpr c4
    have c4b1 : (a1 != 0) = true := bne_iff_ne.mpr c4
    replace H := Option.bind_eq_some_iff.mp H
    obtain ⟨t110, A50, H⟩ := H
    replace H : (if (wrap64 (2 * (Int.tmod t110 a1))) ≥ a1 then (if a0 < 0 then (some (wrap64 (-(wrap64 ((wrap64 (Int.tdiv t109 a1)) + 1))))) else (some (wrap64 ((wrap64 (Int.tdiv t109 a1)) + 1)))) else (if a0 < 0 then (some (wrap64 (-(wrap64 (Int.tdiv t109 a1))))) else (some (wrap64 (Int.tdiv t109 a1))))) = some r := H
    have A5 := Aside0.mk A50
    clear A50
    by_cases c6 : (wrap64 (2 * (Int.tmod t110 a1))) ≥ a1
    · rw [if_pos c6] at H
      have c6b0 : decide (a1 ≤ (wrap64 (2 * (Int.tmod t110 a1)))) = true := decide_eq_true c6
      clear c6
      by_cases c7 : a0 < 0
      · rw [if_pos c7] at H
        have c7b0 : decide (a0 < 0) = true := decide_eq_true c7
        clear c7
        obtain rfl := Option.some.inj H
        go_enter Try.func53, Try.ntmps53
        go_wp2_with (first | ((with_reducible refine gate_callee (f := 54) rfl ?_); refine goesL_ (some 7) rfl rfl Try.func54 (by kernel_rfl) rfl #[.int .i64 a0] rfl (by (try simp only [List.map_toArray, List.map_cons, List.map_nil]); first | done | rfl | (simp only [List.length_drop, List.length_take]; rfl)) ?_; (with_reducible refine (vinculumref01_far.calls a0 t109 _ A3.out).mono ?_); rintro e w' ⟨rfl, ⟨nd, rfl⟩⟩; refine ⟨_, rfl, ?_⟩) | ((with_reducible refine gate_callee (f := 54) rfl ?_); refine goesL_ (some 11) rfl rfl Try.func54 (by kernel_rfl) rfl #[.int .i64 a0] rfl (by (try simp only [List.map_toArray, List.map_cons, List.map_nil]); first | done | rfl | (simp only [List.length_drop, List.length_take]; rfl)) ?_; (with_reducible refine (vinculumref01_far.calls a0 t110 _ A5.out).mono ?_); rintro e w' ⟨rfl, ⟨nd, rfl⟩⟩; refine ⟨_, rfl, ?_⟩))
        go_ret
        exact ⟨by first | rfl | (simp; done) | (simp [*]; done), by repeat (first | exact Drawn0.refl _ | apply Drawn0.step)⟩
      · rw [if_neg c7] at H
        have c7b0 : decide (a0 < 0) = false := decide_eq_false c7
        clear c7
        obtain rfl := Option.some.inj H
        go_enter Try.func53, Try.ntmps53
        go_wp2_with (first | ((with_reducible refine gate_callee (f := 54) rfl ?_); refine goesL_ (some 7) rfl rfl Try.func54 (by kernel_rfl) rfl #[.int .i64 a0] rfl (by (try simp only [List.map_toArray, List.map_cons, List.map_nil]); first | done | rfl | (simp only [List.length_drop, List.length_take]; rfl)) ?_; (with_reducible refine (vinculumref01_far.calls a0 t109 _ A3.out).mono ?_); rintro e w' ⟨rfl, ⟨nd, rfl⟩⟩; refine ⟨_, rfl, ?_⟩) | ((with_reducible refine gate_callee (f := 54) rfl ?_); refine goesL_ (some 11) rfl rfl Try.func54 (by kernel_rfl) rfl #[.int .i64 a0] rfl (by (try simp only [List.map_toArray, List.map_cons, List.map_nil]); first | done | rfl | (simp only [List.length_drop, List.length_take]; rfl)) ?_; (with_reducible refine (vinculumref01_far.calls a0 t110 _ A5.out).mono ?_); rintro e w' ⟨rfl, ⟨nd, rfl⟩⟩; refine ⟨_, rfl, ?_⟩))
        go_ret
        exact ⟨by first | rfl | (simp; done) | (simp [*]; done), by repeat (first | exact Drawn0.refl _ | apply Drawn0.step)⟩
    · rw [if_neg c6] at H
      have c6b0 : decide (a1 ≤ (wrap64 (2 * (Int.tmod t110 a1)))) = false := decide_eq_false c6
      clear c6
      by_cases c8 : a0 < 0
      · rw [if_pos c8] at H
        have c8b0 : decide (a0 < 0) = true := decide_eq_true c8
        clear c8
        obtain rfl := Option.some.inj H
        go_enter Try.func53, Try.ntmps53
        go_wp2_with (first | ((with_reducible refine gate_callee (f := 54) rfl ?_); refine goesL_ (some 7) rfl rfl Try.func54 (by kernel_rfl) rfl #[.int .i64 a0] rfl (by (try simp only [List.map_toArray, List.map_cons, List.map_nil]); first | done | rfl | (simp only [List.length_drop, List.length_take]; rfl)) ?_; (with_reducible refine (vinculumref01_far.calls a0 t109 _ A3.out).mono ?_); rintro e w' ⟨rfl, ⟨nd, rfl⟩⟩; refine ⟨_, rfl, ?_⟩) | ((with_reducible refine gate_callee (f := 54) rfl ?_); refine goesL_ (some 11) rfl rfl Try.func54 (by kernel_rfl) rfl #[.int .i64 a0] rfl (by (try simp only [List.map_toArray, List.map_cons, List.map_nil]); first | done | rfl | (simp only [List.length_drop, List.length_take]; rfl)) ?_; (with_reducible refine (vinculumref01_far.calls a0 t110 _ A5.out).mono ?_); rintro e w' ⟨rfl, ⟨nd, rfl⟩⟩; refine ⟨_, rfl, ?_⟩))
        go_ret
        exact ⟨by first | rfl | (simp; done) | (simp [*]; done), by repeat (first | exact Drawn0.refl _ | apply Drawn0.step)⟩
      · rw [if_neg c8] at H
        have c8b0 : decide (a0 < 0) = false := decide_eq_false c8
        clear c8
        obtain rfl := Option.some.inj H
        go_enter Try.func53, Try.ntmps53
        go_wp2_with (first | ((with_reducible refine gate_callee (f := 54) rfl ?_); refine goesL_ (some 7) rfl rfl Try.func54 (by kernel_rfl) rfl #[.int .i64 a0] rfl (by (try simp only [List.map_toArray, List.map_cons, List.map_nil]); first | done | rfl | (simp only [List.length_drop, List.length_take]; rfl)) ?_; (with_reducible refine (vinculumref01_far.calls a0 t109 _ A3.out).mono ?_); rintro e w' ⟨rfl, ⟨nd, rfl⟩⟩; refine ⟨_, rfl, ?_⟩) | ((with_reducible refine gate_callee (f := 54) rfl ?_); refine goesL_ (some 11) rfl rfl Try.func54 (by kernel_rfl) rfl #[.int .i64 a0] rfl (by (try simp only [List.map_toArray, List.map_cons, List.map_nil]); first | done | rfl | (simp only [List.length_drop, List.length_take]; rfl)) ?_; (with_reducible refine (vinculumref01_far.calls a0 t110 _ A5.out).mono ?_); rintro e w' ⟨rfl, ⟨nd, rfl⟩⟩; refine ⟨_, rfl, ?_⟩))
        go_ret
        exact ⟨by first | rfl | (simp; done) | (simp [*]; done), by repeat (first | exact Drawn0.refl _ | apply Drawn0.step)⟩

/-! ### vinculumref01_MulDiv: function 34 -/
def vinculumref01_MulDiv.j0 : Nat → Int → Int → Int → Bool → Option (Int × Int)
  | 0, _, _, _, _ => none
  | k + 1, x0, x1, x2, x27 => if x27 = true then (some (0, 1)) else (if x2 < 0 then ((vinculumref01_far.f x2).bind fun t114 => ((vinculumref01_Nearest.f (wrap64 (-(wrap64 (x0 * x1)))) t114).bind fun t115 => ((vinculumref01_told.f t115).bind fun bt116 => (some (bt116.1, bt116.2))))) else ((vinculumref01_far.f x2).bind fun t118 => ((vinculumref01_Nearest.f (wrap64 (x0 * x1)) t118).bind fun t119 => ((vinculumref01_told.f t119).bind fun bt120 => (some (bt120.1, bt120.2))))))
def vinculumref01_MulDiv.f (k : Nat) (a0 : Int) (a1 : Int) (a2 : Int) : Option (Int × Int) := (vinculumref01_Len.f a0).bind fun t111 => (if t111 = true then ((vinculumref01_Len.f a1).bind fun t112 => (if t112 = true then ((vinculumref01_Len.f a2).bind fun t113 => (if t113 = true then (vinculumref01_MulDiv.j0 k a0 a1 a2 (a2 == 0)) else (vinculumref01_MulDiv.j0 k a0 a1 a2 true))) else (vinculumref01_MulDiv.j0 k a0 a1 a2 true))) else (vinculumref01_MulDiv.j0 k a0 a1 a2 true))
theorem vinculumref01_MulDiv.mono_l : ∀ k, (∀ y0 y1 y2 y3, LeO (vinculumref01_MulDiv.j0 k y0 y1 y2 y3) (vinculumref01_MulDiv.j0 (k + 1) y0 y1 y2 y3))
  | 0 => fun _ _ _ _ r h => by simp [vinculumref01_MulDiv.j0] at h
  | k + 1 => by
    have ih0 := vinculumref01_MulDiv.mono_l k
    · intro y0 y1 y2 y3
      unfold vinculumref01_MulDiv.j0
      repeat' first
      | (with_reducible exact ih0 _ _ _ _)
      | (with_reducible exact LeO.refl _)
      | (with_reducible exact LeO.none _)
      | (with_reducible refine LeO.ite ?_ ?_)
      | (with_reducible refine LeO.bind ?_ (fun _ => ?_))
      | exact ih0 _ _ _ _
      | exact LeO.none _
      | refine LeO.ite ?_ ?_
      | refine LeO.bind ?_ (fun _ => ?_)
theorem vinculumref01_MulDiv.mono : ∀ a0 a1 a2 k, LeO (vinculumref01_MulDiv.f k a0 a1 a2) (vinculumref01_MulDiv.f (k + 1) a0 a1 a2) := by
  intro a0 a1 a2 k
  have ih0 := vinculumref01_MulDiv.mono_l k
  unfold vinculumref01_MulDiv.f
  repeat' first
      | (with_reducible exact ih0 _ _ _ _)
      | (with_reducible exact LeO.refl _)
      | (with_reducible exact LeO.none _)
      | (with_reducible refine LeO.ite ?_ ?_)
      | (with_reducible refine LeO.bind ?_ (fun _ => ?_))
      | exact ih0 _ _ _ _
      | exact LeO.none _
      | refine LeO.ite ?_ ?_
      | refine LeO.bind ?_ (fun _ => ?_)
set_option maxHeartbeats 8000000 in
set_option maxRecDepth 100000 in
theorem vinculumref01_MulDiv.calls (k : Nat) (a0 : Int) (a1 : Int) (a2 : Int) (r1 : Int) (r2 : Int) (w : World) (h : vinculumref01_MulDiv.f k a0 a1 a2 = some (r1, r2)) :
    Calls Try.prog 34 #[.int .i64 a0, .int .i64 a1, .int .i64 a2] w fun e w' => e = .returned (.tuple #[.int .i64 r1, .int .i64 r2]) ∧ Drawn0 w w' := by
  have H : ((vinculumref01_Len.f a0).bind fun t111 => (if t111 = true then ((vinculumref01_Len.f a1).bind fun t112 => (if t112 = true then ((vinculumref01_Len.f a2).bind fun t113 => (if t113 = true then (vinculumref01_MulDiv.j0 k a0 a1 a2 (a2 == 0)) else (vinculumref01_MulDiv.j0 k a0 a1 a2 true))) else (vinculumref01_MulDiv.j0 k a0 a1 a2 true))) else (vinculumref01_MulDiv.j0 k a0 a1 a2 true))) = some (r1, r2) := h
  clear h
  have HC4 := Aside0.mk H
  clear H
  go_enter Try.func34, Try.ntmps34
  go_upto_region 1 with (fail)
  go_cut [27] (fun v27 wc => ∃ (kq : Nat) (x27_3 : Bool), v27 = .bool x27_3 ∧ Aside0 (vinculumref01_MulDiv.j0 kq a0 a1 a2 x27_3 = some (r1, r2)) ∧ Aside0 (kq ≤ k) ∧ Drawn0 w wc)
  case first =>
    have H := HC4.out
    clear HC4
    replace H := Option.bind_eq_some_iff.mp H
    obtain ⟨t111, A50, H⟩ := H
    replace H : (if t111 = true then ((vinculumref01_Len.f a1).bind fun t112 => (if t112 = true then ((vinculumref01_Len.f a2).bind fun t113 => (if t113 = true then (vinculumref01_MulDiv.j0 k a0 a1 a2 (a2 == 0)) else (vinculumref01_MulDiv.j0 k a0 a1 a2 true))) else (vinculumref01_MulDiv.j0 k a0 a1 a2 true))) else (vinculumref01_MulDiv.j0 k a0 a1 a2 true)) = some (r1, r2) := H
    have A5 := Aside0.mk A50
    clear A50
    by_cases c6 : t111 = true
    · subst c6
      have H1 : ((vinculumref01_Len.f a1).bind fun t112 => (if t112 = true then ((vinculumref01_Len.f a2).bind fun t113 => (if t113 = true then (vinculumref01_MulDiv.j0 k a0 a1 a2 (a2 == 0)) else (vinculumref01_MulDiv.j0 k a0 a1 a2 true))) else (vinculumref01_MulDiv.j0 k a0 a1 a2 true))) = some (r1, r2) := by rw [if_pos rfl] at H; exact H
      clear H
      have H := H1
      clear H1
      replace H := Option.bind_eq_some_iff.mp H
      obtain ⟨t112, A70, H⟩ := H
      replace H : (if t112 = true then ((vinculumref01_Len.f a2).bind fun t113 => (if t113 = true then (vinculumref01_MulDiv.j0 k a0 a1 a2 (a2 == 0)) else (vinculumref01_MulDiv.j0 k a0 a1 a2 true))) else (vinculumref01_MulDiv.j0 k a0 a1 a2 true)) = some (r1, r2) := H
      have A7 := Aside0.mk A70
      clear A70
      by_cases c8 : t112 = true
      · subst c8
        have H1 : ((vinculumref01_Len.f a2).bind fun t113 => (if t113 = true then (vinculumref01_MulDiv.j0 k a0 a1 a2 (a2 == 0)) else (vinculumref01_MulDiv.j0 k a0 a1 a2 true))) = some (r1, r2) := by rw [if_pos rfl] at H; exact H
        clear H
        have H := H1
        clear H1
        replace H := Option.bind_eq_some_iff.mp H
        obtain ⟨t113, A90, H⟩ := H
        replace H : (if t113 = true then (vinculumref01_MulDiv.j0 k a0 a1 a2 (a2 == 0)) else (vinculumref01_MulDiv.j0 k a0 a1 a2 true)) = some (r1, r2) := H
        have A9 := Aside0.mk A90
        clear A90
        by_cases c10 : t113 = true
        · subst c10
          have H1 : (vinculumref01_MulDiv.j0 k a0 a1 a2 (a2 == 0)) = some (r1, r2) := by rw [if_pos rfl] at H; exact H
          clear H
          have H := H1
          clear H1
          have H' := Aside0.mk H
          clear H
          go_wp2_with (first | ((with_reducible refine gate_callee (f := 32) rfl ?_); refine goesL_ (some 12) rfl rfl Try.func32 (by kernel_rfl) rfl #[.int .i64 a0] rfl (by (try simp only [List.map_toArray, List.map_cons, List.map_nil]); first | done | rfl | (simp only [List.length_drop, List.length_take]; rfl)) ?_; (with_reducible refine (vinculumref01_Len.calls a0 true _ A5.out).mono ?_); rintro e w' ⟨rfl, ⟨nd, rfl⟩⟩; refine ⟨_, rfl, ?_⟩) | (go_at_call 32; (with_reducible refine (vinculumref01_Len.calls a1 true _ A7.out).mono ?_); rintro e w' ⟨rfl, ⟨nd, rfl⟩⟩) | (go_at_call 32; (with_reducible refine (vinculumref01_Len.calls a2 true _ A9.out).mono ?_); rintro e w' ⟨rfl, ⟨nd, rfl⟩⟩))
          go_meet
          case rel => exact ⟨_, ((a2 == 0)), (by first | rfl | (simp; done) | (simp [*]; done)), H', ⟨by first | omega | exact Nat.le_refl _⟩, by repeat (first | exact Drawn0.refl _ | apply Drawn0.step)⟩
        · replace c10 := Bool.eq_false_iff.mpr c10
          subst c10
          have H1 : (vinculumref01_MulDiv.j0 k a0 a1 a2 true) = some (r1, r2) := by rw [if_neg (show ¬ (false = true) by decide)] at H; exact H
          clear H
          have H := H1
          clear H1
          have H' := Aside0.mk H
          clear H
          go_wp2_with (first | ((with_reducible refine gate_callee (f := 32) rfl ?_); refine goesL_ (some 12) rfl rfl Try.func32 (by kernel_rfl) rfl #[.int .i64 a0] rfl (by (try simp only [List.map_toArray, List.map_cons, List.map_nil]); first | done | rfl | (simp only [List.length_drop, List.length_take]; rfl)) ?_; (with_reducible refine (vinculumref01_Len.calls a0 true _ A5.out).mono ?_); rintro e w' ⟨rfl, ⟨nd, rfl⟩⟩; refine ⟨_, rfl, ?_⟩) | (go_at_call 32; (with_reducible refine (vinculumref01_Len.calls a1 true _ A7.out).mono ?_); rintro e w' ⟨rfl, ⟨nd, rfl⟩⟩) | (go_at_call 32; (with_reducible refine (vinculumref01_Len.calls a2 false _ A9.out).mono ?_); rintro e w' ⟨rfl, ⟨nd, rfl⟩⟩))
          go_meet
          case rel => exact ⟨_, (true), (by first | rfl | (simp; done) | (simp [*]; done)), H', ⟨by first | omega | exact Nat.le_refl _⟩, by repeat (first | exact Drawn0.refl _ | apply Drawn0.step)⟩
      · replace c8 := Bool.eq_false_iff.mpr c8
        subst c8
        have H1 : (vinculumref01_MulDiv.j0 k a0 a1 a2 true) = some (r1, r2) := by rw [if_neg (show ¬ (false = true) by decide)] at H; exact H
        clear H
        have H := H1
        clear H1
        have H' := Aside0.mk H
        clear H
        go_wp2_with (first | ((with_reducible refine gate_callee (f := 32) rfl ?_); refine goesL_ (some 12) rfl rfl Try.func32 (by kernel_rfl) rfl #[.int .i64 a0] rfl (by (try simp only [List.map_toArray, List.map_cons, List.map_nil]); first | done | rfl | (simp only [List.length_drop, List.length_take]; rfl)) ?_; (with_reducible refine (vinculumref01_Len.calls a0 true _ A5.out).mono ?_); rintro e w' ⟨rfl, ⟨nd, rfl⟩⟩; refine ⟨_, rfl, ?_⟩) | (go_at_call 32; (with_reducible refine (vinculumref01_Len.calls a1 false _ A7.out).mono ?_); rintro e w' ⟨rfl, ⟨nd, rfl⟩⟩))
        go_meet
        case rel => exact ⟨_, (true), (by first | rfl | (simp; done) | (simp [*]; done)), H', ⟨by first | omega | exact Nat.le_refl _⟩, by repeat (first | exact Drawn0.refl _ | apply Drawn0.step)⟩
    · replace c6 := Bool.eq_false_iff.mpr c6
      subst c6
      have H1 : (vinculumref01_MulDiv.j0 k a0 a1 a2 true) = some (r1, r2) := by rw [if_neg (show ¬ (false = true) by decide)] at H; exact H
      clear H
      have H := H1
      clear H1
      have H' := Aside0.mk H
      clear H
      go_wp2_with (first | ((with_reducible refine gate_callee (f := 32) rfl ?_); refine goesL_ (some 12) rfl rfl Try.func32 (by kernel_rfl) rfl #[.int .i64 a0] rfl (by (try simp only [List.map_toArray, List.map_cons, List.map_nil]); first | done | rfl | (simp only [List.length_drop, List.length_take]; rfl)) ?_; (with_reducible refine (vinculumref01_Len.calls a0 false _ A5.out).mono ?_); rintro e w' ⟨rfl, ⟨nd, rfl⟩⟩; refine ⟨_, rfl, ?_⟩))
      go_meet
      case rel => exact ⟨_, (true), (by first | rfl | (simp; done) | (simp [*]; done)), H', ⟨by first | omega | exact Nat.le_refl _⟩, by repeat (first | exact Drawn0.refl _ | apply Drawn0.step)⟩
  case rest =>
    clear HC4
    try clear c1
    try clear p2
    try clear c3
    try clear c6
    try clear c8
    try clear c10
    obtain ⟨kq, x27_3, rfl, HA, HJ3, ⟨mc3, rfl⟩⟩ := hcut
    cases kq with
    | zero => exact absurd HA.out (by simp [vinculumref01_MulDiv.j0])
    | succ kj3 =>
      have H := HA.out
      clear HA
      simp only [vinculumref01_MulDiv.j0] at H
      by_cases c11 : x27_3 = true
      · subst c11
        have H1 : (some (0, 1)) = some (r1, r2) := by rw [if_pos rfl] at H; exact H
        clear H
        have H := H1
        clear H1
        simp only [Option.some.injEq, Prod.mk.injEq] at H
        obtain ⟨rfl, rfl⟩ := H
        go_wp2
        go_ret2
        exact ⟨by first | rfl | (simp; done) | (simp [*]; done), by repeat (first | exact Drawn0.refl _ | apply Drawn0.step)⟩
      · replace c11 := Bool.eq_false_iff.mpr c11
        subst c11
        have H1 : (if a2 < 0 then ((vinculumref01_far.f a2).bind fun t114 => ((vinculumref01_Nearest.f (wrap64 (-(wrap64 (a0 * a1)))) t114).bind fun t115 => ((vinculumref01_told.f t115).bind fun bt116 => (some (bt116.1, bt116.2))))) else ((vinculumref01_far.f a2).bind fun t118 => ((vinculumref01_Nearest.f (wrap64 (a0 * a1)) t118).bind fun t119 => ((vinculumref01_told.f t119).bind fun bt120 => (some (bt120.1, bt120.2)))))) = some (r1, r2) := by rw [if_neg (show ¬ (false = true) by decide)] at H; exact H
        clear H
        have H := H1
        clear H1
        by_cases c12 : a2 < 0
        · rw [if_pos c12] at H
          have c12b0 : decide (a2 < 0) = true := decide_eq_true c12
          clear c12
          replace H := Option.bind_eq_some_iff.mp H
          obtain ⟨t114, A130, H⟩ := H
          replace H : ((vinculumref01_Nearest.f (wrap64 (-(wrap64 (a0 * a1)))) t114).bind fun t115 => ((vinculumref01_told.f t115).bind fun bt116 => (some (bt116.1, bt116.2)))) = some (r1, r2) := H
          have A13 := Aside0.mk A130
          clear A130
          replace H := Option.bind_eq_some_iff.mp H
          obtain ⟨t115, A140, H⟩ := H
          replace H : ((vinculumref01_told.f t115).bind fun bt116 => (some (bt116.1, bt116.2))) = some (r1, r2) := H
          have A14 := Aside0.mk A140
          clear A140
          replace H := Option.bind_eq_some_iff.mp H
          obtain ⟨⟨t116, t117⟩, A150, H⟩ := H
          replace H : (some (t116, t117)) = some (r1, r2) := H
          have A15 := Aside0.mk A150
          clear A150
          simp only [Option.some.injEq, Prod.mk.injEq] at H
          obtain ⟨rfl, rfl⟩ := H
          go_wp2_with (first | ((with_reducible refine gate_callee (f := 54) rfl ?_); refine goesL_ (some 38) rfl rfl Try.func54 (by kernel_rfl) rfl #[.int .i64 a2] rfl (by (try simp only [List.map_toArray, List.map_cons, List.map_nil]); first | done | rfl | (simp only [List.length_drop, List.length_take]; rfl)) ?_; (with_reducible refine (vinculumref01_far.calls a2 t114 _ A13.out).mono ?_); rintro e w' ⟨rfl, ⟨nd, rfl⟩⟩; refine ⟨_, rfl, ?_⟩) | ((with_reducible refine gate_callee (f := 53) rfl ?_); refine goesL_ (some 39) rfl rfl Try.func53 (by kernel_rfl) rfl #[.int .i64 (wrap64 (-(wrap64 (a0 * a1)))), .int .i64 t114] rfl (by (try simp only [List.map_toArray, List.map_cons, List.map_nil]); first | done | rfl | (simp only [List.length_drop, List.length_take]; rfl)) ?_; (with_reducible refine (vinculumref01_Nearest.calls (wrap64 (-(wrap64 (a0 * a1)))) t114 t115 _ A14.out).mono ?_); rintro e w' ⟨rfl, ⟨nd, rfl⟩⟩; refine ⟨_, rfl, ?_⟩) | ((with_reducible refine gate_callee (f := 52) rfl ?_); refine goesL_ (some 40) rfl rfl Try.func52 (by kernel_rfl) rfl #[.int .i64 t115] rfl (by (try simp only [List.map_toArray, List.map_cons, List.map_nil]); first | done | rfl | (simp only [List.length_drop, List.length_take]; rfl)) ?_; (with_reducible refine (vinculumref01_told.calls t115 t116 t117 _ A15.out).mono ?_); rintro e w' ⟨rfl, ⟨nd, rfl⟩⟩; refine ⟨_, rfl, ?_⟩))
          go_ret2
          exact ⟨by first | rfl | (simp; done) | (simp [*]; done), by repeat (first | exact Drawn0.refl _ | apply Drawn0.step)⟩
        · rw [if_neg c12] at H
          have c12b0 : decide (a2 < 0) = false := decide_eq_false c12
          clear c12
          replace H := Option.bind_eq_some_iff.mp H
          obtain ⟨t118, A160, H⟩ := H
          replace H : ((vinculumref01_Nearest.f (wrap64 (a0 * a1)) t118).bind fun t119 => ((vinculumref01_told.f t119).bind fun bt120 => (some (bt120.1, bt120.2)))) = some (r1, r2) := H
          have A16 := Aside0.mk A160
          clear A160
          replace H := Option.bind_eq_some_iff.mp H
          obtain ⟨t119, A170, H⟩ := H
          replace H : ((vinculumref01_told.f t119).bind fun bt120 => (some (bt120.1, bt120.2))) = some (r1, r2) := H
          have A17 := Aside0.mk A170
          clear A170
          replace H := Option.bind_eq_some_iff.mp H
          obtain ⟨⟨t120, t121⟩, A180, H⟩ := H
          replace H : (some (t120, t121)) = some (r1, r2) := H
          have A18 := Aside0.mk A180
          clear A180
          simp only [Option.some.injEq, Prod.mk.injEq] at H
          obtain ⟨rfl, rfl⟩ := H
          go_wp2_with (first | ((with_reducible refine gate_callee (f := 54) rfl ?_); refine goesL_ (some 38) rfl rfl Try.func54 (by kernel_rfl) rfl #[.int .i64 a2] rfl (by (try simp only [List.map_toArray, List.map_cons, List.map_nil]); first | done | rfl | (simp only [List.length_drop, List.length_take]; rfl)) ?_; (with_reducible refine (vinculumref01_far.calls a2 t118 _ A16.out).mono ?_); rintro e w' ⟨rfl, ⟨nd, rfl⟩⟩; refine ⟨_, rfl, ?_⟩) | ((with_reducible refine gate_callee (f := 53) rfl ?_); refine goesL_ (some 39) rfl rfl Try.func53 (by kernel_rfl) rfl #[.int .i64 (wrap64 (a0 * a1)), .int .i64 t118] rfl (by (try simp only [List.map_toArray, List.map_cons, List.map_nil]); first | done | rfl | (simp only [List.length_drop, List.length_take]; rfl)) ?_; (with_reducible refine (vinculumref01_Nearest.calls (wrap64 (a0 * a1)) t118 t119 _ A17.out).mono ?_); rintro e w' ⟨rfl, ⟨nd, rfl⟩⟩; refine ⟨_, rfl, ?_⟩) | ((with_reducible refine gate_callee (f := 52) rfl ?_); refine goesL_ (some 40) rfl rfl Try.func52 (by kernel_rfl) rfl #[.int .i64 t119] rfl (by (try simp only [List.map_toArray, List.map_cons, List.map_nil]); first | done | rfl | (simp only [List.length_drop, List.length_take]; rfl)) ?_; (with_reducible refine (vinculumref01_told.calls t119 t120 t121 _ A18.out).mono ?_); rintro e w' ⟨rfl, ⟨nd, rfl⟩⟩; refine ⟨_, rfl, ?_⟩))
          go_ret2
          exact ⟨by first | rfl | (simp; done) | (simp [*]; done), by repeat (first | exact Drawn0.refl _ | apply Drawn0.step)⟩

end Go.Proofs.Yticfflihniifaaa.P
