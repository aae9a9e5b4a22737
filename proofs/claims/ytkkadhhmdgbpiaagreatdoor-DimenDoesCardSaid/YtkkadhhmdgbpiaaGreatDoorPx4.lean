/- Each theorem here says that a call of one Go function ends with what the plain function of that name answers (printed by a program of this session); a law's row says that the law returns true for every input. No condition. -/
import Derived.Test.YtkkadhhmdgbpiaaGreatDoorPx0
import Derived.Test.YtkkadhhmdgbpiaaGreatDoorPx1
import Derived.Test.YtkkadhhmdgbpiaaGreatDoorPx2
import Derived.Test.YtkkadhhmdgbpiaaGreatDoorPx3
namespace Go.Proofs.YtkkadhhmdgbpiaaGreatDoor.P
open Go.RowKit Go.Proofs.YtkkadhhmdgbpiaaGreatDoorW.PrintWords Go.Proofs.YtkkadhhmdgbpiaaGreatDoorW.PrintLast Go.Proofs.YtkkadhhmdgbpiaaGreatDoorW.PrintMore
attribute [local go_sem] max2_int min2_int max_two min_two max_three min_three max_four min_four   -- for this text's walks alone
set_option linter.unusedVariables false
set_option linter.unusedSimpArgs false

/-! ### vinculumref02_Text: function 11 -/
mutual
def vinculumref02_Text.j0 : Nat → Int → ByteArray → Option (ByteArray × Int)
  | 0, _, _ => none
  | k + 1, x0, x4 => vinculumref02_Text.l0 k x0 x4 (Int.tmod x0 65536) 1
def vinculumref02_Text.l0 : Nat → Int → ByteArray → Int → Int → Option (ByteArray × Int)
  | 0, _, _, _, _ => none
  | k + 1, x0, x4, x5, x6 => if x6 < 6 then ((vinculumref02_ten.f k x6).bind fun t144 => ((vinculumref01_Nearest.f (wrap64 (x5 * t144)) 65536).bind fun t145 => ((vinculumref02_ten.f k x6).bind fun t146 => (if t145 < t146 then ((vinculumref02_ten.f k x6).bind fun t147 => ((vinculumref01_Nearest.f (wrap64 (t145 * 65536)) t147).bind fun t148 => (vinculumref02_Text.j2 k x0 x4 x5 x6 t145 (t148 == x5)))) else (vinculumref02_Text.j2 k x0 x4 x5 x6 t145 false))))) else (some ((⟨#[]⟩ : ByteArray), 0))
def vinculumref02_Text.j2 : Nat → Int → ByteArray → Int → Int → Int → Bool → Option (ByteArray × Int)
  | 0, _, _, _, _, _, _ => none
  | k + 1, x0, x4, x5, x6, x7, x38 => if x38 = true then ((vinculumref02_Number.f k (wrap64 (Int.tdiv x0 65536)) 1).bind fun t149 => (if x4.size + t149.size ≤ 9223372036854775807 then (if (x4 ++ t149).size + 1 ≤ 9223372036854775807 then ((vinculumref02_Number.f k x7 x6).bind fun t150 => (if ((x4 ++ t149) ++ (⟨#[46]⟩ : ByteArray)).size + t150.size ≤ 9223372036854775807 then (if (((x4 ++ t149) ++ (⟨#[46]⟩ : ByteArray)) ++ t150).size + 2 ≤ 9223372036854775807 then (some ((((x4 ++ t149) ++ (⟨#[46]⟩ : ByteArray)) ++ t150) ++ (⟨#[112, 116]⟩ : ByteArray), 0)) else (none)) else (none))) else (none)) else (none))) else (vinculumref02_Text.l0 k x0 x4 x5 (wrap64 (x6 + 1)))
end
def vinculumref02_Text.f (k : Nat) (a0 : Int) : Option (ByteArray × Int) := (vinculumref01_Len.f a0).bind fun t143 => (if t143 = true then (if a0 < 0 then (vinculumref02_Text.j0 k (wrap64 (-a0)) (⟨#[45]⟩ : ByteArray)) else (vinculumref02_Text.j0 k a0 (⟨#[]⟩ : ByteArray))) else (some ((⟨#[]⟩ : ByteArray), 1)))
theorem vinculumref02_Text.mono_l : ∀ k, (∀ y0 y1, LeO (vinculumref02_Text.j0 k y0 y1) (vinculumref02_Text.j0 (k + 1) y0 y1)) ∧ (∀ y0 y1 y2 y3, LeO (vinculumref02_Text.l0 k y0 y1 y2 y3) (vinculumref02_Text.l0 (k + 1) y0 y1 y2 y3)) ∧ (∀ y0 y1 y2 y3 y4 y5, LeO (vinculumref02_Text.j2 k y0 y1 y2 y3 y4 y5) (vinculumref02_Text.j2 (k + 1) y0 y1 y2 y3 y4 y5))
  | 0 => ⟨fun _ _ r h => by simp [vinculumref02_Text.j0] at h, fun _ _ _ _ r h => by simp [vinculumref02_Text.l0] at h, fun _ _ _ _ _ _ r h => by simp [vinculumref02_Text.j2] at h⟩
  | k + 1 => by
    obtain ⟨ih0, ih1, ih2⟩ := vinculumref02_Text.mono_l k
    refine ⟨?_, ?_, ?_⟩
    · intro y0 y1
      unfold vinculumref02_Text.j0
      repeat' first
      | (with_reducible exact ih0 _ _)
      | (with_reducible exact ih1 _ _ _ _)
      | (with_reducible exact ih2 _ _ _ _ _ _)
      | (with_reducible exact vinculumref02_Number.mono _ _ _)
      | (with_reducible exact vinculumref02_ten.mono _ _)
      | (with_reducible exact LeO.refl _)
      | (with_reducible exact LeO.none _)
      | (with_reducible refine LeO.ite ?_ ?_)
      | (with_reducible refine LeO.bind ?_ (fun _ => ?_))
      | exact ih0 _ _
      | exact ih1 _ _ _ _
      | exact ih2 _ _ _ _ _ _
      | exact vinculumref02_Number.mono _ _ _
      | exact vinculumref02_ten.mono _ _
      | exact LeO.none _
      | refine LeO.ite ?_ ?_
      | refine LeO.bind ?_ (fun _ => ?_)
    · intro y0 y1 y2 y3
      unfold vinculumref02_Text.l0
      repeat' first
      | (with_reducible exact ih0 _ _)
      | (with_reducible exact ih1 _ _ _ _)
      | (with_reducible exact ih2 _ _ _ _ _ _)
      | (with_reducible exact vinculumref02_Number.mono _ _ _)
      | (with_reducible exact vinculumref02_ten.mono _ _)
      | (with_reducible exact LeO.refl _)
      | (with_reducible exact LeO.none _)
      | (with_reducible refine LeO.ite ?_ ?_)
      | (with_reducible refine LeO.bind ?_ (fun _ => ?_))
      | exact ih0 _ _
      | exact ih1 _ _ _ _
      | exact ih2 _ _ _ _ _ _
      | exact vinculumref02_Number.mono _ _ _
      | exact vinculumref02_ten.mono _ _
      | exact LeO.none _
      | refine LeO.ite ?_ ?_
      | refine LeO.bind ?_ (fun _ => ?_)
    · intro y0 y1 y2 y3 y4 y5
      unfold vinculumref02_Text.j2
      repeat' first
      | (with_reducible exact ih0 _ _)
      | (with_reducible exact ih1 _ _ _ _)
      | (with_reducible exact ih2 _ _ _ _ _ _)
      | (with_reducible exact vinculumref02_Number.mono _ _ _)
      | (with_reducible exact vinculumref02_ten.mono _ _)
      | (with_reducible exact LeO.refl _)
      | (with_reducible exact LeO.none _)
      | (with_reducible refine LeO.ite ?_ ?_)
      | (with_reducible refine LeO.bind ?_ (fun _ => ?_))
      | exact ih0 _ _
      | exact ih1 _ _ _ _
      | exact ih2 _ _ _ _ _ _
      | exact vinculumref02_Number.mono _ _ _
      | exact vinculumref02_ten.mono _ _
      | exact LeO.none _
      | refine LeO.ite ?_ ?_
      | refine LeO.bind ?_ (fun _ => ?_)
theorem vinculumref02_Text.mono : ∀ a0 k, LeO (vinculumref02_Text.f k a0) (vinculumref02_Text.f (k + 1) a0) := by
  intro a0 k
  obtain ⟨ih0, ih1, ih2⟩ := vinculumref02_Text.mono_l k
  unfold vinculumref02_Text.f
  repeat' first
      | (with_reducible exact ih0 _ _)
      | (with_reducible exact ih1 _ _ _ _)
      | (with_reducible exact ih2 _ _ _ _ _ _)
      | (with_reducible exact vinculumref02_Number.mono _ _ _)
      | (with_reducible exact vinculumref02_ten.mono _ _)
      | (with_reducible exact LeO.refl _)
      | (with_reducible exact LeO.none _)
      | (with_reducible refine LeO.ite ?_ ?_)
      | (with_reducible refine LeO.bind ?_ (fun _ => ?_))
      | exact ih0 _ _
      | exact ih1 _ _ _ _
      | exact ih2 _ _ _ _ _ _
      | exact vinculumref02_Number.mono _ _ _
      | exact vinculumref02_ten.mono _ _
      | exact LeO.none _
      | refine LeO.ite ?_ ?_
      | refine LeO.bind ?_ (fun _ => ?_)
set_option maxHeartbeats 8000000 in
set_option maxRecDepth 100000 in
theorem vinculumref02_Text.calls (k : Nat) (a0 : Int) (r1 : ByteArray) (r2 : Int) (w : World) (h : vinculumref02_Text.f k a0 = some (r1, r2)) :
    Calls Tryz.prog 11 #[.int .i64 a0] w fun e w' => e = .returned (.tuple #[.string r1, .int .i64 r2]) ∧ Below w.heap.size w w' := by
  have HB := Aside0.mk (Below.refl w.heap.size w)
  have H : ((vinculumref01_Len.f a0).bind fun t143 => (if t143 = true then (if a0 < 0 then (vinculumref02_Text.j0 k (wrap64 (-a0)) (⟨#[45]⟩ : ByteArray)) else (vinculumref02_Text.j0 k a0 (⟨#[]⟩ : ByteArray))) else (some ((⟨#[]⟩ : ByteArray), 1)))) = some (r1, r2) := h
  clear h
  replace H := Option.bind_eq_some_iff.mp H
  obtain ⟨t143, A20, H⟩ := H
  replace H : (if t143 = true then (if a0 < 0 then (vinculumref02_Text.j0 k (wrap64 (-a0)) (⟨#[45]⟩ : ByteArray)) else (vinculumref02_Text.j0 k a0 (⟨#[]⟩ : ByteArray))) else (some ((⟨#[]⟩ : ByteArray), 1))) = some (r1, r2) := H
  have A2 := Aside0.mk A20
  clear A20
  by_cases c3 : t143 = true
  · subst c3
    have H1 : (if a0 < 0 then (vinculumref02_Text.j0 k (wrap64 (-a0)) (⟨#[45]⟩ : ByteArray)) else (vinculumref02_Text.j0 k a0 (⟨#[]⟩ : ByteArray))) = some (r1, r2) := by rw [if_pos rfl] at H; exact H
    clear H
    have H := H1
    clear H1
    have HC4 := Aside0.mk H
    clear H
    go_enter Tryz.func11, Tryz.ntmps11
    go_upto_if 12 with (first | ((with_reducible refine gate_callee (f := 21) rfl ?_); refine goesL_ (some 9) rfl rfl Tryz.func21 (by kernel_rfl) rfl #[.int .i64 a0] rfl (by (try simp only [List.map_toArray, List.map_cons, List.map_nil]); first | done | rfl | (simp only [List.length_drop, List.length_take]; rfl)) ?_; (with_reducible refine (vinculumref01_Len.calls a0 true _ A2.out).mono ?_); rintro e w' ⟨rfl, ⟨nd, rfl⟩⟩; refine ⟨_, rfl, ?_⟩))
    (try simp only [Act.put, List.setIfInBounds_toArray, List.set_cons_zero, List.set_cons_succ])
    go_cut [0, 4] (fun v0 v4 wc => ∃ (kq : Nat) (x0_3 : Int) (x4_3 : ByteArray), v0 = .int .i64 x0_3 ∧ v4 = .string x4_3 ∧ Aside0 (vinculumref02_Text.j0 kq x0_3 x4_3 = some (r1, r2)) ∧ Aside0 (kq ≤ k) ∧ Aside0 (Below w.heap.size w wc))
    case first =>
      have H := HC4.out
      clear HC4
      by_cases c5 : a0 < 0
      · rw [if_pos c5] at H
        have c5b0 : decide (a0 < 0) = true := decide_eq_true c5
        clear c5
        (first | rw [c5b0] | (simp only [i64_w, i32_w]; rw [c5b0]) | skip)
        have H' := Aside0.mk H
        clear H
        go_wp2
        go_meet
        case rel => exact ⟨_, (wrap64 (-a0)), ((⟨#[45]⟩ : ByteArray)), (by first | rfl | (simp; done) | (simp [*]; done)), (by first | rfl | (simp; done) | (simp [*]; done)), H', ⟨by first | omega | exact Nat.le_refl _⟩, ⟨by repeat (first | (with_reducible first | exact HB.out | apply below_alloc | apply pw_below_drewN | apply below_drew1) | exact HB.out)⟩⟩
      · rw [if_neg c5] at H
        have c5b0 : decide (a0 < 0) = false := decide_eq_false c5
        clear c5
        (first | rw [c5b0] | (simp only [i64_w, i32_w]; rw [c5b0]) | skip)
        have H' := Aside0.mk H
        clear H
        go_wp2
        go_meet
        case rel => exact ⟨_, (a0), ((⟨#[]⟩ : ByteArray)), (by first | rfl | (simp; done) | (simp [*]; done)), (by first | rfl | (simp; done) | (simp [*]; done)), H', ⟨by first | omega | exact Nat.le_refl _⟩, ⟨by repeat (first | (with_reducible first | exact HB.out | apply below_alloc | apply pw_below_drewN | apply below_drew1) | exact HB.out)⟩⟩
    case rest =>
      clear HC4
      try clear c1
      try clear c2
      try clear p2
      try clear c3
      try clear c5
      try clear c5b0
      obtain ⟨kq, x0_3, x4_3, rfl, rfl, HA, HJ3, HB⟩ := hcut
      cases kq with
      | zero => exact absurd HA.out (by simp [vinculumref02_Text.j0])
      | succ kj3 =>
        have H := HA.out
        clear HA
        simp only [vinculumref02_Text.j0] at H
        have H' := Aside0.mk H
        clear H
        go_wp2
        go_loopg [6] kj3 (fun kq v6 w' => ∃ (x6_2 : Int), v6 = .int .i64 x6_2 ∧ Aside0 (vinculumref02_Text.l0 kq x0_3 x4_3 (Int.tmod x0_3 65536) x6_2 = some (r1, r2)) ∧ Aside0 (kq ≤ kj3) ∧ Aside0 (Below w.heap.size w w'))
        case atStart => exact ⟨(1), (by first | rfl | (simp; done) | (simp [*]; done)), H', ⟨Nat.le_refl _⟩, ⟨by repeat (first | (with_reducible first | exact HB.out | apply below_alloc | apply pw_below_drewN | apply below_drew1) | exact HB.out)⟩⟩
        case round =>
          clear H'
          try clear c1
          try clear c2
          try clear p2
          try clear c3
          try clear c5
          try clear c5b0
          try clear p2
          obtain ⟨x6_2, rfl, HA, HK2, HB⟩ := hrel
          cases gk with
          | zero => exact absurd HA.out (by simp [vinculumref02_Text.l0])
          | succ k2 =>
            have H := HA.out
            clear HA
            simp only [vinculumref02_Text.l0] at H
            by_cases c6 : x6_2 < 6
            · rw [if_pos c6] at H
              have c6b0 : decide (x6_2 < 6) = true := decide_eq_true c6
              clear c6
              replace H := Option.bind_eq_some_iff.mp H
              obtain ⟨t144, A70, H⟩ := H
              replace H : ((vinculumref01_Nearest.f (wrap64 ((Int.tmod x0_3 65536) * t144)) 65536).bind fun t145 => ((vinculumref02_ten.f k2 x6_2).bind fun t146 => (if t145 < t146 then ((vinculumref02_ten.f k2 x6_2).bind fun t147 => ((vinculumref01_Nearest.f (wrap64 (t145 * 65536)) t147).bind fun t148 => (vinculumref02_Text.j2 k2 x0_3 x4_3 (Int.tmod x0_3 65536) x6_2 t145 (t148 == (Int.tmod x0_3 65536))))) else (vinculumref02_Text.j2 k2 x0_3 x4_3 (Int.tmod x0_3 65536) x6_2 t145 false)))) = some (r1, r2) := H
              have A7 := Aside0.mk A70
              clear A70
              replace H := Option.bind_eq_some_iff.mp H
              obtain ⟨t145, A80, H⟩ := H
              replace H : ((vinculumref02_ten.f k2 x6_2).bind fun t146 => (if t145 < t146 then ((vinculumref02_ten.f k2 x6_2).bind fun t147 => ((vinculumref01_Nearest.f (wrap64 (t145 * 65536)) t147).bind fun t148 => (vinculumref02_Text.j2 k2 x0_3 x4_3 (Int.tmod x0_3 65536) x6_2 t145 (t148 == (Int.tmod x0_3 65536))))) else (vinculumref02_Text.j2 k2 x0_3 x4_3 (Int.tmod x0_3 65536) x6_2 t145 false))) = some (r1, r2) := H
              have A8 := Aside0.mk A80
              clear A80
              have HC9 := Aside0.mk H
              clear H
              go_upto_region 12 with (first | ((with_reducible refine gate_callee (f := 26) rfl ?_); refine goesL_ (some 23) rfl rfl Tryz.func26 (by kernel_rfl) rfl #[.int .i64 x6_2] rfl (by (try simp only [List.map_toArray, List.map_cons, List.map_nil]); first | done | rfl | (simp only [List.length_drop, List.length_take]; rfl)) ?_; (with_reducible refine (vinculumref02_ten.calls k2 x6_2 t144 _ A7.out).mono ?_); rintro e w' ⟨rfl, ⟨nd, rfl⟩⟩; refine ⟨_, rfl, ?_⟩) | ((with_reducible refine gate_callee (f := 25) rfl ?_); refine goesL_ (some 25) rfl rfl Tryz.func25 (by kernel_rfl) rfl #[.int .i64 (wrap64 ((Int.tmod x0_3 65536) * t144)), .int .i64 65536] rfl (by (try simp only [List.map_toArray, List.map_cons, List.map_nil]); first | done | rfl | (simp only [List.length_drop, List.length_take]; rfl)) ?_; (with_reducible refine (vinculumref01_Nearest.calls (wrap64 ((Int.tmod x0_3 65536) * t144)) 65536 t145 _ A8.out).mono ?_); rintro e w' ⟨rfl, ⟨nd, rfl⟩⟩; refine ⟨_, rfl, ?_⟩))
              (try simp only [Act.put, List.setIfInBounds_toArray, List.set_cons_zero, List.set_cons_succ])
              go_cut [38] (fun v38 wc => ∃ (kq : Nat) (x38_8 : Bool), v38 = .bool x38_8 ∧ Aside0 (vinculumref02_Text.j2 kq x0_3 x4_3 (Int.tmod x0_3 65536) x6_2 t145 x38_8 = some (r1, r2)) ∧ Aside0 (kq ≤ k2) ∧ Aside0 (Below w.heap.size w wc))
              case first =>
                have H := HC9.out
                clear HC9
                replace H := Option.bind_eq_some_iff.mp H
                obtain ⟨t146, A100, H⟩ := H
                replace H : (if t145 < t146 then ((vinculumref02_ten.f k2 x6_2).bind fun t147 => ((vinculumref01_Nearest.f (wrap64 (t145 * 65536)) t147).bind fun t148 => (vinculumref02_Text.j2 k2 x0_3 x4_3 (Int.tmod x0_3 65536) x6_2 t145 (t148 == (Int.tmod x0_3 65536))))) else (vinculumref02_Text.j2 k2 x0_3 x4_3 (Int.tmod x0_3 65536) x6_2 t145 false)) = some (r1, r2) := H
                have A10 := Aside0.mk A100
                clear A100
                by_cases c11 : t145 < t146
                · rw [if_pos c11] at H
                  have c11b0 : decide (t145 < t146) = true := decide_eq_true c11
                  clear c11
                  (first | rw [c11b0] | (simp only [i64_w, i32_w]; rw [c11b0]) | skip)
                  replace H := Option.bind_eq_some_iff.mp H
                  obtain ⟨t147, A120, H⟩ := H
                  replace H : ((vinculumref01_Nearest.f (wrap64 (t145 * 65536)) t147).bind fun t148 => (vinculumref02_Text.j2 k2 x0_3 x4_3 (Int.tmod x0_3 65536) x6_2 t145 (t148 == (Int.tmod x0_3 65536)))) = some (r1, r2) := H
                  have A12 := Aside0.mk A120
                  clear A120
                  replace H := Option.bind_eq_some_iff.mp H
                  obtain ⟨t148, A130, H⟩ := H
                  replace H : (vinculumref02_Text.j2 k2 x0_3 x4_3 (Int.tmod x0_3 65536) x6_2 t145 (t148 == (Int.tmod x0_3 65536))) = some (r1, r2) := H
                  have A13 := Aside0.mk A130
                  clear A130
                  have H' := Aside0.mk H
                  clear H
                  go_wp2_with (first | ((with_reducible refine gate_callee (f := 26) rfl ?_); refine goesL_ (some 28) rfl rfl Tryz.func26 (by kernel_rfl) rfl #[.int .i64 x6_2] rfl (by (try simp only [List.map_toArray, List.map_cons, List.map_nil]); first | done | rfl | (simp only [List.length_drop, List.length_take]; rfl)) ?_; (with_reducible refine (vinculumref02_ten.calls k2 x6_2 t146 _ A10.out).mono ?_); rintro e w' ⟨rfl, ⟨nd, rfl⟩⟩; refine ⟨_, rfl, ?_⟩) | (go_at_call 26; (with_reducible refine (vinculumref02_ten.calls k2 x6_2 t147 _ A12.out).mono ?_); rintro e w' ⟨rfl, ⟨nd, rfl⟩⟩) | (go_at_call 25; (with_reducible refine (vinculumref01_Nearest.calls (wrap64 (t145 * 65536)) t147 t148 _ A13.out).mono ?_); rintro e w' ⟨rfl, ⟨nd, rfl⟩⟩))
                  go_meet
                  case rel => exact ⟨_, ((t148 == (Int.tmod x0_3 65536))), (by first | rfl | (simp; done) | (simp [*]; done)), H', ⟨by have := HJ3.out; have := HK2.out; first | omega | exact Nat.le_refl _⟩, ⟨by repeat (first | (with_reducible first | exact HB.out | apply below_alloc | apply pw_below_drewN | apply below_drew1) | exact HB.out)⟩⟩
                · rw [if_neg c11] at H
                  have c11b0 : decide (t145 < t146) = false := decide_eq_false c11
                  clear c11
                  (first | rw [c11b0] | (simp only [i64_w, i32_w]; rw [c11b0]) | skip)
                  have H' := Aside0.mk H
                  clear H
                  go_wp2_with (first | ((with_reducible refine gate_callee (f := 26) rfl ?_); refine goesL_ (some 28) rfl rfl Tryz.func26 (by kernel_rfl) rfl #[.int .i64 x6_2] rfl (by (try simp only [List.map_toArray, List.map_cons, List.map_nil]); first | done | rfl | (simp only [List.length_drop, List.length_take]; rfl)) ?_; (with_reducible refine (vinculumref02_ten.calls k2 x6_2 t146 _ A10.out).mono ?_); rintro e w' ⟨rfl, ⟨nd, rfl⟩⟩; refine ⟨_, rfl, ?_⟩))
                  go_meet
                  case rel => exact ⟨_, (false), (by first | rfl | (simp; done) | (simp [*]; done)), H', ⟨by have := HJ3.out; have := HK2.out; first | omega | exact Nat.le_refl _⟩, ⟨by repeat (first | (with_reducible first | exact HB.out | apply below_alloc | apply pw_below_drewN | apply below_drew1) | exact HB.out)⟩⟩
              case rest =>
                clear HC9
                try clear c1
                try clear c2
                try clear p2
                try clear c3
                try clear c5
                try clear c5b0
                try clear c6
                try clear c6b0
                try clear p6
                try clear c11
                try clear c11b0
                try clear p2
                obtain ⟨kq, x38_8, rfl, HA, HJ8, HB⟩ := hcut
                cases kq with
                | zero => exact absurd HA.out (by simp [vinculumref02_Text.j2])
                | succ kj8 =>
                  have H := HA.out
                  clear HA
                  simp only [vinculumref02_Text.j2] at H
                  by_cases c14 : x38_8 = true
                  · subst c14
                    have H1 : ((vinculumref02_Number.f kj8 (wrap64 (Int.tdiv x0_3 65536)) 1).bind fun t149 => (if x4_3.size + t149.size ≤ 9223372036854775807 then (if (x4_3 ++ t149).size + 1 ≤ 9223372036854775807 then ((vinculumref02_Number.f kj8 t145 x6_2).bind fun t150 => (if ((x4_3 ++ t149) ++ (⟨#[46]⟩ : ByteArray)).size + t150.size ≤ 9223372036854775807 then (if (((x4_3 ++ t149) ++ (⟨#[46]⟩ : ByteArray)) ++ t150).size + 2 ≤ 9223372036854775807 then (some ((((x4_3 ++ t149) ++ (⟨#[46]⟩ : ByteArray)) ++ t150) ++ (⟨#[112, 116]⟩ : ByteArray), 0)) else (none)) else (none))) else (none)) else (none))) = some (r1, r2) := by rw [if_pos rfl] at H; exact H
                    clear H
                    have H := H1
                    clear H1
                    replace H := Option.bind_eq_some_iff.mp H
                    obtain ⟨t149, A150, H⟩ := H
                    replace H : (if x4_3.size + t149.size ≤ 9223372036854775807 then (if (x4_3 ++ t149).size + 1 ≤ 9223372036854775807 then ((vinculumref02_Number.f kj8 t145 x6_2).bind fun t150 => (if ((x4_3 ++ t149) ++ (⟨#[46]⟩ : ByteArray)).size + t150.size ≤ 9223372036854775807 then (if (((x4_3 ++ t149) ++ (⟨#[46]⟩ : ByteArray)) ++ t150).size + 2 ≤ 9223372036854775807 then (some ((((x4_3 ++ t149) ++ (⟨#[46]⟩ : ByteArray)) ++ t150) ++ (⟨#[112, 116]⟩ : ByteArray), 0)) else (none)) else (none))) else (none)) else (none)) = some (r1, r2) := H
                    have A15 := Aside0.mk A150
                    clear A150
                    by_cases c16 : x4_3.size + t149.size ≤ 9223372036854775807
                    · rw [if_pos c16] at H
                      have c16b0 := eq_true c16
                      have c16b1 : decide (x4_3.size + t149.size ≤ 9223372036854775807) = true := decide_eq_true c16
                      try have c16b2 : (9223372036854775807 < x4_3.size + t149.size) = False := eq_false (Nat.not_lt.2 c16)
                      by_cases c17 : (x4_3 ++ t149).size + 1 ≤ 9223372036854775807
                      · rw [if_pos c17] at H
                        have c17b0 := eq_true c17
                        have c17b1 : decide ((x4_3 ++ t149).size + 1 ≤ 9223372036854775807) = true := decide_eq_true c17
                        try have c17b2 : (9223372036854775807 < (x4_3 ++ t149).size + 1) = False := eq_false (Nat.not_lt.2 c17)
                        try (have c17b3 := c17; simp only [ByteArray.size_append] at c17b3; replace c17b3 := eq_true c17b3)
                        try (have c17b4 := c17; simp only [ByteArray.size_append] at c17b4; replace c17b4 := eq_false (Nat.not_lt.2 c17b4))
                        replace H := Option.bind_eq_some_iff.mp H
                        obtain ⟨t150, A180, H⟩ := H
                        replace H : (if ((x4_3 ++ t149) ++ (⟨#[46]⟩ : ByteArray)).size + t150.size ≤ 9223372036854775807 then (if (((x4_3 ++ t149) ++ (⟨#[46]⟩ : ByteArray)) ++ t150).size + 2 ≤ 9223372036854775807 then (some ((((x4_3 ++ t149) ++ (⟨#[46]⟩ : ByteArray)) ++ t150) ++ (⟨#[112, 116]⟩ : ByteArray), 0)) else (none)) else (none)) = some (r1, r2) := H
                        have A18 := Aside0.mk A180
                        clear A180
                        by_cases c19 : ((x4_3 ++ t149) ++ (⟨#[46]⟩ : ByteArray)).size + t150.size ≤ 9223372036854775807
                        · rw [if_pos c19] at H
                          have c19b0 := eq_true c19
                          have c19b1 : decide (((x4_3 ++ t149) ++ (⟨#[46]⟩ : ByteArray)).size + t150.size ≤ 9223372036854775807) = true := decide_eq_true c19
                          try have c19b2 : (9223372036854775807 < ((x4_3 ++ t149) ++ (⟨#[46]⟩ : ByteArray)).size + t150.size) = False := eq_false (Nat.not_lt.2 c19)
                          try (have c19b3 := c19; simp only [ByteArray.size_append] at c19b3; replace c19b3 := eq_true c19b3)
                          try (have c19b4 := c19; simp only [ByteArray.size_append] at c19b4; replace c19b4 := eq_false (Nat.not_lt.2 c19b4))
                          have c19b5 := c19
                          rw [ByteArray.size_append, ByteArray.size_append, show (⟨#[46]⟩ : ByteArray).size = 1 from rfl] at c19b5
                          have c19b6 := eq_false (Nat.not_lt.2 c19b5)
                          replace c19b5 := eq_true c19b5
                          by_cases c20 : (((x4_3 ++ t149) ++ (⟨#[46]⟩ : ByteArray)) ++ t150).size + 2 ≤ 9223372036854775807
                          · rw [if_pos c20] at H
                            have c20b0 := eq_true c20
                            have c20b1 : decide ((((x4_3 ++ t149) ++ (⟨#[46]⟩ : ByteArray)) ++ t150).size + 2 ≤ 9223372036854775807) = true := decide_eq_true c20
                            try have c20b2 : (9223372036854775807 < (((x4_3 ++ t149) ++ (⟨#[46]⟩ : ByteArray)) ++ t150).size + 2) = False := eq_false (Nat.not_lt.2 c20)
                            try (have c20b3 := c20; simp only [ByteArray.size_append] at c20b3; replace c20b3 := eq_true c20b3)
                            try (have c20b4 := c20; simp only [ByteArray.size_append] at c20b4; replace c20b4 := eq_false (Nat.not_lt.2 c20b4))
                            have c20b5 := c20
                            rw [ByteArray.size_append, ByteArray.size_append, ByteArray.size_append, show (⟨#[46]⟩ : ByteArray).size = 1 from rfl] at c20b5
                            have c20b6 := eq_false (Nat.not_lt.2 c20b5)
                            replace c20b5 := eq_true c20b5
                            simp only [Option.some.injEq, Prod.mk.injEq] at H
                            obtain ⟨rfl, rfl⟩ := H
                            go_wp2_with (first | ((with_reducible refine gate_callee (f := 27) rfl ?_); refine goesL_ (some 42) rfl rfl Tryz.func27 (by kernel_rfl) rfl #[.int .i64 (wrap64 (Int.tdiv x0_3 65536)), .int .i64 1] rfl (by (try simp only [List.map_toArray, List.map_cons, List.map_nil]); first | done | rfl | (simp only [List.length_drop, List.length_take]; rfl)) ?_; (with_reducible refine (vinculumref02_Number.calls kj8 (wrap64 (Int.tdiv x0_3 65536)) 1 t149 _ A15.out).mono ?_); rintro e w21 ⟨rfl, hb⟩; refine ⟨_, rfl, ?_⟩; have n0_ := Aside0.mk (below_step (by repeat (first | (with_reducible first | exact HB.out | apply below_alloc | apply pw_below_drewN | apply below_drew1) | exact HB.out)) hb); clear HB; have HB := n0_; clear n0_; (try clear hb); (try clear hb2); (try clear hk); (try clear hi)) | ((with_reducible refine gate_callee (f := 27) rfl ?_); refine goesL_ (some 47) rfl rfl Tryz.func27 (by kernel_rfl) rfl #[.int .i64 t145, .int .i64 x6_2] rfl (by (try simp only [List.map_toArray, List.map_cons, List.map_nil]); first | done | rfl | (simp only [List.length_drop, List.length_take]; rfl)) ?_; (with_reducible refine (vinculumref02_Number.calls kj8 t145 x6_2 t150 _ A18.out).mono ?_); rintro e w22 ⟨rfl, hb⟩; refine ⟨_, rfl, ?_⟩; have n0_ := Aside0.mk (below_step (by repeat (first | (with_reducible first | exact HB.out | apply below_alloc | apply pw_below_drewN | apply below_drew1) | exact HB.out)) hb); clear HB; have HB := n0_; clear n0_; (try clear hb); (try clear hb2); (try clear hk); (try clear hi)))
                            go_ret2
                            exact ⟨by first | rfl | (simp [errW_none, errW_some] <;> rfl) | (simp [*, errW_none, errW_some] <;> rfl), by repeat (first | (with_reducible first | exact HB.out | apply below_alloc | apply pw_below_drewN | apply below_drew1) | exact HB.out)⟩
                          · rw [if_neg c20] at H
                            exact absurd H (by simp)
                        · rw [if_neg c19] at H
                          exact absurd H (by simp)
                      · rw [if_neg c17] at H
                        exact absurd H (by simp)
                    · rw [if_neg c16] at H
                      exact absurd H (by simp)
                  · replace c14 := Bool.eq_false_iff.mpr c14
                    subst c14
                    have H1 : (vinculumref02_Text.l0 kj8 x0_3 x4_3 (Int.tmod x0_3 65536) (wrap64 (x6_2 + 1))) = some (r1, r2) := by rw [if_neg (show ¬ (false = true) by decide)] at H; exact H
                    clear H
                    have H := H1
                    clear H1
                    have H' := Aside0.mk H
                    clear H
                    go_wp2
                    go_roundg kj8
                    case measure => have := HJ3.out; have := HK2.out; have := HJ8.out; omega
                    case rel => exact ⟨(wrap64 (x6_2 + 1)), (by first | rfl | (simp; done) | (simp [*]; done)), H', ⟨by have := HJ3.out; have := HK2.out; have := HJ8.out; omega⟩, ⟨by repeat (first | (with_reducible first | exact HB.out | apply below_alloc | apply pw_below_drewN | apply below_drew1) | exact HB.out)⟩⟩
            · rw [if_neg c6] at H
              have c6b0 : decide (x6_2 < 6) = false := decide_eq_false c6
              clear c6
              simp only [Option.some.injEq, Prod.mk.injEq] at H
              obtain ⟨rfl, rfl⟩ := H
              go_wp2
              go_ret2
              exact ⟨by first | rfl | (simp [errW_none, errW_some] <;> rfl) | (simp [*, errW_none, errW_some] <;> rfl), by repeat (first | (with_reducible first | exact HB.out | apply below_alloc | apply pw_below_drewN | apply below_drew1) | exact HB.out)⟩
  · replace c3 := Bool.eq_false_iff.mpr c3
    subst c3
    have H1 : (some ((⟨#[]⟩ : ByteArray), 1)) = some (r1, r2) := by rw [if_neg (show ¬ (false = true) by decide)] at H; exact H
    clear H
    have H := H1
    clear H1
    simp only [Option.some.injEq, Prod.mk.injEq] at H
    obtain ⟨rfl, rfl⟩ := H
    go_enter Tryz.func11, Tryz.ntmps11
    go_wp2_with (first | ((with_reducible refine gate_callee (f := 21) rfl ?_); refine goesL_ (some 9) rfl rfl Tryz.func21 (by kernel_rfl) rfl #[.int .i64 a0] rfl (by (try simp only [List.map_toArray, List.map_cons, List.map_nil]); first | done | rfl | (simp only [List.length_drop, List.length_take]; rfl)) ?_; (with_reducible refine (vinculumref01_Len.calls a0 false _ A2.out).mono ?_); rintro e w' ⟨rfl, ⟨nd, rfl⟩⟩; refine ⟨_, rfl, ?_⟩))
    go_ret2
    exact ⟨by first | rfl | (simp [errW_none, errW_some] <;> rfl) | (simp [*, errW_none, errW_some] <;> rfl), by repeat (first | (with_reducible first | exact HB.out | apply below_alloc | apply pw_below_drewN | apply below_drew1) | exact HB.out)⟩

-- NOT PRINTED: function 12 (dimen_Parse)

/-! ### vinculumref02_Digits: function 35 -/
def vinculumref02_Digits.l0 : Nat → ByteArray → Int → Int → Option (Int)
  | 0, _, _, _ => none
  | k + 1, x0, x1, x5 => if (wrap64 (x1 + x5)) < (x0.size : Int) then (if 0 ≤ (wrap64 (x1 + x5)) then (if (bt x0 (wrap64 (x1 + x5))) ≥ 48 then (if (bt x0 (wrap64 (x1 + x5))) ≤ 57 then (vinculumref02_Digits.l0 k x0 x1 (wrap64 (x5 + 1))) else (some x5)) else (some x5)) else (none)) else (some x5)
def vinculumref02_Digits.f (k : Nat) (a0 : ByteArray) (a1 : Int) : Option (Int) := vinculumref02_Digits.l0 k a0 a1 0
theorem vinculumref02_Digits.mono_l : ∀ k, (∀ y0 y1 y2, LeO (vinculumref02_Digits.l0 k y0 y1 y2) (vinculumref02_Digits.l0 (k + 1) y0 y1 y2))
  | 0 => fun _ _ _ r h => by simp [vinculumref02_Digits.l0] at h
  | k + 1 => by
    have ih0 := vinculumref02_Digits.mono_l k
    · intro y0 y1 y2
      unfold vinculumref02_Digits.l0
      repeat' first
      | (with_reducible exact ih0 _ _ _)
      | (with_reducible exact LeO.refl _)
      | (with_reducible exact LeO.none _)
      | (with_reducible refine LeO.ite ?_ ?_)
      | (with_reducible refine LeO.bind ?_ (fun _ => ?_))
      | exact ih0 _ _ _
      | exact LeO.none _
      | refine LeO.ite ?_ ?_
      | refine LeO.bind ?_ (fun _ => ?_)
theorem vinculumref02_Digits.mono : ∀ a0 a1 k, LeO (vinculumref02_Digits.f k a0 a1) (vinculumref02_Digits.f (k + 1) a0 a1) := by
  intro a0 a1 k
  have ih0 := vinculumref02_Digits.mono_l k
  unfold vinculumref02_Digits.f
  repeat' first
      | (with_reducible exact ih0 _ _ _)
      | (with_reducible exact LeO.refl _)
      | (with_reducible exact LeO.none _)
      | (with_reducible refine LeO.ite ?_ ?_)
      | (with_reducible refine LeO.bind ?_ (fun _ => ?_))
      | exact ih0 _ _ _
      | exact LeO.none _
      | refine LeO.ite ?_ ?_
      | refine LeO.bind ?_ (fun _ => ?_)
set_option maxHeartbeats 8000000 in
set_option maxRecDepth 100000 in
theorem vinculumref02_Digits.calls (k : Nat) (a0 : ByteArray) (a1 : Int) (r : Int) (w : World) (h : vinculumref02_Digits.f k a0 a1 = some r) :
    Calls Tryz.prog 35 #[.string a0, .int .i64 a1] w fun e w' => e = .returned (.int .i64 r) ∧ Drawn0 w w' := by
  have H : (vinculumref02_Digits.l0 k a0 a1 0) = some r := h
  clear h
  have H' := Aside0.mk H
  clear H
  go_enter Tryz.func35, Tryz.ntmps35
  go_wp2
  go_loopg [5] k (fun kq v5 w' => ∃ (x5_1 : Int), v5 = .int .i64 x5_1 ∧ Aside0 (vinculumref02_Digits.l0 kq a0 a1 x5_1 = some r) ∧ Aside0 (kq ≤ k) ∧ Drawn0 w w')
  case atStart => exact ⟨(0), (by first | rfl | (simp; done) | (simp [*]; done)), H', ⟨Nat.le_refl _⟩, by repeat (first | exact Drawn0.refl _ | apply Drawn0.step)⟩
  case round =>
    clear H'
    try clear p2
    obtain ⟨x5_1, rfl, HA, HK1, ⟨m1, rfl⟩⟩ := hrel
    cases gk with
    | zero => exact absurd HA.out (by simp [vinculumref02_Digits.l0])
    | succ k1 =>
      have H := HA.out
      clear HA
      simp only [vinculumref02_Digits.l0] at H
      by_cases c3 : (wrap64 (a1 + x5_1)) < (a0.size : Int)
      · rw [if_pos c3] at H
        have c3b0 : decide ((wrap64 (a1 + x5_1)) < (a0.size : Int)) = true := decide_eq_true c3
        clear c3
        obtain ⟨ji4, hji4⟩ : ∃ j_ : Int, (wrap64 (a1 + x5_1)) = j_ := ⟨_, rfl⟩
        replace H : (if 0 ≤ (ji4) then (if (bt a0 (ji4)) ≥ 48 then (if (bt a0 (ji4)) ≤ 57 then (vinculumref02_Digits.l0 k1 a0 a1 (wrap64 (x5_1 + 1))) else (some x5_1)) else (some x5_1)) else (none)) = some r := by first | (rw [hji4] at H; exact H) | (simp only [hji4] at H ⊢; exact H)
        (try rw [hji4] at c3b0)
        have hji4w : (IntKind.i64.wrap (a1 + x5_1)) = ji4 := (i64_w _).trans hji4
        by_cases c5 : 0 ≤ (ji4)
        · rw [if_pos c5] at H
          have c5b0 : decide (0 ≤ (ji4)) = true := decide_eq_true c5
          clear c5
          by_cases c7 : (bt a0 (ji4)) ≥ 48
          · rw [if_pos c7] at H
            have c7b0 : decide (48 ≤ (bt a0 (ji4))) = true := decide_eq_true c7
            clear c7
            by_cases c9 : (bt a0 (ji4)) ≤ 57
            · rw [if_pos c9] at H
              have c9b0 : decide ((bt a0 (ji4)) ≤ 57) = true := decide_eq_true c9
              clear c9
              have H' := Aside0.mk H
              clear H
              have p6 : 0 ≤ ((ji4) : Int) := of_decide_eq_true (by first | (with_reducible assumption) | assumption)
              have q6 : (ji4) < (a0.size : Int) := of_decide_eq_true (by first | (with_reducible assumption) | assumption)
              have hx6 := bt_at a0 (ji4)
              replace p6 := eq_true p6
              replace q6 := eq_true q6
              have p8 : 0 ≤ ((ji4) : Int) := of_decide_eq_true (by first | (with_reducible assumption) | assumption)
              have q8 : (ji4) < (a0.size : Int) := of_decide_eq_true (by first | (with_reducible assumption) | assumption)
              have hx8 := bt_at a0 (ji4)
              replace p8 := eq_true p8
              replace q8 := eq_true q8
              go_wp2
              go_roundg k1
              case measure => have := HK1.out; omega
              case rel => exact ⟨(wrap64 (x5_1 + 1)), (by first | rfl | (simp; done) | (simp [*]; done)), H', ⟨by have := HK1.out; omega⟩, by repeat (first | exact Drawn0.refl _ | apply Drawn0.step)⟩
            · rw [if_neg c9] at H
              have c9b0 : decide ((bt a0 (ji4)) ≤ 57) = false := decide_eq_false c9
              clear c9
              obtain rfl := Option.some.inj H
              have p6 : 0 ≤ ((ji4) : Int) := of_decide_eq_true (by first | (with_reducible assumption) | assumption)
              have q6 : (ji4) < (a0.size : Int) := of_decide_eq_true (by first | (with_reducible assumption) | assumption)
              have hx6 := bt_at a0 (ji4)
              replace p6 := eq_true p6
              replace q6 := eq_true q6
              have p8 : 0 ≤ ((ji4) : Int) := of_decide_eq_true (by first | (with_reducible assumption) | assumption)
              have q8 : (ji4) < (a0.size : Int) := of_decide_eq_true (by first | (with_reducible assumption) | assumption)
              have hx8 := bt_at a0 (ji4)
              replace p8 := eq_true p8
              replace q8 := eq_true q8
              go_wp2
              go_ret
              exact ⟨by first | rfl | (simp; done) | (simp only [← hji4] <;> (first | rfl | simp)) | (simp [*]; done), by repeat (first | exact Drawn0.refl _ | apply Drawn0.step)⟩
          · rw [if_neg c7] at H
            have c7b0 : decide (48 ≤ (bt a0 (ji4))) = false := decide_eq_false c7
            clear c7
            obtain rfl := Option.some.inj H
            have p6 : 0 ≤ ((ji4) : Int) := of_decide_eq_true (by first | (with_reducible assumption) | assumption)
            have q6 : (ji4) < (a0.size : Int) := of_decide_eq_true (by first | (with_reducible assumption) | assumption)
            have hx6 := bt_at a0 (ji4)
            replace p6 := eq_true p6
            replace q6 := eq_true q6
            go_wp2
            go_ret
            exact ⟨by first | rfl | (simp; done) | (simp only [← hji4] <;> (first | rfl | simp)) | (simp [*]; done), by repeat (first | exact Drawn0.refl _ | apply Drawn0.step)⟩
        · rw [if_neg c5] at H
          exact absurd H (by simp)
      · rw [if_neg c3] at H
        have c3b0 : decide ((wrap64 (a1 + x5_1)) < (a0.size : Int)) = false := decide_eq_false c3
        clear c3
        obtain rfl := Option.some.inj H
        go_wp2
        go_ret
        exact ⟨by first | rfl | (simp; done) | (simp [*]; done), by repeat (first | exact Drawn0.refl _ | apply Drawn0.step)⟩

end Go.Proofs.YtkkadhhmdgbpiaaGreatDoor.P
