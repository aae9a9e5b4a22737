/- Each theorem here says that a call of one Go function ends with what the plain function of that name answers (printed by a program of this session); a law's row says that the law returns true for every input. No condition. -/
import Derived.Test.YtkkadhhmdgbpiaaGreatDoorPx0
import Derived.Test.YtkkadhhmdgbpiaaGreatDoorPx1
import Derived.Test.YtkkadhhmdgbpiaaGreatDoorPx2
import Derived.Test.YtkkadhhmdgbpiaaGreatDoorPx3
import Derived.Test.YtkkadhhmdgbpiaaGreatDoorPx4
import Derived.Test.YtkkadhhmdgbpiaaGreatDoorPx5
namespace Go.Proofs.YtkkadhhmdgbpiaaGreatDoor.P
open Go.RowKit Go.Proofs.YtkkadhhmdgbpiaaGreatDoorW.PrintWords Go.Proofs.YtkkadhhmdgbpiaaGreatDoorW.PrintLast Go.Proofs.YtkkadhhmdgbpiaaGreatDoorW.PrintMore
attribute [local go_sem] max2_int min2_int max_two min_two max_three min_three max_four min_four   -- for this text's walks alone
set_option linter.unusedVariables false
set_option linter.unusedSimpArgs false

/-! ### vinculumref02_Parse: function 13 -/
mutual
def vinculumref02_Parse.j0 : Nat → ByteArray → Bool → Option (Int × Int)
  | 0, _, _ => none
  | k + 1, x0, x4 => if x4 = true then (if 1 ≤ (x0.size : Int) then (vinculumref02_Parse.j1 k (x0.extract 1 x0.size) x4) else (none)) else (vinculumref02_Parse.j1 k x0 x4)
def vinculumref02_Parse.j1 : Nat → ByteArray → Bool → Option (Int × Int)
  | 0, _, _ => none
  | k + 1, x0, x4 => (vinculumref02_Digits.f k x0 0).bind fun t151 => (if t151 < 1 then (vinculumref02_Parse.j2 k x0 x4 t151 true) else (vinculumref02_Parse.j2 k x0 x4 t151 (decide (t151 > 5))))
def vinculumref02_Parse.j2 : Nat → ByteArray → Bool → Int → Bool → Option (Int × Int)
  | 0, _, _, _, _ => none
  | k + 1, x0, x4, x5, x26 => if x26 = true then (some (0, 5)) else (if 0 ≤ x5 then (if x5 ≤ (x0.size : Int) then ((vinculumref02_Value.f k (x0.extract 0 (x5 : Int).toNat)).bind fun t152 => (if ((x0.extract (x5 : Int).toNat x0.size).size : Int) > 0 then (if 0 < ((x0.extract (x5 : Int).toNat x0.size).size : Int) then (vinculumref02_Parse.j3 k (x0.extract (x5 : Int).toNat x0.size) x4 (wrap64 (65536 * t152)) ((bt (x0.extract (x5 : Int).toNat x0.size) 0) == 46)) else (none)) else (vinculumref02_Parse.j3 k (x0.extract (x5 : Int).toNat x0.size) x4 (wrap64 (65536 * t152)) false))) else (none)) else (none))
def vinculumref02_Parse.j3 : Nat → ByteArray → Bool → Int → Bool → Option (Int × Int)
  | 0, _, _, _, _ => none
  | k + 1, x0, x4, x6, x42 => if x42 = true then ((vinculumref02_Digits.f k x0 1).bind fun t153 => (if t153 < 1 then (vinculumref02_Parse.j4 k x0 x4 x6 t153 true) else (vinculumref02_Parse.j4 k x0 x4 x6 t153 (decide (t153 > 10))))) else (vinculumref02_Parse.j5 k x0 x4 x6)
def vinculumref02_Parse.j5 : Nat → ByteArray → Bool → Int → Option (Int × Int)
  | 0, _, _, _ => none
  | k + 1, x0, x4, x6 => if x0.toList = ([112, 116] : List UInt8) then (if x4 = true then ((vinculumref01_Len.f (wrap64 (-x6))).bind fun t157 => (if t157 = true then (some (wrap64 (-x6), 0)) else (some (0, 2)))) else ((vinculumref01_Len.f x6).bind fun t158 => (if t158 = true then (some (x6, 0)) else (some (0, 2))))) else (some (0, 5))
def vinculumref02_Parse.j4 : Nat → ByteArray → Bool → Int → Int → Bool → Option (Int × Int)
  | 0, _, _, _, _, _ => none
  | k + 1, x0, x4, x6, x7, x50 => if x50 = true then (some (0, 5)) else (if 1 ≤ (wrap64 (1 + x7)) then (if (wrap64 (1 + x7)) ≤ (x0.size : Int) then ((vinculumref02_Value.f k (x0.extract 1 ((wrap64 (1 + x7)) : Int).toNat)).bind fun t154 => ((vinculumref02_ten.f k x7).bind fun t155 => ((vinculumref01_Nearest.f (wrap64 (65536 * t154)) t155).bind fun t156 => (if 0 ≤ (wrap64 (1 + x7)) then (vinculumref02_Parse.j5 k (x0.extract ((wrap64 (1 + x7)) : Int).toNat x0.size) x4 (wrap64 (x6 + t156))) else (none))))) else (none)) else (none))
end
def vinculumref02_Parse.f (k : Nat) (a0 : ByteArray) : Option (Int × Int) := if (a0.size : Int) > 0 then (if 0 < (a0.size : Int) then (vinculumref02_Parse.j0 k a0 ((bt a0 0) == 45)) else (none)) else (vinculumref02_Parse.j0 k a0 false)
theorem vinculumref02_Parse.mono_l : ∀ k, (∀ y0 y1, LeO (vinculumref02_Parse.j0 k y0 y1) (vinculumref02_Parse.j0 (k + 1) y0 y1)) ∧ (∀ y0 y1, LeO (vinculumref02_Parse.j1 k y0 y1) (vinculumref02_Parse.j1 (k + 1) y0 y1)) ∧ (∀ y0 y1 y2 y3, LeO (vinculumref02_Parse.j2 k y0 y1 y2 y3) (vinculumref02_Parse.j2 (k + 1) y0 y1 y2 y3)) ∧ (∀ y0 y1 y2 y3, LeO (vinculumref02_Parse.j3 k y0 y1 y2 y3) (vinculumref02_Parse.j3 (k + 1) y0 y1 y2 y3)) ∧ (∀ y0 y1 y2, LeO (vinculumref02_Parse.j5 k y0 y1 y2) (vinculumref02_Parse.j5 (k + 1) y0 y1 y2)) ∧ (∀ y0 y1 y2 y3 y4, LeO (vinculumref02_Parse.j4 k y0 y1 y2 y3 y4) (vinculumref02_Parse.j4 (k + 1) y0 y1 y2 y3 y4))
  | 0 => ⟨fun _ _ r h => by simp [vinculumref02_Parse.j0] at h, fun _ _ r h => by simp [vinculumref02_Parse.j1] at h, fun _ _ _ _ r h => by simp [vinculumref02_Parse.j2] at h, fun _ _ _ _ r h => by simp [vinculumref02_Parse.j3] at h, fun _ _ _ r h => by simp [vinculumref02_Parse.j5] at h, fun _ _ _ _ _ r h => by simp [vinculumref02_Parse.j4] at h⟩
  | k + 1 => by
    obtain ⟨ih0, ih1, ih2, ih3, ih4, ih5⟩ := vinculumref02_Parse.mono_l k
    refine ⟨?_, ?_, ?_, ?_, ?_, ?_⟩
    · intro y0 y1
      unfold vinculumref02_Parse.j0
      repeat' first
      | (with_reducible exact ih0 _ _)
      | (with_reducible exact ih1 _ _)
      | (with_reducible exact ih2 _ _ _ _)
      | (with_reducible exact ih3 _ _ _ _)
      | (with_reducible exact ih4 _ _ _)
      | (with_reducible exact ih5 _ _ _ _ _)
      | (with_reducible exact vinculumref02_Digits.mono _ _ _)
      | (with_reducible exact vinculumref02_Value.mono _ _)
      | (with_reducible exact vinculumref02_ten.mono _ _)
      | (with_reducible exact LeO.refl _)
      | (with_reducible exact LeO.none _)
      | (with_reducible refine LeO.ite ?_ ?_)
      | (with_reducible refine LeO.bind ?_ (fun _ => ?_))
      | exact ih0 _ _
      | exact ih1 _ _
      | exact ih2 _ _ _ _
      | exact ih3 _ _ _ _
      | exact ih4 _ _ _
      | exact ih5 _ _ _ _ _
      | exact vinculumref02_Digits.mono _ _ _
      | exact vinculumref02_Value.mono _ _
      | exact vinculumref02_ten.mono _ _
      | exact LeO.none _
      | refine LeO.ite ?_ ?_
      | refine LeO.bind ?_ (fun _ => ?_)
    · intro y0 y1
      unfold vinculumref02_Parse.j1
      repeat' first
      | (with_reducible exact ih0 _ _)
      | (with_reducible exact ih1 _ _)
      | (with_reducible exact ih2 _ _ _ _)
      | (with_reducible exact ih3 _ _ _ _)
      | (with_reducible exact ih4 _ _ _)
      | (with_reducible exact ih5 _ _ _ _ _)
      | (with_reducible exact vinculumref02_Digits.mono _ _ _)
      | (with_reducible exact vinculumref02_Value.mono _ _)
      | (with_reducible exact vinculumref02_ten.mono _ _)
      | (with_reducible exact LeO.refl _)
      | (with_reducible exact LeO.none _)
      | (with_reducible refine LeO.ite ?_ ?_)
      | (with_reducible refine LeO.bind ?_ (fun _ => ?_))
      | exact ih0 _ _
      | exact ih1 _ _
      | exact ih2 _ _ _ _
      | exact ih3 _ _ _ _
      | exact ih4 _ _ _
      | exact ih5 _ _ _ _ _
      | exact vinculumref02_Digits.mono _ _ _
      | exact vinculumref02_Value.mono _ _
      | exact vinculumref02_ten.mono _ _
      | exact LeO.none _
      | refine LeO.ite ?_ ?_
      | refine LeO.bind ?_ (fun _ => ?_)
    · intro y0 y1 y2 y3
      unfold vinculumref02_Parse.j2
      repeat' first
      | (with_reducible exact ih0 _ _)
      | (with_reducible exact ih1 _ _)
      | (with_reducible exact ih2 _ _ _ _)
      | (with_reducible exact ih3 _ _ _ _)
      | (with_reducible exact ih4 _ _ _)
      | (with_reducible exact ih5 _ _ _ _ _)
      | (with_reducible exact vinculumref02_Digits.mono _ _ _)
      | (with_reducible exact vinculumref02_Value.mono _ _)
      | (with_reducible exact vinculumref02_ten.mono _ _)
      | (with_reducible exact LeO.refl _)
      | (with_reducible exact LeO.none _)
      | (with_reducible refine LeO.ite ?_ ?_)
      | (with_reducible refine LeO.bind ?_ (fun _ => ?_))
      | exact ih0 _ _
      | exact ih1 _ _
      | exact ih2 _ _ _ _
      | exact ih3 _ _ _ _
      | exact ih4 _ _ _
      | exact ih5 _ _ _ _ _
      | exact vinculumref02_Digits.mono _ _ _
      | exact vinculumref02_Value.mono _ _
      | exact vinculumref02_ten.mono _ _
      | exact LeO.none _
      | refine LeO.ite ?_ ?_
      | refine LeO.bind ?_ (fun _ => ?_)
    · intro y0 y1 y2 y3
      unfold vinculumref02_Parse.j3
      repeat' first
      | (with_reducible exact ih0 _ _)
      | (with_reducible exact ih1 _ _)
      | (with_reducible exact ih2 _ _ _ _)
      | (with_reducible exact ih3 _ _ _ _)
      | (with_reducible exact ih4 _ _ _)
      | (with_reducible exact ih5 _ _ _ _ _)
      | (with_reducible exact vinculumref02_Digits.mono _ _ _)
      | (with_reducible exact vinculumref02_Value.mono _ _)
      | (with_reducible exact vinculumref02_ten.mono _ _)
      | (with_reducible exact LeO.refl _)
      | (with_reducible exact LeO.none _)
      | (with_reducible refine LeO.ite ?_ ?_)
      | (with_reducible refine LeO.bind ?_ (fun _ => ?_))
      | exact ih0 _ _
      | exact ih1 _ _
      | exact ih2 _ _ _ _
      | exact ih3 _ _ _ _
      | exact ih4 _ _ _
      | exact ih5 _ _ _ _ _
      | exact vinculumref02_Digits.mono _ _ _
      | exact vinculumref02_Value.mono _ _
      | exact vinculumref02_ten.mono _ _
      | exact LeO.none _
      | refine LeO.ite ?_ ?_
      | refine LeO.bind ?_ (fun _ => ?_)
    · intro y0 y1 y2
      unfold vinculumref02_Parse.j5
      repeat' first
      | (with_reducible exact ih0 _ _)
      | (with_reducible exact ih1 _ _)
      | (with_reducible exact ih2 _ _ _ _)
      | (with_reducible exact ih3 _ _ _ _)
      | (with_reducible exact ih4 _ _ _)
      | (with_reducible exact ih5 _ _ _ _ _)
      | (with_reducible exact vinculumref02_Digits.mono _ _ _)
      | (with_reducible exact vinculumref02_Value.mono _ _)
      | (with_reducible exact vinculumref02_ten.mono _ _)
      | (with_reducible exact LeO.refl _)
      | (with_reducible exact LeO.none _)
      | (with_reducible refine LeO.ite ?_ ?_)
      | (with_reducible refine LeO.bind ?_ (fun _ => ?_))
      | exact ih0 _ _
      | exact ih1 _ _
      | exact ih2 _ _ _ _
      | exact ih3 _ _ _ _
      | exact ih4 _ _ _
      | exact ih5 _ _ _ _ _
      | exact vinculumref02_Digits.mono _ _ _
      | exact vinculumref02_Value.mono _ _
      | exact vinculumref02_ten.mono _ _
      | exact LeO.none _
      | refine LeO.ite ?_ ?_
      | refine LeO.bind ?_ (fun _ => ?_)
    · intro y0 y1 y2 y3 y4
      unfold vinculumref02_Parse.j4
      repeat' first
      | (with_reducible exact ih0 _ _)
      | (with_reducible exact ih1 _ _)
      | (with_reducible exact ih2 _ _ _ _)
      | (with_reducible exact ih3 _ _ _ _)
      | (with_reducible exact ih4 _ _ _)
      | (with_reducible exact ih5 _ _ _ _ _)
      | (with_reducible exact vinculumref02_Digits.mono _ _ _)
      | (with_reducible exact vinculumref02_Value.mono _ _)
      | (with_reducible exact vinculumref02_ten.mono _ _)
      | (with_reducible exact LeO.refl _)
      | (with_reducible exact LeO.none _)
      | (with_reducible refine LeO.ite ?_ ?_)
      | (with_reducible refine LeO.bind ?_ (fun _ => ?_))
      | exact ih0 _ _
      | exact ih1 _ _
      | exact ih2 _ _ _ _
      | exact ih3 _ _ _ _
      | exact ih4 _ _ _
      | exact ih5 _ _ _ _ _
      | exact vinculumref02_Digits.mono _ _ _
      | exact vinculumref02_Value.mono _ _
      | exact vinculumref02_ten.mono _ _
      | exact LeO.none _
      | refine LeO.ite ?_ ?_
      | refine LeO.bind ?_ (fun _ => ?_)
theorem vinculumref02_Parse.mono : ∀ a0 k, LeO (vinculumref02_Parse.f k a0) (vinculumref02_Parse.f (k + 1) a0) := by
  intro a0 k
  obtain ⟨ih0, ih1, ih2, ih3, ih4, ih5⟩ := vinculumref02_Parse.mono_l k
  unfold vinculumref02_Parse.f
  repeat' first
      | (with_reducible exact ih0 _ _)
      | (with_reducible exact ih1 _ _)
      | (with_reducible exact ih2 _ _ _ _)
      | (with_reducible exact ih3 _ _ _ _)
      | (with_reducible exact ih4 _ _ _)
      | (with_reducible exact ih5 _ _ _ _ _)
      | (with_reducible exact vinculumref02_Digits.mono _ _ _)
      | (with_reducible exact vinculumref02_Value.mono _ _)
      | (with_reducible exact vinculumref02_ten.mono _ _)
      | (with_reducible exact LeO.refl _)
      | (with_reducible exact LeO.none _)
      | (with_reducible refine LeO.ite ?_ ?_)
      | (with_reducible refine LeO.bind ?_ (fun _ => ?_))
      | exact ih0 _ _
      | exact ih1 _ _
      | exact ih2 _ _ _ _
      | exact ih3 _ _ _ _
      | exact ih4 _ _ _
      | exact ih5 _ _ _ _ _
      | exact vinculumref02_Digits.mono _ _ _
      | exact vinculumref02_Value.mono _ _
      | exact vinculumref02_ten.mono _ _
      | exact LeO.none _
      | refine LeO.ite ?_ ?_
      | refine LeO.bind ?_ (fun _ => ?_)
set_option maxHeartbeats 8000000 in
set_option maxRecDepth 100000 in
theorem vinculumref02_Parse.calls (k : Nat) (a0 : ByteArray) (r1 : Int) (r2 : Int) (w : World) (h : vinculumref02_Parse.f k a0 = some (r1, r2)) :
    Calls Tryz.prog 13 #[.string a0] w fun e w' => e = .returned (.tuple #[.int .i64 r1, .int .i64 r2]) ∧ Drawn0 w w' := by
  have H : (if (a0.size : Int) > 0 then (if 0 < (a0.size : Int) then (vinculumref02_Parse.j0 k a0 ((bt a0 0) == 45)) else (none)) else (vinculumref02_Parse.j0 k a0 false)) = some (r1, r2) := h
  clear h
  have HC2 := Aside0.mk H
  clear H
  go_enter Tryz.func13, Tryz.ntmps13
  go_upto_region 1 with (fail)
  go_cut [4] (fun v4 wc => ∃ (kq : Nat) (x4_1 : Bool), v4 = .bool x4_1 ∧ Aside0 (vinculumref02_Parse.j0 kq a0 x4_1 = some (r1, r2)) ∧ Aside0 (kq ≤ k) ∧ Drawn0 w wc)
  case first =>
    have H := HC2.out
    clear HC2
    by_cases c3 : (a0.size : Int) > 0
    · rw [if_pos c3] at H
      have c3b0 : decide (0 < (a0.size : Int)) = true := decide_eq_true c3
      have c3b1 : decide (0 < a0.size) = true := decide_eq_true (by omega)
      clear c3
      (first | rw [c3b0] | (simp only [i64_w, i32_w]; rw [c3b0]) | skip)
      by_cases c4 : 0 < (a0.size : Int)
      · rw [if_pos c4] at H
        have c4b0 : decide (0 < (a0.size : Int)) = true := decide_eq_true c4
        have c4b1 : decide (0 < a0.size) = true := decide_eq_true (by omega)
        clear c4
        have H' := Aside0.mk H
        clear H
        have p5 : 0 ≤ (0 : Int) := (by omega)
        have q5 : 0 < a0.size := (by have : (0 : Int) < (a0.size : Int) := of_decide_eq_true (by first | (with_reducible assumption) | assumption); omega)
        have hx5 : ∀ h : 0 < a0.size, ((a0[0]'h).toNat : Int) = bt a0 0 := bt_at a0 0
        clear p5
        have qi5 : (0 < (a0.size : Int)) = True := eq_true (of_decide_eq_true (by first | (with_reducible assumption) | assumption))
        replace q5 := eq_true q5
        go_wp2
        go_meet
        case rel => exact ⟨_, (((bt a0 0) == 45)), (by first | rfl | (simp; done) | (simp [*]; done)), H', ⟨by first | omega | exact Nat.le_refl _⟩, by repeat (first | exact Drawn0.refl _ | apply Drawn0.step)⟩
      · rw [if_neg c4] at H
        exact absurd H (by simp)
    · rw [if_neg c3] at H
      have c3b0 : decide (0 < (a0.size : Int)) = false := decide_eq_false c3
      have c3b1 : decide (0 < a0.size) = false := decide_eq_false (by omega)
      clear c3
      (first | rw [c3b0] | (simp only [i64_w, i32_w]; rw [c3b0]) | skip)
      have H' := Aside0.mk H
      clear H
      go_wp2
      go_meet
      case rel => exact ⟨_, (false), (by first | rfl | (simp; done) | (simp [*]; done)), H', ⟨by first | omega | exact Nat.le_refl _⟩, by repeat (first | exact Drawn0.refl _ | apply Drawn0.step)⟩
  case rest =>
    clear HC2
    try clear c1
    try clear p2
    try clear c3
    try clear c3b0
    try clear c3b1
    try clear c4
    try clear c4b0
    try clear c4b1
    try clear p5
    try clear q5
    try clear hx5
    try clear qi5
    try clear p5
    try clear q5
    obtain ⟨kq, x4_1, rfl, HA, HJ1, ⟨mc1, rfl⟩⟩ := hcut
    cases kq with
    | zero => exact absurd HA.out (by simp [vinculumref02_Parse.j0])
    | succ kj1 =>
      have H := HA.out
      clear HA
      simp only [vinculumref02_Parse.j0] at H
      have HC6 := Aside0.mk H
      clear H
      go_upto_if 16 with (fail)
      go_cut [0] (fun v0 wc => ∃ (kq : Nat) (x0_5 : ByteArray), v0 = .string x0_5 ∧ Aside0 (vinculumref02_Parse.j1 kq x0_5 x4_1 = some (r1, r2)) ∧ Aside0 (kq ≤ kj1) ∧ Drawn0 w wc)
      case first =>
        have H := HC6.out
        clear HC6
        by_cases c7 : x4_1 = true
        · subst c7
          have H1 : (if 1 ≤ (a0.size : Int) then (vinculumref02_Parse.j1 kj1 (a0.extract 1 a0.size) true) else (none)) = some (r1, r2) := by rw [if_pos rfl] at H; exact H
          clear H
          have H := H1
          clear H1
          by_cases c8 : 1 ≤ (a0.size : Int)
          · rw [if_pos c8] at H
            have c8b0 := eq_true c8
            have c8b1 : decide (1 ≤ (a0.size : Int)) = true := decide_eq_true c8
            clear c8
            have H' := Aside0.mk H
            clear H
            go_wp2
            go_meet
            case rel => exact ⟨_, (a0.extract 1 a0.size), (by first | rfl | (simp; done) | (simp [*]; done)), H', ⟨by have := HJ1.out; first | omega | exact Nat.le_refl _⟩, by repeat (first | exact Drawn0.refl _ | apply Drawn0.step)⟩
          · rw [if_neg c8] at H
            exact absurd H (by simp)
        · replace c7 := Bool.eq_false_iff.mpr c7
          subst c7
          have H1 : (vinculumref02_Parse.j1 kj1 a0 false) = some (r1, r2) := by rw [if_neg (show ¬ (false = true) by decide)] at H; exact H
          clear H
          have H := H1
          clear H1
          have H' := Aside0.mk H
          clear H
          go_wp2
          go_meet
          case rel => exact ⟨_, (a0), (by first | rfl | (simp; done) | (simp [*]; done)), H', ⟨by have := HJ1.out; first | omega | exact Nat.le_refl _⟩, by repeat (first | exact Drawn0.refl _ | apply Drawn0.step)⟩
      case rest =>
        clear HC6
        try clear c1
        try clear p2
        try clear c3
        try clear c3b0
        try clear c3b1
        try clear c4
        try clear c4b0
        try clear c4b1
        try clear p5
        try clear q5
        try clear hx5
        try clear qi5
        try clear c7
        try clear c8
        try clear c8b0
        try clear c8b1
        try clear p2
        try clear p5
        try clear q5
        obtain ⟨kq, x0_5, rfl, HA, HJ5, ⟨mc5, rfl⟩⟩ := hcut
        cases kq with
        | zero => exact absurd HA.out (by simp [vinculumref02_Parse.j1])
        | succ kj5 =>
          have H := HA.out
          clear HA
          simp only [vinculumref02_Parse.j1] at H
          replace H := Option.bind_eq_some_iff.mp H
          obtain ⟨t151, A90, H⟩ := H
          replace H : (if t151 < 1 then (vinculumref02_Parse.j2 kj5 x0_5 x4_1 t151 true) else (vinculumref02_Parse.j2 kj5 x0_5 x4_1 t151 (decide (t151 > 5)))) = some (r1, r2) := H
          have A9 := Aside0.mk A90
          clear A90
          have HC10 := Aside0.mk H
          clear H
          go_upto_region 5 with (first | ((with_reducible refine gate_callee (f := 35) rfl ?_); refine goesL_ (some 20) rfl rfl Tryz.func35 (by kernel_rfl) rfl #[.string x0_5, .int .i64 0] rfl (by (try simp only [List.map_toArray, List.map_cons, List.map_nil]); first | done | rfl | (simp only [List.length_drop, List.length_take]; rfl)) ?_; (with_reducible refine (vinculumref02_Digits.calls kj5 x0_5 0 t151 _ A9.out).mono ?_); rintro e w' ⟨rfl, ⟨nd, rfl⟩⟩; refine ⟨_, rfl, ?_⟩))
          (try simp only [Act.put, List.setIfInBounds_toArray, List.set_cons_zero, List.set_cons_succ])
          go_cut [26] (fun v26 wc => ∃ (kq : Nat) (x26_9 : Bool), v26 = .bool x26_9 ∧ Aside0 (vinculumref02_Parse.j2 kq x0_5 x4_1 t151 x26_9 = some (r1, r2)) ∧ Aside0 (kq ≤ kj5) ∧ Drawn0 w wc)
          case first =>
            have H := HC10.out
            clear HC10
            by_cases c11 : t151 < 1
            · rw [if_pos c11] at H
              have c11b0 : decide (t151 < 1) = true := decide_eq_true c11
              clear c11
              (first | rw [c11b0] | (simp only [i64_w, i32_w]; rw [c11b0]) | skip)
              have H' := Aside0.mk H
              clear H
              go_wp2
              go_meet
              case rel => exact ⟨_, (true), (by first | rfl | (simp; done) | (simp [*]; done)), H', ⟨by have := HJ1.out; have := HJ5.out; first | omega | exact Nat.le_refl _⟩, by repeat (first | exact Drawn0.refl _ | apply Drawn0.step)⟩
            · rw [if_neg c11] at H
              have c11b0 : decide (t151 < 1) = false := decide_eq_false c11
              clear c11
              (first | rw [c11b0] | (simp only [i64_w, i32_w]; rw [c11b0]) | skip)
              have H' := Aside0.mk H
              clear H
              go_wp2
              go_meet
              case rel => exact ⟨_, (decide (t151 > 5)), (by first | rfl | (simp; done) | (simp [*]; done)), H', ⟨by have := HJ1.out; have := HJ5.out; first | omega | exact Nat.le_refl _⟩, by repeat (first | exact Drawn0.refl _ | apply Drawn0.step)⟩
          case rest =>
            clear HC10
            try clear c1
            try clear p2
            try clear c3
            try clear c3b0
            try clear c3b1
            try clear c4
            try clear c4b0
            try clear c4b1
            try clear c5
            try clear p5
            try clear q5
            try clear hx5
            try clear qi5
            try clear c7
            try clear c8
            try clear c8b0
            try clear c8b1
            try clear c11
            try clear c11b0
            try clear p2
            try clear p5
            try clear q5
            obtain ⟨kq, x26_9, rfl, HA, HJ9, ⟨mc9, rfl⟩⟩ := hcut
            cases kq with
            | zero => exact absurd HA.out (by simp [vinculumref02_Parse.j2])
            | succ kj9 =>
              have H := HA.out
              clear HA
              simp only [vinculumref02_Parse.j2] at H
              by_cases c12 : x26_9 = true
              · subst c12
                have H1 : (some (0, 5)) = some (r1, r2) := by rw [if_pos rfl] at H; exact H
                clear H
                have H := H1
                clear H1
                simp only [Option.some.injEq, Prod.mk.injEq] at H
                obtain ⟨rfl, rfl⟩ := H
                go_wp2
                go_ret2
                exact ⟨by first | rfl | (simp; done) | (simp [*]; done), by repeat (first | exact Drawn0.refl _ | apply Drawn0.step)⟩
              · replace c12 := Bool.eq_false_iff.mpr c12
                subst c12
                have H1 : (if 0 ≤ t151 then (if t151 ≤ (x0_5.size : Int) then ((vinculumref02_Value.f kj9 (x0_5.extract 0 (t151 : Int).toNat)).bind fun t152 => (if ((x0_5.extract (t151 : Int).toNat x0_5.size).size : Int) > 0 then (if 0 < ((x0_5.extract (t151 : Int).toNat x0_5.size).size : Int) then (vinculumref02_Parse.j3 kj9 (x0_5.extract (t151 : Int).toNat x0_5.size) x4_1 (wrap64 (65536 * t152)) ((bt (x0_5.extract (t151 : Int).toNat x0_5.size) 0) == 46)) else (none)) else (vinculumref02_Parse.j3 kj9 (x0_5.extract (t151 : Int).toNat x0_5.size) x4_1 (wrap64 (65536 * t152)) false))) else (none)) else (none)) = some (r1, r2) := by rw [if_neg (show ¬ (false = true) by decide)] at H; exact H
                clear H
                have H := H1
                clear H1
                by_cases c13 : 0 ≤ t151
                · rw [if_pos c13] at H
                  have c13b0 := eq_true c13
                  have c13b1 : decide (0 ≤ t151) = true := decide_eq_true c13
                  clear c13
                  by_cases c14 : t151 ≤ (x0_5.size : Int)
                  · rw [if_pos c14] at H
                    have c14b0 := eq_true c14
                    have c14b1 : decide (t151 ≤ (x0_5.size : Int)) = true := decide_eq_true c14
                    clear c14
                    replace H := Option.bind_eq_some_iff.mp H
                    obtain ⟨t152, A150, H⟩ := H
                    replace H : (if ((x0_5.extract (t151 : Int).toNat x0_5.size).size : Int) > 0 then (if 0 < ((x0_5.extract (t151 : Int).toNat x0_5.size).size : Int) then (vinculumref02_Parse.j3 kj9 (x0_5.extract (t151 : Int).toNat x0_5.size) x4_1 (wrap64 (65536 * t152)) ((bt (x0_5.extract (t151 : Int).toNat x0_5.size) 0) == 46)) else (none)) else (vinculumref02_Parse.j3 kj9 (x0_5.extract (t151 : Int).toNat x0_5.size) x4_1 (wrap64 (65536 * t152)) false)) = some (r1, r2) := H
                    have A15 := Aside0.mk A150
                    clear A150
                    have c16b0 := eq_true (of_decide_eq_true (by first | (with_reducible assumption) | assumption) : 0 ≤ t151)
                    have c17b0 := eq_true (of_decide_eq_true (by first | (with_reducible assumption) | assumption) : t151 ≤ (x0_5.size : Int))
                    have HC18 := Aside0.mk H
                    clear H
                    go_upto_region 9 with (first | ((with_reducible refine gate_callee (f := 36) rfl ?_); refine goesL_ (some 30) rfl rfl Tryz.func36 (by kernel_rfl) rfl #[.string (x0_5.extract 0 (t151 : Int).toNat)] rfl (by (try simp only [List.map_toArray, List.map_cons, List.map_nil]); first | done | rfl | (simp only [List.length_drop, List.length_take]; rfl)) ?_; (with_reducible refine (vinculumref02_Value.calls kj9 (x0_5.extract 0 (t151 : Int).toNat) t152 _ A15.out).mono ?_); rintro e w' ⟨rfl, ⟨nd, rfl⟩⟩; refine ⟨_, rfl, ?_⟩))
                    (try simp only [Act.put, List.setIfInBounds_toArray, List.set_cons_zero, List.set_cons_succ])
                    obtain ⟨Y0, hY0⟩ : ∃ y, x0_5.extract (t151 : Int).toNat x0_5.size = y := ⟨_, rfl⟩
                    rw [hY0] at HC18
                    (try simp only [hY0])
                    clear hY0
                    go_cut [42] (fun v42 wc => ∃ (kq : Nat) (x42_17 : Bool), v42 = .bool x42_17 ∧ Aside0 (vinculumref02_Parse.j3 kq Y0 x4_1 (wrap64 (65536 * t152)) x42_17 = some (r1, r2)) ∧ Aside0 (kq ≤ kj9) ∧ Drawn0 w wc)
                    case first =>
                      have H := HC18.out
                      clear HC18
                      by_cases c19 : (Y0.size : Int) > 0
                      · rw [if_pos c19] at H
                        have c19b0 : decide (0 < (Y0.size : Int)) = true := decide_eq_true c19
                        have c19b1 : decide (0 < Y0.size) = true := decide_eq_true (by omega)
                        clear c19
                        (first | rw [c19b0] | (simp only [i64_w, i32_w]; rw [c19b0]) | skip)
                        by_cases c20 : 0 < (Y0.size : Int)
                        · rw [if_pos c20] at H
                          have c20b0 : decide (0 < (Y0.size : Int)) = true := decide_eq_true c20
                          have c20b1 : decide (0 < Y0.size) = true := decide_eq_true (by omega)
                          clear c20
                          have H' := Aside0.mk H
                          clear H
                          have p21 : 0 ≤ (0 : Int) := (by omega)
                          have q21 : 0 < Y0.size := (by have : (0 : Int) < (Y0.size : Int) := of_decide_eq_true (by first | (with_reducible assumption) | assumption); omega)
                          have hx21 : ∀ h : 0 < Y0.size, ((Y0[0]'h).toNat : Int) = bt Y0 0 := bt_at Y0 0
                          clear p21
                          have qi21 : (0 < (Y0.size : Int)) = True := eq_true (of_decide_eq_true (by first | (with_reducible assumption) | assumption))
                          replace q21 := eq_true q21
                          go_wp2
                          go_meet
                          case rel => exact ⟨_, (((bt Y0 0) == 46)), (by first | rfl | (simp; done) | (simp [*]; done)), H', ⟨by have := HJ1.out; have := HJ5.out; have := HJ9.out; first | omega | exact Nat.le_refl _⟩, by repeat (first | exact Drawn0.refl _ | apply Drawn0.step)⟩
                        · rw [if_neg c20] at H
                          exact absurd H (by simp)
                      · rw [if_neg c19] at H
                        have c19b0 : decide (0 < (Y0.size : Int)) = false := decide_eq_false c19
                        have c19b1 : decide (0 < Y0.size) = false := decide_eq_false (by omega)
                        clear c19
                        (first | rw [c19b0] | (simp only [i64_w, i32_w]; rw [c19b0]) | skip)
                        have H' := Aside0.mk H
                        clear H
                        go_wp2
                        go_meet
                        case rel => exact ⟨_, (false), (by first | rfl | (simp; done) | (simp [*]; done)), H', ⟨by have := HJ1.out; have := HJ5.out; have := HJ9.out; first | omega | exact Nat.le_refl _⟩, by repeat (first | exact Drawn0.refl _ | apply Drawn0.step)⟩
                    case rest =>
                      clear HC18
                      try clear c1
                      try clear c2
                      try clear p2
                      try clear q2
                      try clear hx2
                      try clear qi2
                      try clear c3
                      try clear c3b0
                      try clear c3b1
                      try clear c4
                      try clear c4b0
                      try clear c4b1
                      try clear c5
                      try clear p5
                      try clear q5
                      try clear hx5
                      try clear qi5
                      try clear p6
                      try clear c7
                      try clear c8
                      try clear c8b0
                      try clear c8b1
                      try clear c9
                      try clear c11
                      try clear c11b0
                      try clear c12
                      try clear c13
                      try clear c13b0
                      try clear c13b1
                      try clear c14
                      try clear c14b0
                      try clear c14b1
                      try clear c16
                      try clear c16b0
                      try clear c17
                      try clear c17b0
                      try clear c19
                      try clear c19b0
                      try clear c19b1
                      try clear c20
                      try clear c20b0
                      try clear c20b1
                      try clear p21
                      try clear q21
                      try clear hx21
                      try clear qi21
                      try clear p2
                      try clear p21
                      try clear p5
                      try clear q21
                      try clear q5
                      obtain ⟨kq, x42_17, rfl, HA, HJ17, ⟨mc17, rfl⟩⟩ := hcut
                      cases kq with
                      | zero => exact absurd HA.out (by simp [vinculumref02_Parse.j3])
                      | succ kj17 =>
                        have H := HA.out
                        clear HA
                        simp only [vinculumref02_Parse.j3] at H
                        have HC22 := Aside0.mk H
                        clear H
                        go_upto_if 42 with (fail)
                        go_cut [0, 6] (fun v0 v6 wc => ∃ (kq : Nat) (x0_21 : ByteArray) (x6_21 : Int), v0 = .string x0_21 ∧ v6 = .int .i64 x6_21 ∧ Aside0 (vinculumref02_Parse.j5 kq x0_21 x4_1 x6_21 = some (r1, r2)) ∧ Aside0 (kq ≤ kj17) ∧ Drawn0 w wc)
                        case first =>
                          have H := HC22.out
                          clear HC22
                          by_cases c23 : x42_17 = true
                          · subst c23
                            have H1 : ((vinculumref02_Digits.f kj17 Y0 1).bind fun t153 => (if t153 < 1 then (vinculumref02_Parse.j4 kj17 Y0 x4_1 (wrap64 (65536 * t152)) t153 true) else (vinculumref02_Parse.j4 kj17 Y0 x4_1 (wrap64 (65536 * t152)) t153 (decide (t153 > 10))))) = some (r1, r2) := by rw [if_pos rfl] at H; exact H
                            clear H
                            have H := H1
                            clear H1
                            replace H := Option.bind_eq_some_iff.mp H
                            obtain ⟨t153, A240, H⟩ := H
                            replace H : (if t153 < 1 then (vinculumref02_Parse.j4 kj17 Y0 x4_1 (wrap64 (65536 * t152)) t153 true) else (vinculumref02_Parse.j4 kj17 Y0 x4_1 (wrap64 (65536 * t152)) t153 (decide (t153 > 10)))) = some (r1, r2) := H
                            have A24 := Aside0.mk A240
                            clear A240
                            have HC25 := Aside0.mk H
                            clear H
                            go_upto_region 11 with (first | ((with_reducible refine gate_callee (f := 35) rfl ?_); refine goesL_ (some 44) rfl rfl Tryz.func35 (by kernel_rfl) rfl #[.string Y0, .int .i64 1] rfl (by (try simp only [List.map_toArray, List.map_cons, List.map_nil]); first | done | rfl | (simp only [List.length_drop, List.length_take]; rfl)) ?_; (with_reducible refine (vinculumref02_Digits.calls kj17 Y0 1 t153 _ A24.out).mono ?_); rintro e w' ⟨rfl, ⟨nd, rfl⟩⟩; refine ⟨_, rfl, ?_⟩))
                            (try simp only [Act.put, List.setIfInBounds_toArray, List.set_cons_zero, List.set_cons_succ])
                            go_cut [50] (fun v50 wc => ∃ (kq : Nat) (x50_24 : Bool), v50 = .bool x50_24 ∧ Aside0 (vinculumref02_Parse.j4 kq Y0 x4_1 (wrap64 (65536 * t152)) t153 x50_24 = some (r1, r2)) ∧ Aside0 (kq ≤ kj17) ∧ Drawn0 w wc)
                            case first =>
                              have H := HC25.out
                              clear HC25
                              by_cases c26 : t153 < 1
                              · rw [if_pos c26] at H
                                have c26b0 : decide (t153 < 1) = true := decide_eq_true c26
                                clear c26
                                (first | rw [c26b0] | (simp only [i64_w, i32_w]; rw [c26b0]) | skip)
                                have H' := Aside0.mk H
                                clear H
                                go_wp2
                                go_meet
                                case rel => exact ⟨_, (true), (by first | rfl | (simp; done) | (simp [*]; done)), H', ⟨by have := HJ1.out; have := HJ5.out; have := HJ9.out; have := HJ17.out; first | omega | exact Nat.le_refl _⟩, by repeat (first | exact Drawn0.refl _ | apply Drawn0.step)⟩
                              · rw [if_neg c26] at H
                                have c26b0 : decide (t153 < 1) = false := decide_eq_false c26
                                clear c26
                                (first | rw [c26b0] | (simp only [i64_w, i32_w]; rw [c26b0]) | skip)
                                have H' := Aside0.mk H
                                clear H
                                go_wp2
                                go_meet
                                case rel => exact ⟨_, (decide (t153 > 10)), (by first | rfl | (simp; done) | (simp [*]; done)), H', ⟨by have := HJ1.out; have := HJ5.out; have := HJ9.out; have := HJ17.out; first | omega | exact Nat.le_refl _⟩, by repeat (first | exact Drawn0.refl _ | apply Drawn0.step)⟩
                            case rest =>
                              clear HC25
                              try clear c1
                              try clear c2
                              try clear p2
                              try clear q2
                              try clear hx2
                              try clear qi2
                              try clear c3
                              try clear c3b0
                              try clear c3b1
                              try clear c4
                              try clear c4b0
                              try clear c4b1
                              try clear c5
                              try clear p5
                              try clear q5
                              try clear hx5
                              try clear qi5
                              try clear p6
                              try clear c7
                              try clear c8
                              try clear c8b0
                              try clear c8b1
                              try clear c9
                              try clear c11
                              try clear c11b0
                              try clear c12
                              try clear c13
                              try clear c13b0
                              try clear c13b1
                              try clear c14
                              try clear c14b0
                              try clear c14b1
                              try clear c16
                              try clear c16b0
                              try clear c17
                              try clear c17b0
                              try clear c19
                              try clear c19b0
                              try clear c19b1
                              try clear c20
                              try clear c20b0
                              try clear c20b1
                              try clear p21
                              try clear q21
                              try clear hx21
                              try clear qi21
                              try clear c23
                              try clear c26
                              try clear c26b0
                              try clear p2
                              try clear p21
                              try clear p5
                              try clear p6
                              try clear q2
                              try clear q21
                              try clear q5
                              obtain ⟨kq, x50_24, rfl, HA, HJ24, ⟨mc24, rfl⟩⟩ := hcut
                              cases kq with
                              | zero => exact absurd HA.out (by simp [vinculumref02_Parse.j4])
                              | succ kj24 =>
                                have H := HA.out
                                clear HA
                                simp only [vinculumref02_Parse.j4] at H
                                by_cases c27 : x50_24 = true
                                · subst c27
                                  have H1 : (some (0, 5)) = some (r1, r2) := by rw [if_pos rfl] at H; exact H
                                  clear H
                                  have H := H1
                                  clear H1
                                  simp only [Option.some.injEq, Prod.mk.injEq] at H
                                  obtain ⟨rfl, rfl⟩ := H
                                  go_wp2
                                  go_ret2
                                  exact ⟨by first | rfl | (simp; done) | (simp [*]; done), by repeat (first | exact Drawn0.refl _ | apply Drawn0.step)⟩
                                · replace c27 := Bool.eq_false_iff.mpr c27
                                  subst c27
                                  have H1 : (if 1 ≤ (wrap64 (1 + t153)) then (if (wrap64 (1 + t153)) ≤ (Y0.size : Int) then ((vinculumref02_Value.f kj24 (Y0.extract 1 ((wrap64 (1 + t153)) : Int).toNat)).bind fun t154 => ((vinculumref02_ten.f kj24 t153).bind fun t155 => ((vinculumref01_Nearest.f (wrap64 (65536 * t154)) t155).bind fun t156 => (if 0 ≤ (wrap64 (1 + t153)) then (vinculumref02_Parse.j5 kj24 (Y0.extract ((wrap64 (1 + t153)) : Int).toNat Y0.size) x4_1 (wrap64 ((wrap64 (65536 * t152)) + t156))) else (none))))) else (none)) else (none)) = some (r1, r2) := by rw [if_neg (show ¬ (false = true) by decide)] at H; exact H
                                  clear H
                                  have H := H1
                                  clear H1
                                  by_cases c28 : 1 ≤ (wrap64 (1 + t153))
                                  · rw [if_pos c28] at H
                                    have c28b0 := eq_true c28
                                    have c28b1 : decide (1 ≤ (wrap64 (1 + t153))) = true := decide_eq_true c28
                                    by_cases c29 : (wrap64 (1 + t153)) ≤ (Y0.size : Int)
                                    · rw [if_pos c29] at H
                                      have c29b0 := eq_true c29
                                      have c29b1 : decide ((wrap64 (1 + t153)) ≤ (Y0.size : Int)) = true := decide_eq_true c29
                                      replace H := Option.bind_eq_some_iff.mp H
                                      obtain ⟨t154, A300, H⟩ := H
                                      replace H : ((vinculumref02_ten.f kj24 t153).bind fun t155 => ((vinculumref01_Nearest.f (wrap64 (65536 * t154)) t155).bind fun t156 => (if 0 ≤ (wrap64 (1 + t153)) then (vinculumref02_Parse.j5 kj24 (Y0.extract ((wrap64 (1 + t153)) : Int).toNat Y0.size) x4_1 (wrap64 ((wrap64 (65536 * t152)) + t156))) else (none)))) = some (r1, r2) := H
                                      have A30 := Aside0.mk A300
                                      clear A300
                                      replace H := Option.bind_eq_some_iff.mp H
                                      obtain ⟨t155, A310, H⟩ := H
                                      replace H : ((vinculumref01_Nearest.f (wrap64 (65536 * t154)) t155).bind fun t156 => (if 0 ≤ (wrap64 (1 + t153)) then (vinculumref02_Parse.j5 kj24 (Y0.extract ((wrap64 (1 + t153)) : Int).toNat Y0.size) x4_1 (wrap64 ((wrap64 (65536 * t152)) + t156))) else (none))) = some (r1, r2) := H
                                      have A31 := Aside0.mk A310
                                      clear A310
                                      replace H := Option.bind_eq_some_iff.mp H
                                      obtain ⟨t156, A320, H⟩ := H
                                      replace H : (if 0 ≤ (wrap64 (1 + t153)) then (vinculumref02_Parse.j5 kj24 (Y0.extract ((wrap64 (1 + t153)) : Int).toNat Y0.size) x4_1 (wrap64 ((wrap64 (65536 * t152)) + t156))) else (none)) = some (r1, r2) := H
                                      have A32 := Aside0.mk A320
                                      clear A320
                                      obtain ⟨ji33, hji33⟩ : ∃ j_ : Int, (wrap64 (1 + t153)) = j_ := ⟨_, rfl⟩
                                      replace H : (if 0 ≤ (ji33) then (vinculumref02_Parse.j5 kj24 (Y0.extract ((ji33) : Int).toNat Y0.size) x4_1 (wrap64 ((wrap64 (65536 * t152)) + t156))) else (none)) = some (r1, r2) := by first | (rw [hji33] at H; exact H) | (simp only [hji33] at H ⊢; exact H)
                                      (try rw [hji33] at c28b0)
                                      (try rw [hji33] at c28b1)
                                      (try rw [hji33] at c28)
                                      (try rw [hji33] at c29b0)
                                      (try rw [hji33] at c29b1)
                                      (try rw [hji33] at c29)
                                      (try rw [hji33] at A30)
                                      (try rw [hji33] at A31)
                                      (try rw [hji33] at A32)
                                      have hji33w : (IntKind.i64.wrap (1 + t153)) = ji33 := (i64_w _).trans hji33
                                      by_cases c34 : 0 ≤ (ji33)
                                      · rw [if_pos c34] at H
                                        have c34b0 := eq_true c34
                                        have c34b1 : decide (0 ≤ (ji33)) = true := decide_eq_true c34
                                        clear c34
                                        have c35b0 := eq_true (of_decide_eq_true (by first | (with_reducible assumption) | assumption) : (ji33) ≤ (Y0.size : Int))
                                        have H' := Aside0.mk H
                                        clear H
                                        go_wp2_with (first | ((with_reducible refine gate_callee (f := 36) rfl ?_); refine goesL_ (some 56) rfl rfl Tryz.func36 (by kernel_rfl) rfl #[.string (Y0.extract 1 ((ji33) : Int).toNat)] rfl (by (try simp only [List.map_toArray, List.map_cons, List.map_nil]); first | done | (simp only [hji33]; rfl) | rfl | (simp only [List.length_drop, List.length_take]; rfl)) ?_; (with_reducible refine (vinculumref02_Value.calls kj24 (Y0.extract 1 ((ji33) : Int).toNat) t154 _ A30.out).mono ?_); rintro e w' ⟨rfl, ⟨nd, rfl⟩⟩; refine ⟨_, rfl, ?_⟩) | ((with_reducible refine gate_callee (f := 26) rfl ?_); refine goesL_ (some 59) rfl rfl Tryz.func26 (by kernel_rfl) rfl #[.int .i64 t153] rfl (by (try simp only [List.map_toArray, List.map_cons, List.map_nil]); first | done | rfl | (simp only [List.length_drop, List.length_take]; rfl)) ?_; (with_reducible refine (vinculumref02_ten.calls kj24 t153 t155 _ A31.out).mono ?_); rintro e w' ⟨rfl, ⟨nd, rfl⟩⟩; refine ⟨_, rfl, ?_⟩) | ((with_reducible refine gate_callee (f := 25) rfl ?_); refine goesL_ (some 60) rfl rfl Tryz.func25 (by kernel_rfl) rfl #[.int .i64 (wrap64 (65536 * t154)), .int .i64 t155] rfl (by (try simp only [List.map_toArray, List.map_cons, List.map_nil]); first | done | rfl | (simp only [List.length_drop, List.length_take]; rfl)) ?_; (with_reducible refine (vinculumref01_Nearest.calls (wrap64 (65536 * t154)) t155 t156 _ A32.out).mono ?_); rintro e w' ⟨rfl, ⟨nd, rfl⟩⟩; refine ⟨_, rfl, ?_⟩))
                                        go_meet
                                        case rel => exact ⟨_, (Y0.extract ((ji33) : Int).toNat Y0.size), (wrap64 ((wrap64 (65536 * t152)) + t156)), (by first | rfl | (simp; done) | (simp only [← hji33] <;> (first | rfl | simp)) | (simp [*]; done)), (by first | rfl | (simp; done) | (simp [*]; done)), H', ⟨by have := HJ1.out; have := HJ5.out; have := HJ9.out; have := HJ17.out; have := HJ24.out; first | omega | exact Nat.le_refl _⟩, by repeat (first | exact Drawn0.refl _ | apply Drawn0.step)⟩
                                      · rw [if_neg c34] at H
                                        exact absurd H (by simp)
                                    · rw [if_neg c29] at H
                                      exact absurd H (by simp)
                                  · rw [if_neg c28] at H
                                    exact absurd H (by simp)
                          · replace c23 := Bool.eq_false_iff.mpr c23
                            subst c23
                            have H1 : (vinculumref02_Parse.j5 kj17 Y0 x4_1 (wrap64 (65536 * t152))) = some (r1, r2) := by rw [if_neg (show ¬ (false = true) by decide)] at H; exact H
                            clear H
                            have H := H1
                            clear H1
                            have H' := Aside0.mk H
                            clear H
                            go_wp2
                            go_meet
                            case rel => exact ⟨_, (Y0), ((wrap64 (65536 * t152))), (by first | rfl | (simp; done) | (simp [*]; done)), (by first | rfl | (simp; done) | (simp [*]; done)), H', ⟨by have := HJ1.out; have := HJ5.out; have := HJ9.out; have := HJ17.out; first | omega | exact Nat.le_refl _⟩, by repeat (first | exact Drawn0.refl _ | apply Drawn0.step)⟩
                        case rest =>
                          clear HC22
                          try clear c1
                          try clear c2
                          try clear p2
                          try clear q2
                          try clear hx2
                          try clear qi2
                          try clear c3
                          try clear c3b0
                          try clear c3b1
                          try clear c4
                          try clear c4b0
                          try clear c4b1
                          try clear c5
                          try clear p5
                          try clear q5
                          try clear hx5
                          try clear qi5
                          try clear p6
                          try clear c7
                          try clear c8
                          try clear c8b0
                          try clear c8b1
                          try clear c9
                          try clear c11
                          try clear c11b0
                          try clear c12
                          try clear c13
                          try clear c13b0
                          try clear c13b1
                          try clear c14
                          try clear c14b0
                          try clear c14b1
                          try clear c16
                          try clear c16b0
                          try clear c17
                          try clear c17b0
                          try clear c19
                          try clear c19b0
                          try clear c19b1
                          try clear c20
                          try clear c20b0
                          try clear c20b1
                          try clear p21
                          try clear q21
                          try clear hx21
                          try clear qi21
                          try clear c23
                          try clear c24
                          try clear c25
                          try clear c26
                          try clear c26b0
                          try clear c27
                          try clear c28
                          try clear c28b0
                          try clear c28b1
                          try clear c29
                          try clear c29b0
                          try clear c29b1
                          try clear c34
                          try clear c34b0
                          try clear c34b1
                          try clear c35
                          try clear c35b0
                          try clear p2
                          try clear p21
                          try clear p5
                          try clear p6
                          try clear q2
                          try clear q21
                          try clear q5
                          obtain ⟨kq, x0_21, x6_21, rfl, rfl, HA, HJ21, ⟨mc21, rfl⟩⟩ := hcut
                          cases kq with
                          | zero => exact absurd HA.out (by simp [vinculumref02_Parse.j5])
                          | succ kj21 =>
                            have H := HA.out
                            clear HA
                            simp only [vinculumref02_Parse.j5] at H
                            by_cases c36 : x0_21.toList = ([112, 116] : List UInt8)
                            · rw [if_pos c36] at H
                              have c36b0 : (x0_21.toList == ([112, 116] : List UInt8)) = true := beq_iff_eq.mpr c36
                              have c36b1 : (x0_21.toList != ([112, 116] : List UInt8)) = false := bne_eq_false_iff_eq.mpr c36
                              clear c36
                              by_cases c37 : x4_1 = true
                              · subst c37
                                have H1 : ((vinculumref01_Len.f (wrap64 (-x6_21))).bind fun t157 => (if t157 = true then (some (wrap64 (-x6_21), 0)) else (some (0, 2)))) = some (r1, r2) := by rw [if_pos rfl] at H; exact H
                                clear H
                                have H := H1
                                clear H1
                                replace H := Option.bind_eq_some_iff.mp H
                                obtain ⟨t157, A380, H⟩ := H
                                replace H : (if t157 = true then (some (wrap64 (-x6_21), 0)) else (some (0, 2))) = some (r1, r2) := H
                                have A38 := Aside0.mk A380
                                clear A380
                                by_cases c39 : t157 = true
                                · subst c39
                                  have H1 : (some (wrap64 (-x6_21), 0)) = some (r1, r2) := by rw [if_pos rfl] at H; exact H
                                  clear H
                                  have H := H1
                                  clear H1
                                  simp only [Option.some.injEq, Prod.mk.injEq] at H
                                  obtain ⟨rfl, rfl⟩ := H
                                  go_wp2_with (first | ((with_reducible refine gate_callee (f := 21) rfl ?_); refine goesL_ (some 72) rfl rfl Tryz.func21 (by kernel_rfl) rfl #[.int .i64 (wrap64 (-x6_21))] rfl (by (try simp only [List.map_toArray, List.map_cons, List.map_nil]); first | done | rfl | (simp only [List.length_drop, List.length_take]; rfl)) ?_; (with_reducible refine (vinculumref01_Len.calls (wrap64 (-x6_21)) true _ A38.out).mono ?_); rintro e w' ⟨rfl, ⟨nd, rfl⟩⟩; refine ⟨_, rfl, ?_⟩))
                                  go_ret2
                                  exact ⟨by first | rfl | (simp; done) | (simp [*]; done), by repeat (first | exact Drawn0.refl _ | apply Drawn0.step)⟩
                                · replace c39 := Bool.eq_false_iff.mpr c39
                                  subst c39
                                  have H1 : (some (0, 2)) = some (r1, r2) := by rw [if_neg (show ¬ (false = true) by decide)] at H; exact H
                                  clear H
                                  have H := H1
                                  clear H1
                                  simp only [Option.some.injEq, Prod.mk.injEq] at H
                                  obtain ⟨rfl, rfl⟩ := H
                                  go_wp2_with (first | ((with_reducible refine gate_callee (f := 21) rfl ?_); refine goesL_ (some 72) rfl rfl Tryz.func21 (by kernel_rfl) rfl #[.int .i64 (wrap64 (-x6_21))] rfl (by (try simp only [List.map_toArray, List.map_cons, List.map_nil]); first | done | rfl | (simp only [List.length_drop, List.length_take]; rfl)) ?_; (with_reducible refine (vinculumref01_Len.calls (wrap64 (-x6_21)) false _ A38.out).mono ?_); rintro e w' ⟨rfl, ⟨nd, rfl⟩⟩; refine ⟨_, rfl, ?_⟩))
                                  go_ret2
                                  exact ⟨by first | rfl | (simp; done) | (simp [*]; done), by repeat (first | exact Drawn0.refl _ | apply Drawn0.step)⟩
                              · replace c37 := Bool.eq_false_iff.mpr c37
                                subst c37
                                have H1 : ((vinculumref01_Len.f x6_21).bind fun t158 => (if t158 = true then (some (x6_21, 0)) else (some (0, 2)))) = some (r1, r2) := by rw [if_neg (show ¬ (false = true) by decide)] at H; exact H
                                clear H
                                have H := H1
                                clear H1
                                replace H := Option.bind_eq_some_iff.mp H
                                obtain ⟨t158, A400, H⟩ := H
                                replace H : (if t158 = true then (some (x6_21, 0)) else (some (0, 2))) = some (r1, r2) := H
                                have A40 := Aside0.mk A400
                                clear A400
                                by_cases c41 : t158 = true
                                · subst c41
                                  have H1 : (some (x6_21, 0)) = some (r1, r2) := by rw [if_pos rfl] at H; exact H
                                  clear H
                                  have H := H1
                                  clear H1
                                  simp only [Option.some.injEq, Prod.mk.injEq] at H
                                  obtain ⟨rfl, rfl⟩ := H
                                  go_wp2_with (first | ((with_reducible refine gate_callee (f := 21) rfl ?_); refine goesL_ (some 72) rfl rfl Tryz.func21 (by kernel_rfl) rfl #[.int .i64 x6_21] rfl (by (try simp only [List.map_toArray, List.map_cons, List.map_nil]); first | done | rfl | (simp only [List.length_drop, List.length_take]; rfl)) ?_; (with_reducible refine (vinculumref01_Len.calls x6_21 true _ A40.out).mono ?_); rintro e w' ⟨rfl, ⟨nd, rfl⟩⟩; refine ⟨_, rfl, ?_⟩))
                                  go_ret2
                                  exact ⟨by first | rfl | (simp; done) | (simp [*]; done), by repeat (first | exact Drawn0.refl _ | apply Drawn0.step)⟩
                                · replace c41 := Bool.eq_false_iff.mpr c41
                                  subst c41
                                  have H1 : (some (0, 2)) = some (r1, r2) := by rw [if_neg (show ¬ (false = true) by decide)] at H; exact H
                                  clear H
                                  have H := H1
                                  clear H1
                                  simp only [Option.some.injEq, Prod.mk.injEq] at H
                                  obtain ⟨rfl, rfl⟩ := H
                                  go_wp2_with (first | ((with_reducible refine gate_callee (f := 21) rfl ?_); refine goesL_ (some 72) rfl rfl Tryz.func21 (by kernel_rfl) rfl #[.int .i64 x6_21] rfl (by (try simp only [List.map_toArray, List.map_cons, List.map_nil]); first | done | rfl | (simp only [List.length_drop, List.length_take]; rfl)) ?_; (with_reducible refine (vinculumref01_Len.calls x6_21 false _ A40.out).mono ?_); rintro e w' ⟨rfl, ⟨nd, rfl⟩⟩; refine ⟨_, rfl, ?_⟩))
                                  go_ret2
                                  exact ⟨by first | rfl | (simp; done) | (simp [*]; done), by repeat (first | exact Drawn0.refl _ | apply Drawn0.step)⟩
                            · rw [if_neg c36] at H
                              have c36b0 : (x0_21.toList == ([112, 116] : List UInt8)) = false := beq_eq_false_iff_ne.mpr c36
                              have c36b1 : (x0_21.toList != ([112, 116] : List UInt8)) = true := bne_iff_ne.mpr c36
                              simp only [Option.some.injEq, Prod.mk.injEq] at H
                              obtain ⟨rfl, rfl⟩ := H
                              go_wp2
                              go_ret2
                              exact ⟨by first | rfl | (simp; done) | (simp [*]; done), by repeat (first | exact Drawn0.refl _ | apply Drawn0.step)⟩
                  · rw [if_neg c14] at H
                    exact absurd H (by simp)
                · rw [if_neg c13] at H
                  exact absurd H (by simp)

end Go.Proofs.YtkkadhhmdgbpiaaGreatDoor.P
