/- The floats' bits, Abs, Round and dimen.near, walked over bits. -/
import Derived.Test.YtkkadhhmdgbpiaaGreatDoorPx0
import Derived.Test.YtkkadhhmdgbpiaaGreatDoorPx1
import Derived.Laws.Externs
import Derived.WalkLawsBesides
import Derived.Lib.Hide
import Derived.Tactics2
namespace Go.Proofs.YtkkadhhmdgbpiaaGreatDoor.P
open Go.RowKit Go.Proofs.YtkkadhhmdgbpiaaGreatDoorW.PrintWords Go.Proofs.YtkkadhhmdgbpiaaGreatDoorW.PrintLast Go.Proofs.YtkkadhhmdgbpiaaGreatDoorW.PrintMore
set_option linter.unusedVariables false
set_option linter.unusedSimpArgs false
attribute [local go_sem] max2_int min2_int max_two min_two max_three min_three max_four min_four
@[go_sem] theorem ext_bits (args : Array Value) (w : World) : (callFunc 38 args).run Tryz.prog w = ((Extern.MathFloatBits.float64bits args).run Tryz.prog w).andThen fun v w' => .ok (.value v) w' :=
  run_callFunc_extern Tryz.func38 (by kernel_rfl) (by kernel_rfl) (by kernel_rfl) (by kernel_rfl) args w
@[go_sem] theorem ext_from (args : Array Value) (w : World) : (callFunc 51 args).run Tryz.prog w = ((Extern.MathFloatBits.float64frombits args).run Tryz.prog w).andThen fun v w' => .ok (.value v) w' :=
  run_callFunc_extern Tryz.func51 (by kernel_rfl) (by kernel_rfl) (by kernel_rfl) (by kernel_rfl) args w
@[go_sem] theorem ext_bits_run (b : Nat) (w : World) : (Extern.MathFloatBits.float64bits #[.float .f64 b]).run Tryz.prog w = .ok (.int .u64 b) w := rfl
@[go_sem] theorem ext_from_run (n : Int) (w : World) : (Extern.MathFloatBits.float64frombits #[.int .u64 n]).run Tryz.prog w = .ok (.float .f64 n.toNat) w := rfl
theorem d0t {w w' w'' : World} (h : Drawn0 w w') (h2 : Drawn0 w' w'') : Drawn0 w w'' := by obtain ⟨⟨n, rfl⟩⟩ := h2; exact h.step n
/-- need: nothing happens, or the error is thrown. -/
theorem need_calls (b : Bool) (e : Int) (w : World) :
    Calls Tryz.prog 23 #[.bool b, .int .i64 e] w fun en w' => en = (if b then .returned (.tuple #[]) else .panicked [{ v := .iface 23 (.int .i64 e), recovered := false }]) ∧ Drawn0 w w' := by
  cases b
  · go_enter Tryz.func23, Tryz.ntmps23
    go_wp2
    exact ⟨rfl, rfl, by repeat (first | exact Drawn0.refl _ | apply Drawn0.step)⟩
  · go_enter Tryz.func23, Tryz.ntmps23
    go_wp2
    go_end0
    exact ⟨rfl, by repeat (first | exact Drawn0.refl _ | apply Drawn0.step)⟩
/-- Abs, in bits. -/
theorem abs_calls (b : Nat) (w : World) :
    Calls Tryz.prog 41 #[.float .f64 b] w fun en w' => en = .returned (.float .f64 (Go.bits .andNot .u64 (b : Int) 9223372036854775808).toNat) ∧ Drawn0 w w' := by
  go_enter Tryz.func41, Tryz.ntmps41
  go_wp2
  go_ret
  exact ⟨rfl, by repeat (first | exact Drawn0.refl _ | apply Drawn0.step)⟩
/-- Round, in bits: as the code goes; e is the exponent's field. -/
def expF (b : Int) : Int := Go.bits .and .u64 (b / 4503599627370496) 2047
def roundI (b : Int) : Int :=
  if expF b < 1023 then
    (if expF b = 1022 then Go.bits .or .u64 (Go.bits .and .u64 b 9223372036854775808) 4607182418800017408 else Go.bits .and .u64 b 9223372036854775808)
  else if expF b < 1075 then
    Go.bits .andNot .u64 (IntKind.u64.wrap (b + 2251799813685248 / 2 ^ (expF b - 1023).toNat)) (4503599627370495 / 2 ^ (expF b - 1023).toNat)
  else b
set_option maxHeartbeats 1000000 in
set_option maxRecDepth 100000 in
theorem round_calls (b : Nat) (w : World) :
    Calls Tryz.prog 40 #[.float .f64 b] w fun en w' => en = .returned (.float .f64 (roundI b).toNat) ∧ Drawn0 w w' := by
  go_enter Tryz.func40, Tryz.ntmps40
  go_wp2
  all_goals
    go_ret
    refine ⟨?_, by repeat (first | exact Drawn0.refl _ | apply Drawn0.step)⟩
    rename_i h1 h2
    unfold roundI expF
    first
      | (rw [if_pos h1, if_pos (beq_iff_eq.mp h2)]; rfl)
      | (rw [if_pos h1, if_neg (beq_eq_false_iff_ne.mp h2)]; rfl)
      | (rw [if_neg (by omega), if_pos h2]; rfl)
      | (rw [if_neg (by omega), if_neg (by omega)]; rw [Int.toNat_natCast]; rfl)
/-- near, as a function of bits: the number and 0, or 0 and the error. -/
def absB (b : Nat) : Nat := (Go.bits .andNot .u64 (b : Int) 9223372036854775808).toNat
def fits (a : Nat) : Bool := FloatKind.f64.format.order a 4742290407612743680 == some .lt || FloatKind.f64.format.order a 4742290407612743680 == some .eq
def nearB (b : Nat) : Int × Int :=
  if FloatKind.f64.format.order b b == some .eq then
    (if fits (absB (roundI b).toNat) then ((floatToIntVal .f64 (roundI b).toNat .i64).getD 0, 0) else (0, 2))
  else (0, 3)
def nearE (r : Int × Int) : Ending := if r.2 = 0 then .returned (.int .i64 r.1) else .panicked [{ v := .iface 23 (.int .i64 r.2), recovered := false }]
theorem need_true (b : Bool) (e : Int) (w : World) (h : b = true) : Calls Tryz.prog 23 #[.bool b, .int .i64 e] w fun en w' => en = .returned (.tuple #[]) ∧ Drawn0 w w' := by
  subst h; exact (need_calls true e w)
theorem need_false (b : Bool) (e : Int) (w : World) (h : b = false) : Calls Tryz.prog 23 #[.bool b, .int .i64 e] w fun en w' => en = .panicked [{ v := .iface 23 (.int .i64 e), recovered := false }] ∧ Drawn0 w w' := by
  subst h; exact (need_calls false e w)
set_option maxHeartbeats 1000000 in
theorem near_calls (b : Nat) (w : World) (hi : fits (absB (roundI b).toNat) = true → (floatToIntVal .f64 (roundI b).toNat .i64).isSome = true) :
    Calls Tryz.prog 18 #[.float .f64 b] w fun en w' => en = nearE (nearB b) ∧ Drawn0 w w' := by
  cases h1 : (FloatKind.f64.format.order b b == some .eq)
  · have hr : nearB b = (0, 3) := by unfold nearB; rw [h1]; rfl
    have hr' : nearE (nearB b) = .panicked [{ v := .iface 23 (.int .i64 3), recovered := false }] := by rw [hr]; rfl
    rw [hr']
    clear hi hr hr'
    go_enter Tryz.func18, Tryz.ntmps18
    go_wp2_with (go_at_call 23; refine (need_false _ _ _ rfl).mono ?_; rintro e w1 ⟨rfl, hd⟩)
    exact ⟨rfl, rfl, hd⟩
  · have hrc := fun w => round_calls b w
    have hac := fun w => abs_calls (roundI b).toNat w
    have ha : (Go.bits .andNot .u64 (((roundI b).toNat : Nat) : Int) 9223372036854775808).toNat = absB (roundI b).toNat := rfl
    simp only [ha] at hac
    clear ha
    cases h2 : fits (absB (roundI b).toNat)
    · have hr : nearE (nearB b) = .panicked [{ v := .iface 23 (.int .i64 2), recovered := false }] := by unfold nearB; rw [h1, if_pos rfl, h2]; rfl
      rw [hr]
      clear hi hr
      have h2 : (FloatKind.f64.format.order (absB (roundI b).toNat) 4742290407612743680 == some .lt || FloatKind.f64.format.order (absB (roundI b).toNat) 4742290407612743680 == some .eq) = false := h2
      have H2 := Lib.hid h2
      clear h2
      generalize absB (roundI b).toNat = A at *
      generalize (roundI b).toNat = R at *
      have HR := Lib.hid hrc
      have HA := Lib.hid hac
      clear hrc hac
      go_enter Tryz.func18, Tryz.ntmps18
      go_wp2_with (first
        | (go_at_call 40; refine (HR.out _).mono ?_; rintro e w1 ⟨rfl, hd1⟩)
        | (go_at_call 41; refine (HA.out _).mono ?_; rintro e w2 ⟨rfl, hd2⟩)
        | (go_at_call 23; first | (with_reducible refine (need_true true _ _ rfl).mono ?_; rintro e w3 ⟨rfl, hd3⟩) | (with_reducible refine (need_false _ _ _ H2.out).mono ?_; rintro e w3 ⟨rfl, hd4⟩)))
      exact ⟨rfl, rfl, d0t (d0t (d0t hd3 hd1) hd2) hd4⟩
    · obtain ⟨n, hn⟩ := Option.isSome_iff_exists.1 (hi h2)
      have hr : nearE (nearB b) = .returned (.int .i64 n) := by unfold nearB; rw [h1, if_pos rfl, h2, if_pos rfl, hn]; rfl
      rw [hr]
      clear hi hr
      have hconv : ∀ w, (convert 22 3 (.float .f64 (roundI b).toNat)).run Tryz.prog w = .ok (.int .i64 n) w := fun w => run_convert_float_int w _ _ _ _ _ _ (by kernel_rfl) (by kernel_rfl) hn
      have h2 : (FloatKind.f64.format.order (absB (roundI b).toNat) 4742290407612743680 == some .lt || FloatKind.f64.format.order (absB (roundI b).toNat) 4742290407612743680 == some .eq) = true := h2
      have H2 := Lib.hid h2
      clear h2 hn
      generalize absB (roundI b).toNat = A at *
      generalize (roundI b).toNat = R at *
      have HR := Lib.hid hrc
      have HA := Lib.hid hac
      clear hrc hac
      go_enter Tryz.func18, Tryz.ntmps18
      go_wp2_with (first
        | (go_at_call 40; refine (HR.out _).mono ?_; rintro e w1 ⟨rfl, hd1⟩)
        | (go_at_call 41; refine (HA.out _).mono ?_; rintro e w2 ⟨rfl, hd2⟩)
        | (go_at_call 23; first | (with_reducible refine (need_true true _ _ rfl).mono ?_; rintro e w3 ⟨rfl, hd3⟩) | (with_reducible refine (need_true _ _ _ H2.out).mono ?_; rintro e w3 ⟨rfl, hd4⟩)))
      go_ret
      exact ⟨rfl, d0t (d0t (d0t hd3 hd1) hd2) hd4⟩
end Go.Proofs.YtkkadhhmdgbpiaaGreatDoor.P
