/- dimen.Of, Scale, Float, walked; a product that is no number takes its bits from the tape. -/
import Derived.Test.YtkkadhhmdgbpiaaGreatDoorDimCaught
import Derived.Test.YtkkadhhmdgbpiaaGreatDoorNearV
import Derived.Test.YtkkadhhmdgbpiaaGreatDoorPx1
namespace Go.Proofs.YtkkadhhmdgbpiaaGreatDoor.P
open Go.RowKit Go.Proofs.YtkkadhhmdgbpiaaGreatDoorW.PrintWords Go.Proofs.YtkkadhhmdgbpiaaGreatDoorW.PrintLast Go.Proofs.YtkkadhhmdgbpiaaGreatDoorW.PrintMore
set_option linter.unusedVariables false
set_option linter.unusedSimpArgs false
attribute [local go_sem] max2_int min2_int max_two min_two max_three min_three max_four min_four
/-- The product, made a length. -/
def prodB (x y : Nat) : Int × Int := match Ieee.double.mul x y with
  | some p => nearB p
  | none => (0, 3)
def nanW (x y : Nat) (w : World) : Nat := Question.cut (.nanBits .f64 x y) (w.tape w.drawn (.nanBits .f64 x y))
theorem nanW_is (x y : Nat) (w : World) : nanW x y w < 2 ^ 64 ∧ FL.INF < nanW x y w % 2 ^ 63 := by
  have hI : FL.INF = 9218868437227405312 := by decide
  rw [hI]
  unfold nanW
  generalize w.tape w.drawn (.nanBits .f64 x y) = t
  show (t % 2) * 2 ^ 63 + 0x7ff0000000000000 + 1 + (t / 2) % (2 ^ 52 - 1) < 2 ^ 64 ∧ 9218868437227405312 < ((t % 2) * 2 ^ 63 + 0x7ff0000000000000 + 1 + (t / 2) % (2 ^ 52 - 1)) % 2 ^ 63
  have h1 : t % 2 < 2 := Nat.mod_lt _ (by decide)
  have h2 : (t / 2) % (2 ^ 52 - 1) < 2 ^ 52 - 1 := Nat.mod_lt _ (by decide)
  generalize t % 2 = a at *
  generalize (t / 2) % (2 ^ 52 - 1) = c at *
  omega
theorem run_mul_nan (t : TypeId) (x y : Nat) (h : Ieee.double.mul x y = none) (w : World) : (binOp .mul t (.float .f64 x) (.float .f64 y)).run Tryz.prog w = .ok (.float .f64 (nanW x y w)) w.drew := by
  have h' : FloatKind.f64.format.mul x y = none := h
  simp [binOp, Op.floatArith, h', Question.forced]
  rfl
theorem near_calls' (b : Nat) (hb : b < 2 ^ 64) (w : World) : Calls Tryz.prog 18 #[.float .f64 b] w fun en w' => en = nearE (nearB b) ∧ Drawn0 w w' := near_calls b w (FL.near_ok b hb)
theorem near_nan_calls (x y : Nat) (w0 w : World) : Calls Tryz.prog 18 #[.float .f64 (nanW x y w0)] w fun en w' => en = .panicked [{ v := .iface 23 (.int .i64 3), recovered := false }] ∧ Drawn0 w w' := by
  obtain ⟨h1, h2⟩ := nanW_is x y w0
  have := near_calls' (nanW x y w0) h1 w
  rw [(FL.near_nan _ h1 h2).1] at this
  exact this
theorem mul_lt {x y p : Nat} (h : Ieee.double.mul x y = some p) : p < 2 ^ 64 := Ieee.double.mul_lt h
theorem nearE_ok (r : Int × Int) (h : r.2 = 0) : nearE r = .returned (.int .i64 r.1) := by unfold nearE; rw [if_pos h]
theorem nearE_no (r : Int × Int) (h : r.2 ≠ 0) : nearE r = .panicked [{ v := .iface 23 (.int .i64 r.2), recovered := false }] := by unfold nearE; rw [if_neg h]
set_option maxHeartbeats 1000000 in
theorem of1_calls (b g : Nat) (w : World) (h : w.cell? ⟨g, 0, none⟩ = some (.float .f64 b)) :
    Calls Tryz.prog 17 #[.pointer (some ⟨g, 0, none⟩)] w fun en w' => en = nearE (prodB b 4679240012837945344) ∧ Drawn0 w w' := by
  cases hm : Ieee.double.mul b 4679240012837945344 with
  | none =>
    have hr : nearE (prodB b 4679240012837945344) = .panicked [{ v := .iface 23 (.int .i64 3), recovered := false }] := by unfold prodB; rw [hm]; rfl
    rw [hr]
    have hmul := fun t w => run_mul_nan t b 4679240012837945344 hm w
    clear hr hm
    go_enter Tryz.func17, Tryz.ntmps17
    go_wp2_with (go_at_call 18; refine (near_nan_calls _ _ _ _).mono ?_; rintro e w1 ⟨rfl, hd⟩)
    exact ⟨rfl, rfl, d0t (by repeat (first | exact Drawn0.refl _ | apply Drawn0.step)) hd⟩
  | some p =>
    have hp := mul_lt hm
    have hr : prodB b 4679240012837945344 = nearB p := by unfold prodB; rw [hm]
    rw [hr]
    have hmul : ∀ t w, (binOp .mul t (.float .f64 b) (.float .f64 4679240012837945344)).run Tryz.prog w = .ok (.float .f64 p) w := fun t w => run_float_arith w .mul t .f64 _ _ _ hm
    have hN := fun w => near_calls' p hp w
    by_cases h0 : (nearB p).2 = 0
    · rw [nearE_ok _ h0] at hN ⊢
      have HN := Lib.hid hN
      clear hN hm hr hp h0
      go_enter Tryz.func17, Tryz.ntmps17
      go_wp2_with (go_at_call 18; refine (HN.out _).mono ?_; rintro e w1 ⟨rfl, hd⟩)
      go_ret
      exact ⟨rfl, hd⟩
    · rw [nearE_no _ h0] at hN ⊢
      have HN := Lib.hid hN
      clear hN hm hr hp h0
      go_enter Tryz.func17, Tryz.ntmps17
      go_wp2_with (go_at_call 18; refine (HN.out _).mono ?_; rintro e w1 ⟨rfl, hd⟩)
      exact ⟨rfl, rfl, hd⟩
theorem prod_zero (x y : Nat) : (prodB x y).2 ≠ 0 → (prodB x y).1 = 0 := by
  unfold prodB
  cases hm : Ieee.double.mul x y with
  | none => intro _; rfl
  | some p => exact FL.near_zero p (mul_lt hm)
set_option maxHeartbeats 1000000 in
/-- Of: the float times 65536, made a length. -/
theorem of_calls (b : Nat) (w : World) :
    Calls Tryz.prog 4 #[.float .f64 b] w fun e w' => e = .returned (.tuple #[.int .i64 (prodB b 4679240012837945344).1, .int .i64 (prodB b 4679240012837945344).2]) ∧ Below w.heap.size w w' := by
  have hmf : ∀ (fn : Fn) (first cap : Array Value) (w : World), (Instr.makeFunc fn first cap).run Tryz.prog w = .ok (.func fn first cap) w := fun _ _ _ _ => rfl
  have hc := fun (w1 : World) (g : Nat) (hg : g < w1.heap.size) (h1 : w1.cell? ⟨g, 0, none⟩ = some (.float .f64 b)) => caught_calls 17 #[.pointer (some ⟨g, 0, none⟩)] (fun args w => by kernel_rfl) (prodB b 4679240012837945344).1 (prodB b 4679240012837945344).2 (prod_zero _ _) w1
    (fun W hB hs => ((of1_calls b g W ((hB.cell (World.block_lt_of_cell? _ _ h1)).trans h1)).mono (fun e w' ⟨a, d⟩ => ⟨a, d.below⟩)))
  have HC := Lib.hid hc
  clear hc
  generalize (prodB b 4679240012837945344).1 = r1 at *
  generalize (prodB b 4679240012837945344).2 = r2 at *
  go_enter Tryz.func4, Tryz.ntmps4
  go_wp2_with (go_at_call 16; refine (HC.out _ w.heap.size (by simp) (by simp [go_sem])).mono ?_; rintro e w1 ⟨rfl, hb⟩)
  go_ret2
  exact ⟨rfl, ((Below.refl w.heap.size w).alloc (Nat.le_refl _) _).trans (hb.mono (by simp; try omega))⟩
end Go.Proofs.YtkkadhhmdgbpiaaGreatDoor.P
