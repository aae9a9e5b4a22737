/- fixed.Is at one number; dimen.Scale, Float; the laws' small floats. -/
import Derived.Test.YtkkadhhmdgbpiaaGreatDoorDimOf
namespace Go.Proofs.YtkkadhhmdgbpiaaGreatDoor.P
open Go.RowKit Go.Proofs.YtkkadhhmdgbpiaaGreatDoorW.PrintWords Go.Proofs.YtkkadhhmdgbpiaaGreatDoorW.PrintLast Go.Proofs.YtkkadhhmdgbpiaaGreatDoorW.PrintMore
set_option linter.unusedVariables false
set_option linter.unusedSimpArgs false
attribute [local go_sem] max2_int min2_int max_two min_two max_three min_three max_four min_four
theorem rd_drop (l : List Int) (i : Nat) (h : i < l.length) : l.drop i = rd l (i : Int) :: l.drop (i + 1) := by
  rw [List.drop_eq_getElem_cons h]
  simp [rd, List.getD_eq_getElem?_getD, h]
theorem wrap64_small {x : Int} (h0 : -9223372036854775808 ≤ x) (h1 : x ≤ 9223372036854775807) : wrap64 x = x := by unfold wrap64; omega
theorem wrap_succ (i : Nat) (h : i < 4611686018427387904) : wrap64 ((i : Int) + 1) = ((i + 1 : Nat) : Int) := (wrap64_small (x := (i : Int) + 1) (by omega) (by omega)).trans (Int.natCast_succ i).symm
theorem wrap_add (a m : Nat) (h : a + m < 4611686018427387904) : wrap64 ((a : Int) + (m : Int)) = ((a + m : Nat) : Int) := (wrap64_small (x := (a : Int) + (m : Int)) (by omega) (by omega)).trans (Int.natCast_add a m).symm
def lenB (x : Int) : Bool := decide (-1073741823 ≤ x) && decide (x ≤ 1073741823)
theorem fixed_is_ev (l : List Int) (hl : l.length ≤ 1000) : Ev (fun k => fixed_Is.f k l) (l.all lenB) := by
  have key : ∀ (d i : Nat), i + d = l.length → Ev (fun k => fixed_Is.l0 k l (l.length : Int) (i : Int)) ((l.drop i).all lenB) := by
    intro d
    induction d with
    | zero =>
      intro i hd
      rw [List.drop_of_length_le (by omega)]
      exact Ev.step (f := fun k => some true) (fun k => by simp only [fixed_Is.l0]; rw [if_neg (by omega)]) (Ev.now _)
    | succ d ih =>
      intro i hd
      rw [rd_drop l i (by omega)]
      simp only [List.all_cons]
      by_cases h1 : rd l (i : Int) < -1073741823
      · have : lenB (rd l (i : Int)) = false := by unfold lenB; rw [decide_eq_false (by omega)]; rfl
        rw [this]
        exact Ev.step (f := fun k => some false) (fun k => by simp only [fixed_Is.l0]; rw [if_pos (by omega), if_pos (by omega), if_pos (by omega), if_pos (by omega)]) (Ev.now _)
      · by_cases h2 : rd l (i : Int) > 1073741823
        · have : lenB (rd l (i : Int)) = false := by unfold lenB; rw [decide_eq_false (p := rd l (i : Int) ≤ 1073741823) (by omega), Bool.and_false]
          rw [this]
          exact Ev.step (f := fun k => some false) (fun k => by simp only [fixed_Is.l0]; rw [if_pos (by omega), if_pos (by omega), if_pos (by omega), if_neg (by omega), if_pos (by omega)]) (Ev.now _)
        · have : lenB (rd l (i : Int)) = true := by unfold lenB; rw [decide_eq_true (p := -1073741823 ≤ rd l (i : Int)) (by omega), decide_eq_true (p := rd l (i : Int) ≤ 1073741823) (by omega)]; rfl
          rw [this, Bool.true_and]
          refine Ev.step (f := fun k => fixed_Is.l0 k l (l.length : Int) ((i + 1 : Nat) : Int)) (fun k => ?_) (ih (i + 1) (by omega))
          simp only [fixed_Is.l0]
          rw [if_pos (by omega), if_pos (by omega), if_pos (by omega), if_neg (by omega), if_neg (by omega), wrap64_small (x := (i : Int) + 1) (by omega) (by omega)]
          rfl
  exact key l.length 0 (by omega)
theorem K_row (vs : List Int) (w : World) (g : Nat) (hl : vs.length ≤ 9223372036854775807) (hg : ∀ j : Nat, j < vs.length → w.cell? ⟨g, j, none⟩ = some (.int .i64 (vs.getD j 0))) : Kd.C (Kd.int .i64) w (some ⟨g, 0, none⟩) vs.length vs := by
  refine Kd.C_of_reads (d := 0) ⟨rfl, hl, fun _ => ⟨⟨g, 0, none⟩, rfl, fun j hj => ?_⟩⟩
  have := hg j hj
  rw [show (⟨g, 0, none⟩ : Addr).add j = ⟨g, j, none⟩ by unfold Addr.add; by_cases h : j = 0 <;> simp [h]]
  exact this
theorem is_calls (a : Int) (w : World) (W : World) (hW : W = w.alloc (.cells #[.int .i64 a] 3)) :
    Calls Tryz.prog 20 #[.slice (some ⟨w.heap.size, 0, none⟩) 1 1] W fun en w' => en = .returned (.bool (lenB a)) ∧ Drawn0 W w' := by
  subst hW
  obtain ⟨k, hk⟩ := Ev.rounds (fixed_is_ev [a] (by simp))
  have hI := fixed_Is.calls k (some ⟨w.heap.size, 0, none⟩) 1 [a] _ (w.alloc (.cells #[.int .i64 a] 3)) (K_row [a] _ _ (by simp) (by
    intro j hj
    have : j < 1 := hj
    obtain rfl : j = 0 := by omega
    simp only [World.cell?, heap_alloc_new]; rfl)) (by simp) hk
  have : ([a].all lenB) = lenB a := by simp
  rw [this] at hI
  exact hI
theorem div_some (x : Nat) (h : x % 2 ^ 63 < FL.INF) : ∃ r, Ieee.double.div x 4679240012837945344 = some r := by
  obtain ⟨m, i, rx, _, _⟩ := FL.read_fin x h
  have rk : Ieee.double.read 4679240012837945344 = .number false (2 ^ 52) (-36) := by decide
  unfold Ieee.Format.div
  rw [rx, rk]
  exact ⟨_, rfl⟩
def floatB (a : Int) : Nat := (Ieee.double.div (floatOfInt .f64 a) 4679240012837945344).getD 0
set_option maxHeartbeats 1000000 in
theorem float_calls (a : Int) (w : World) (hf : lenB a = true → floatOfInt .f64 a % 2 ^ 63 < FL.INF) :
    Calls Tryz.prog 6 #[.int .i64 a] w fun e w' => e = .returned (.tuple #[.float .f64 (if lenB a then floatB a else 0), .int .i64 (if lenB a then 0 else 1)]) ∧ Below w.heap.size w w' := by
  have hi := is_calls a w _ rfl
  have HI := Lib.hid hi
  clear hi
  have hB : ∀ w1, Drawn0 (w.alloc (.cells #[.int .i64 a] 3)) w1 → Below w.heap.size w w1 := fun w1 hd => ((Below.refl w.heap.size w).alloc (Nat.le_refl _) _).trans (hd.below.mono (by simp))
  have HB := Lib.hid hB
  clear hB
  cases hl : lenB a
  · rw [hl] at HI
    simp only [Bool.false_eq_true, if_false]
    clear hf hl
    go_enter Tryz.func6, Tryz.ntmps6
    go_wp2_with (go_at_call 20; refine (HI.out).mono ?_; rintro e w1 ⟨rfl, hd⟩)
    go_ret2
    exact ⟨rfl, HB.out _ hd⟩
  · rw [hl] at HI
    obtain ⟨r, hr⟩ := div_some _ (hf hl)
    have hfb : floatB a = r := by unfold floatB; rw [hr]; rfl
    rw [hfb]
    simp only [if_true]
    have hdiv : ∀ t w, (binOp .quo t (.float .f64 (floatOfInt .f64 a)) (.float .f64 4679240012837945344)).run Tryz.prog w = .ok (.float .f64 r) w := fun t w => run_float_arith w .quo t .f64 _ _ _ hr
    have hconv : ∀ w, (convert 3 22 (.int .i64 a)).run Tryz.prog w = .ok (.float .f64 (floatOfInt .f64 a)) w := fun w => run_convert_int_float w _ _ _ _ _ (by kernel_rfl) (by kernel_rfl)
    generalize floatOfInt .f64 a = F at *
    clear hf hl hr hfb
    go_enter Tryz.func6, Tryz.ntmps6
    go_wp2_with (go_at_call 20; refine (HI.out).mono ?_; rintro e w1 ⟨rfl, hd⟩)
    go_ret2
    exact ⟨rfl, HB.out _ hd⟩
def scaleB (a : Int) (b : Nat) : Int × Int := if lenB a then prodB (floatOfInt .f64 a) b else (0, 1)
set_option maxHeartbeats 1000000 in
theorem scale1_calls (a : Int) (b g1 g2 : Nat) (w : World) (h1 : w.cell? ⟨g1, 0, none⟩ = some (.int .i64 a)) (h2 : w.cell? ⟨g2, 0, none⟩ = some (.float .f64 b)) :
    Calls Tryz.prog 22 #[.pointer (some ⟨g1, 0, none⟩), .pointer (some ⟨g2, 0, none⟩)] w fun en w' => en = nearE (scaleB a b) ∧ Below w.heap.size w w' := by
  have hi := is_calls a w _ rfl
  have HI := Lib.hid hi
  clear hi
  have hB : ∀ w1, Drawn0 (w.alloc (.cells #[.int .i64 a] 3)) w1 → Below w.heap.size w w1 ∧ w1.cell? ⟨g1, 0, none⟩ = some (.int .i64 a) ∧ w1.cell? ⟨g2, 0, none⟩ = some (.float .f64 b) := fun w1 hd => by
    have hB : Below w.heap.size w w1 := ((Below.refl w.heap.size w).alloc (Nat.le_refl _) _).trans (hd.below.mono (by simp))
    exact ⟨hB, (hB.cell (World.block_lt_of_cell? _ _ h1)).trans h1, (hB.cell (World.block_lt_of_cell? _ _ h2)).trans h2⟩
  have HB := Lib.hid hB
  clear hB
  cases hl : lenB a
  · rw [hl] at HI
    have hr : nearE (scaleB a b) = .panicked [{ v := .iface 23 (.int .i64 1), recovered := false }] := by unfold scaleB; rw [hl]; rfl
    rw [hr]
    clear hr hl
    go_enter Tryz.func22, Tryz.ntmps22
    go_wp2_with (first
      | (go_at_call 20; refine (HI.out).mono ?_; rintro e w1 ⟨rfl, hd⟩)
      | (go_at_call 23; with_reducible refine (need_false false _ _ rfl).mono ?_; rintro e w3 ⟨rfl, hd3⟩))
    exact ⟨rfl, rfl, (HB.out _ hd).1.trans (hd3.below.mono (HB.out _ hd).1.size)⟩
  · rw [hl] at HI
    have hr : scaleB a b = prodB (floatOfInt .f64 a) b := by unfold scaleB; rw [hl, if_pos rfl]
    rw [hr]
    have hconv : ∀ w, (convert 3 22 (.int .i64 a)).run Tryz.prog w = .ok (.float .f64 (floatOfInt .f64 a)) w := fun w => run_convert_int_float w _ _ _ _ _ (by kernel_rfl) (by kernel_rfl)
    generalize floatOfInt .f64 a = F at *
    clear hr hl
    have h3B : ∀ w1 w3, Drawn0 (w.alloc (.cells #[.int .i64 a] 3)) w1 → Drawn0 w1 w3 → Below w.heap.size w w3 ∧ w3.cell? ⟨g1, 0, none⟩ = some (.int .i64 a) ∧ w3.cell? ⟨g2, 0, none⟩ = some (.float .f64 b) := fun w1 w3 hd hd3 => HB.out w3 (d0t hd hd3)
    have HB3 := Lib.hid h3B
    clear h3B
    cases hm : Ieee.double.mul F b with
    | none =>
      have hr : nearE (prodB F b) = .panicked [{ v := .iface 23 (.int .i64 3), recovered := false }] := by unfold prodB; rw [hm]; rfl
      rw [hr]
      have hmul := fun t w => run_mul_nan t F b hm w
      clear hr hm
      go_enter Tryz.func22, Tryz.ntmps22
      go_wp2_with (first
        | (go_at_call 20; refine (HI.out).mono ?_; rintro e w1 ⟨rfl, hd⟩)
        | (go_at_call 23; with_reducible refine (need_true true _ _ rfl).mono ?_; rintro e w3 ⟨rfl, hd3⟩; obtain ⟨hb3, c1, c2⟩ := HB3.out _ _ hd hd3)
        | (go_at_call 18; refine (near_nan_calls _ _ _ _).mono ?_; rintro e w4 ⟨rfl, hd4⟩))
      exact ⟨rfl, rfl, hb3.trans ((d0t (by repeat (first | exact Drawn0.refl _ | apply Drawn0.step)) hd4).below.mono hb3.size)⟩
    | some p =>
      have hp := mul_lt hm
      have hr : prodB F b = nearB p := by unfold prodB; rw [hm]
      rw [hr]
      have hmul : ∀ t w, (binOp .mul t (.float .f64 F) (.float .f64 b)).run Tryz.prog w = .ok (.float .f64 p) w := fun t w => run_float_arith w .mul t .f64 _ _ _ hm
      have hN := fun w => near_calls' p hp w
      by_cases h0 : (nearB p).2 = 0
      · rw [nearE_ok _ h0] at hN ⊢
        have HN := Lib.hid hN
        clear hN hm hr hp h0
        go_enter Tryz.func22, Tryz.ntmps22
        go_wp2_with (first
          | (go_at_call 20; refine (HI.out).mono ?_; rintro e w1 ⟨rfl, hd⟩)
          | (go_at_call 23; with_reducible refine (need_true true _ _ rfl).mono ?_; rintro e w3 ⟨rfl, hd3⟩; obtain ⟨hb3, c1, c2⟩ := HB3.out _ _ hd hd3)
          | (go_at_call 18; refine (HN.out _).mono ?_; rintro e w4 ⟨rfl, hd4⟩))
        go_ret
        exact ⟨rfl, hb3.trans (hd4.below.mono hb3.size)⟩
      · rw [nearE_no _ h0] at hN ⊢
        have HN := Lib.hid hN
        clear hN hm hr hp h0
        go_enter Tryz.func22, Tryz.ntmps22
        go_wp2_with (first
          | (go_at_call 20; refine (HI.out).mono ?_; rintro e w1 ⟨rfl, hd⟩)
          | (go_at_call 23; with_reducible refine (need_true true _ _ rfl).mono ?_; rintro e w3 ⟨rfl, hd3⟩; obtain ⟨hb3, c1, c2⟩ := HB3.out _ _ hd hd3)
          | (go_at_call 18; refine (HN.out _).mono ?_; rintro e w4 ⟨rfl, hd4⟩))
        exact ⟨rfl, rfl, hb3.trans (hd4.below.mono hb3.size)⟩
theorem scale_zero (a : Int) (b : Nat) : (scaleB a b).2 ≠ 0 → (scaleB a b).1 = 0 := by
  unfold scaleB
  split
  · exact prod_zero _ _
  · intro _; rfl
set_option maxHeartbeats 1000000 in
theorem scale_calls (a : Int) (b : Nat) (w : World) :
    Calls Tryz.prog 8 #[.int .i64 a, .float .f64 b] w fun e w' => e = .returned (.tuple #[.int .i64 (scaleB a b).1, .int .i64 (scaleB a b).2]) ∧ Below w.heap.size w w' := by
  have hmf : ∀ (fn : Fn) (first cap : Array Value) (w : World), (Instr.makeFunc fn first cap).run Tryz.prog w = .ok (.func fn first cap) w := fun _ _ _ _ => rfl
  have hc := fun (w1 : World) (g1 g2 : Nat) (h1 : w1.cell? ⟨g1, 0, none⟩ = some (.int .i64 a)) (h2 : w1.cell? ⟨g2, 0, none⟩ = some (.float .f64 b)) => caught_calls 22 #[.pointer (some ⟨g1, 0, none⟩), .pointer (some ⟨g2, 0, none⟩)] (fun args w => by kernel_rfl) (scaleB a b).1 (scaleB a b).2 (scale_zero _ _) w1
    (fun W hB hs => scale1_calls a b g1 g2 W ((hB.cell (World.block_lt_of_cell? _ _ h1)).trans h1) ((hB.cell (World.block_lt_of_cell? _ _ h2)).trans h2))
  have HC := Lib.hid hc
  clear hc
  generalize (scaleB a b).1 = r1 at *
  generalize (scaleB a b).2 = r2 at *
  go_enter Tryz.func8, Tryz.ntmps8
  go_wp2_with (go_at_call 16; refine (HC.out _ w.heap.size (w.heap.size + 1) (by simp [go_sem]) (by simp [go_sem])).mono ?_; rintro e w1 ⟨rfl, hb⟩)
  go_ret2
  exact ⟨rfl, (((Below.refl w.heap.size w).alloc (Nat.le_refl _) _).alloc (by simp) _).trans (hb.mono (by simp; try omega))⟩
end Go.Proofs.YtkkadhhmdgbpiaaGreatDoor.P
