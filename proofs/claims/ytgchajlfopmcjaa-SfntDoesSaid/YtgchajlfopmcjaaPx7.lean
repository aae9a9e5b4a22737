/- Each theorem here says that a call of one Go function ends with what the plain function of that name answers (printed by a program of this session); a law's row says that the law returns true for every input. No condition. -/
import Derived.Test.YtgchajlfopmcjaaPx0
import Derived.Test.YtgchajlfopmcjaaPx3
import Derived.Test.YtgchajlfopmcjaaPx4
import Derived.Test.YtgchajlfopmcjaaPx6
import Derived.Test.YtgchajlfopmcjaaSfRight
namespace Go.Proofs.Ytgchajlfopmcjaa.P
open Go.RowKit Go.Proofs.YtgchajlfopmcjaaW.PrintWords Go.Proofs.YtgchajlfopmcjaaW.PrintLast Go.Proofs.YtgchajlfopmcjaaW.PrintMore
attribute [local go_sem] max2_int min2_int max_two min_two max_three min_three max_four min_four   -- for this text's walks alone
set_option linter.unusedVariables false
set_option linter.unusedSimpArgs false

/-! ### vinculumref04_Put: function 12 -/
mutual
def vinculumref04_Put.j0 : Nat → Int → List (S33) → Bool → Option (ByteArray × Int)
  | 0, _, _, _ => none
  | k + 1, x0, x1, x22 => if x22 = true then (some ((⟨#[]⟩ : ByteArray), 1)) else (vinculumref04_Put.l0 k x0 x1 (wrap64 (12 + (wrap64 (16 * (x1.length : Int))))) 0)
def vinculumref04_Put.l0 : Nat → Int → List (S33) → Int → Int → Option (ByteArray × Int)
  | 0, _, _, _, _ => none
  | k + 1, x0, x1, x6, x7 => if x7 < (x1.length : Int) then (if 0 ≤ x7 then (if (wrap64 (x6 + (wrap64 ((wrap64 (Int.tdiv (wrap64 ((((rd_T33 x1 x7).f1).size : Int) + 3)) 4)) * 4)))) > 16777216 then (some ((⟨#[]⟩ : ByteArray), 7)) else (vinculumref04_Put.l0 k x0 x1 (wrap64 (x6 + (wrap64 ((wrap64 (Int.tdiv (wrap64 ((((rd_T33 x1 x7).f1).size : Int) + 3)) 4)) * 4)))) (wrap64 (x7 + 1)))) else (none)) else (vinculumref04_Put.l1 k x0 x1 1 0)
def vinculumref04_Put.l1 : Nat → Int → List (S33) → Int → Int → Option (ByteArray × Int)
  | 0, _, _, _, _ => none
  | k + 1, x0, x1, x8, x9 => if (wrap64 (2 * x8)) ≤ (x1.length : Int) then (vinculumref04_Put.l1 k x0 x1 (wrap64 (2 * x8)) (wrap64 (x9 + 1))) else (if (x1.length : Int) = 0 then (vinculumref04_Put.j3 k x0 x1 0 x9) else (vinculumref04_Put.j3 k x0 x1 x8 x9))
def vinculumref04_Put.j3 : Nat → Int → List (S33) → Int → Int → Option (ByteArray × Int)
  | 0, _, _, _, _ => none
  | k + 1, x0, x1, x8, x9 => (vinculumref03_Bytes.f k x0 4).bind fun t131 => ((vinculumref03_Bytes.f k (x1.length : Int) 2).bind fun t132 => (if t131.size + t132.size ≤ 9223372036854775807 then ((vinculumref03_Bytes.f k (wrap64 (16 * x8)) 2).bind fun t133 => (if (t131 ++ t132).size + t133.size ≤ 9223372036854775807 then ((vinculumref03_Bytes.f k x9 2).bind fun t134 => (if ((t131 ++ t132) ++ t133).size + t134.size ≤ 9223372036854775807 then ((vinculumref03_Bytes.f k (wrap64 ((wrap64 (16 * (x1.length : Int))) - (wrap64 (16 * x8)))) 2).bind fun t135 => (if (((t131 ++ t132) ++ t133) ++ t134).size + t135.size ≤ 9223372036854775807 then (vinculumref04_Put.l2 k x1 ((((t131 ++ t132) ++ t133) ++ t134) ++ t135) (wrap64 (12 + (wrap64 (16 * (x1.length : Int))))) (⟨#[]⟩ : ByteArray) 0) else (none))) else (none))) else (none))) else (none)))
def vinculumref04_Put.l2 : Nat → List (S33) → ByteArray → Int → ByteArray → Int → Option (ByteArray × Int)
  | 0, _, _, _, _, _ => none
  | k + 1, x1, x10, x11, x12, x13 => if x13 < (x1.length : Int) then (if 0 ≤ x13 then (if x10.size + ((rd_T33 x1 x13).f0).size ≤ 9223372036854775807 then ((vinculumref04_Sum.f k ((rd_T33 x1 x13).f0) ((rd_T33 x1 x13).f1)).bind fun t139 => ((vinculumref03_Bytes.f k t139 4).bind fun t140 => (if (x10 ++ ((rd_T33 x1 x13).f0)).size + t140.size ≤ 9223372036854775807 then ((vinculumref03_Bytes.f k x11 4).bind fun t141 => (if ((x10 ++ ((rd_T33 x1 x13).f0)) ++ t140).size + t141.size ≤ 9223372036854775807 then ((vinculumref03_Bytes.f k (((rd_T33 x1 x13).f1).size : Int) 4).bind fun t142 => (if (((x10 ++ ((rd_T33 x1 x13).f0)) ++ t140) ++ t141).size + t142.size ≤ 9223372036854775807 then ((vinculumref03_Up.f k ((rd_T33 x1 x13).f1) 4).bind fun t143 => (if x12.size + t143.size ≤ 9223372036854775807 then (vinculumref04_Put.l2 k x1 ((((x10 ++ ((rd_T33 x1 x13).f0)) ++ t140) ++ t141) ++ t142) (wrap64 (x11 + (t143.size : Int))) (x12 ++ t143) (wrap64 (x13 + 1))) else (none))) else (none))) else (none))) else (none)))) else (none)) else (none)) else (if x10.size + x12.size ≤ 9223372036854775807 then (some (x10 ++ x12, 0)) else (none))
end
def vinculumref04_Put.f (k : Nat) (a0 : Int) (l1 : List (S33)) : Option (ByteArray × Int) := (vinculumref04_Version.f a0).bind fun t128 => (if t128 = true then ((vinculumref04_Right.f l1).bind fun t129 => (vinculumref04_Put.j0 k a0 l1 (!t129))) else (vinculumref04_Put.j0 k a0 l1 true))
theorem vinculumref04_Put.mono_l : ∀ k, (∀ y0 y1 y2, LeO (vinculumref04_Put.j0 k y0 y1 y2) (vinculumref04_Put.j0 (k + 1) y0 y1 y2)) ∧ (∀ y0 y1 y2 y3, LeO (vinculumref04_Put.l0 k y0 y1 y2 y3) (vinculumref04_Put.l0 (k + 1) y0 y1 y2 y3)) ∧ (∀ y0 y1 y2 y3, LeO (vinculumref04_Put.l1 k y0 y1 y2 y3) (vinculumref04_Put.l1 (k + 1) y0 y1 y2 y3)) ∧ (∀ y0 y1 y2 y3, LeO (vinculumref04_Put.j3 k y0 y1 y2 y3) (vinculumref04_Put.j3 (k + 1) y0 y1 y2 y3)) ∧ (∀ y0 y1 y2 y3 y4, LeO (vinculumref04_Put.l2 k y0 y1 y2 y3 y4) (vinculumref04_Put.l2 (k + 1) y0 y1 y2 y3 y4))
  | 0 => ⟨fun _ _ _ r h => by simp [vinculumref04_Put.j0] at h, fun _ _ _ _ r h => by simp [vinculumref04_Put.l0] at h, fun _ _ _ _ r h => by simp [vinculumref04_Put.l1] at h, fun _ _ _ _ r h => by simp [vinculumref04_Put.j3] at h, fun _ _ _ _ _ r h => by simp [vinculumref04_Put.l2] at h⟩
  | k + 1 => by
    obtain ⟨ih0, ih1, ih2, ih3, ih4⟩ := vinculumref04_Put.mono_l k
    refine ⟨?_, ?_, ?_, ?_, ?_⟩
    · intro y0 y1 y2
      unfold vinculumref04_Put.j0
      repeat' first
      | (with_reducible exact ih0 _ _ _)
      | (with_reducible exact ih1 _ _ _ _)
      | (with_reducible exact ih2 _ _ _ _)
      | (with_reducible exact ih3 _ _ _ _)
      | (with_reducible exact ih4 _ _ _ _ _)
      | (with_reducible exact vinculumref03_Bytes.mono _ _ _)
      | (with_reducible exact vinculumref03_Up.mono _ _ _)
      | (with_reducible exact vinculumref04_Sum.mono _ _ _)
      | (with_reducible exact LeO.refl _)
      | (with_reducible exact LeO.none _)
      | (with_reducible refine LeO.ite ?_ ?_)
      | (with_reducible refine LeO.bind ?_ (fun _ => ?_))
      | exact ih0 _ _ _
      | exact ih1 _ _ _ _
      | exact ih2 _ _ _ _
      | exact ih3 _ _ _ _
      | exact ih4 _ _ _ _ _
      | exact vinculumref03_Bytes.mono _ _ _
      | exact vinculumref03_Up.mono _ _ _
      | exact vinculumref04_Sum.mono _ _ _
      | exact LeO.none _
      | refine LeO.ite ?_ ?_
      | refine LeO.bind ?_ (fun _ => ?_)
    · intro y0 y1 y2 y3
      unfold vinculumref04_Put.l0
      repeat' first
      | (with_reducible exact ih0 _ _ _)
      | (with_reducible exact ih1 _ _ _ _)
      | (with_reducible exact ih2 _ _ _ _)
      | (with_reducible exact ih3 _ _ _ _)
      | (with_reducible exact ih4 _ _ _ _ _)
      | (with_reducible exact vinculumref03_Bytes.mono _ _ _)
      | (with_reducible exact vinculumref03_Up.mono _ _ _)
      | (with_reducible exact vinculumref04_Sum.mono _ _ _)
      | (with_reducible exact LeO.refl _)
      | (with_reducible exact LeO.none _)
      | (with_reducible refine LeO.ite ?_ ?_)
      | (with_reducible refine LeO.bind ?_ (fun _ => ?_))
      | exact ih0 _ _ _
      | exact ih1 _ _ _ _
      | exact ih2 _ _ _ _
      | exact ih3 _ _ _ _
      | exact ih4 _ _ _ _ _
      | exact vinculumref03_Bytes.mono _ _ _
      | exact vinculumref03_Up.mono _ _ _
      | exact vinculumref04_Sum.mono _ _ _
      | exact LeO.none _
      | refine LeO.ite ?_ ?_
      | refine LeO.bind ?_ (fun _ => ?_)
    · intro y0 y1 y2 y3
      unfold vinculumref04_Put.l1
      repeat' first
      | (with_reducible exact ih0 _ _ _)
      | (with_reducible exact ih1 _ _ _ _)
      | (with_reducible exact ih2 _ _ _ _)
      | (with_reducible exact ih3 _ _ _ _)
      | (with_reducible exact ih4 _ _ _ _ _)
      | (with_reducible exact vinculumref03_Bytes.mono _ _ _)
      | (with_reducible exact vinculumref03_Up.mono _ _ _)
      | (with_reducible exact vinculumref04_Sum.mono _ _ _)
      | (with_reducible exact LeO.refl _)
      | (with_reducible exact LeO.none _)
      | (with_reducible refine LeO.ite ?_ ?_)
      | (with_reducible refine LeO.bind ?_ (fun _ => ?_))
      | exact ih0 _ _ _
      | exact ih1 _ _ _ _
      | exact ih2 _ _ _ _
      | exact ih3 _ _ _ _
      | exact ih4 _ _ _ _ _
      | exact vinculumref03_Bytes.mono _ _ _
      | exact vinculumref03_Up.mono _ _ _
      | exact vinculumref04_Sum.mono _ _ _
      | exact LeO.none _
      | refine LeO.ite ?_ ?_
      | refine LeO.bind ?_ (fun _ => ?_)
    · intro y0 y1 y2 y3
      unfold vinculumref04_Put.j3
      repeat' first
      | (with_reducible exact ih0 _ _ _)
      | (with_reducible exact ih1 _ _ _ _)
      | (with_reducible exact ih2 _ _ _ _)
      | (with_reducible exact ih3 _ _ _ _)
      | (with_reducible exact ih4 _ _ _ _ _)
      | (with_reducible exact vinculumref03_Bytes.mono _ _ _)
      | (with_reducible exact vinculumref03_Up.mono _ _ _)
      | (with_reducible exact vinculumref04_Sum.mono _ _ _)
      | (with_reducible exact LeO.refl _)
      | (with_reducible exact LeO.none _)
      | (with_reducible refine LeO.ite ?_ ?_)
      | (with_reducible refine LeO.bind ?_ (fun _ => ?_))
      | exact ih0 _ _ _
      | exact ih1 _ _ _ _
      | exact ih2 _ _ _ _
      | exact ih3 _ _ _ _
      | exact ih4 _ _ _ _ _
      | exact vinculumref03_Bytes.mono _ _ _
      | exact vinculumref03_Up.mono _ _ _
      | exact vinculumref04_Sum.mono _ _ _
      | exact LeO.none _
      | refine LeO.ite ?_ ?_
      | refine LeO.bind ?_ (fun _ => ?_)
    · intro y0 y1 y2 y3 y4
      unfold vinculumref04_Put.l2
      repeat' first
      | (with_reducible exact ih0 _ _ _)
      | (with_reducible exact ih1 _ _ _ _)
      | (with_reducible exact ih2 _ _ _ _)
      | (with_reducible exact ih3 _ _ _ _)
      | (with_reducible exact ih4 _ _ _ _ _)
      | (with_reducible exact vinculumref03_Bytes.mono _ _ _)
      | (with_reducible exact vinculumref03_Up.mono _ _ _)
      | (with_reducible exact vinculumref04_Sum.mono _ _ _)
      | (with_reducible exact LeO.refl _)
      | (with_reducible exact LeO.none _)
      | (with_reducible refine LeO.ite ?_ ?_)
      | (with_reducible refine LeO.bind ?_ (fun _ => ?_))
      | exact ih0 _ _ _
      | exact ih1 _ _ _ _
      | exact ih2 _ _ _ _
      | exact ih3 _ _ _ _
      | exact ih4 _ _ _ _ _
      | exact vinculumref03_Bytes.mono _ _ _
      | exact vinculumref03_Up.mono _ _ _
      | exact vinculumref04_Sum.mono _ _ _
      | exact LeO.none _
      | refine LeO.ite ?_ ?_
      | refine LeO.bind ?_ (fun _ => ?_)
theorem vinculumref04_Put.mono : ∀ a0 a1 k, LeO (vinculumref04_Put.f k a0 a1) (vinculumref04_Put.f (k + 1) a0 a1) := by
  intro a0 a1 k
  obtain ⟨ih0, ih1, ih2, ih3, ih4⟩ := vinculumref04_Put.mono_l k
  unfold vinculumref04_Put.f
  repeat' first
      | (with_reducible exact ih0 _ _ _)
      | (with_reducible exact ih1 _ _ _ _)
      | (with_reducible exact ih2 _ _ _ _)
      | (with_reducible exact ih3 _ _ _ _)
      | (with_reducible exact ih4 _ _ _ _ _)
      | (with_reducible exact vinculumref03_Bytes.mono _ _ _)
      | (with_reducible exact vinculumref03_Up.mono _ _ _)
      | (with_reducible exact vinculumref04_Sum.mono _ _ _)
      | (with_reducible exact LeO.refl _)
      | (with_reducible exact LeO.none _)
      | (with_reducible refine LeO.ite ?_ ?_)
      | (with_reducible refine LeO.bind ?_ (fun _ => ?_))
      | exact ih0 _ _ _
      | exact ih1 _ _ _ _
      | exact ih2 _ _ _ _
      | exact ih3 _ _ _ _
      | exact ih4 _ _ _ _ _
      | exact vinculumref03_Bytes.mono _ _ _
      | exact vinculumref03_Up.mono _ _ _
      | exact vinculumref04_Sum.mono _ _ _
      | exact LeO.none _
      | refine LeO.ite ?_ ?_
      | refine LeO.bind ?_ (fun _ => ?_)
def vinculumref04_Put.T24 : Bool × List (List Nat × List Nat) := (true, [([], []), ([], []), ([], []), ([1, 2], [1, 2]), ([3], [3]), ([4], [4]), ([0, 5], [0, 5]), ([], []), ([], []), ([7, 8], [7, 8]), ([9], [9]), ([10], [10]), ([11, 11], [11]), ([6, 12], [6, 12]), ([], []), ([14, 12], [14]), ([13, 15], [13, 15]), ([], []), ([17], [17]), ([18, 15], [18]), ([16, 19], [16, 19]), ([20, 19, 0, 1, 2, 3, 4, 5, 6, 7, 8, 9, 10, 11, 12, 13, 14, 15, 16, 17, 18, 19, 20], [0, 20])])
def vinculumref04_Put.B24 : List Nat := [0, 0, 0, 6, 14, 30, 63, 0, 0, 384, 896, 1920, 3968, 8191, 0, 24448, 65535, 0, 131072, 450432, 1048575, 2097151]
theorem vinculumref04_Put.tab24 : rtab .any (opsOf Try.f12 24) = vinculumref04_Put.T24 := by kernel_rfl
theorem vinculumref04_Put.bits24 : waitsOk vinculumref04_Put.T24.2 vinculumref04_Put.B24 = true := by kernel_rfl
set_option maxHeartbeats 8000000 in
set_option maxRecDepth 100000 in
theorem vinculumref04_Put.calls (k : Nat) (a0 : Int) (A1 : Option Addr) (c1 : Nat) (l1 : List (S33)) (r1 : ByteArray) (r2 : Int) (w : World) (hr1 : Kd.C k33 w A1 l1.length l1) (hc1 : l1.length ≤ c1) (h : vinculumref04_Put.f k a0 l1 = some (r1, r2)) :
    Calls Try.prog 12 #[.int .i64 a0, .slice A1 l1.length c1] w fun e w' => e = .returned (.tuple #[.string r1, .int .i64 r2]) ∧ Below w.heap.size w w' := by
  have hu33 := Try.underlying33
  have HR1 := Aside0.mk hr1
  have HC1 := Aside0.mk hc1
  clear hr1 hc1
  have HB := Aside0.mk (Below.refl w.heap.size w)
  have H : ((vinculumref04_Version.f a0).bind fun t128 => (if t128 = true then ((vinculumref04_Right.f l1).bind fun t129 => (vinculumref04_Put.j0 k a0 l1 (!t129))) else (vinculumref04_Put.j0 k a0 l1 true))) = some (r1, r2) := h
  clear h
  have HC3 := Aside0.mk H
  clear H
  go_enter Try.func12, Try.ntmps12
  go_upto_region 1 with (fail)
  go_cut [22] (fun v22 wc => ∃ (kq : Nat) (x22_2 : Bool), v22 = .bool x22_2 ∧ Aside0 (vinculumref04_Put.j0 kq a0 l1 x22_2 = some (r1, r2)) ∧ Aside0 (kq ≤ k) ∧ Aside0 (Below w.heap.size w wc))
  case first =>
    have H := HC3.out
    clear HC3
    replace H := Option.bind_eq_some_iff.mp H
    obtain ⟨t128, A40, H⟩ := H
    replace H : (if t128 = true then ((vinculumref04_Right.f l1).bind fun t129 => (vinculumref04_Put.j0 k a0 l1 (!t129))) else (vinculumref04_Put.j0 k a0 l1 true)) = some (r1, r2) := H
    have A4 := Aside0.mk A40
    clear A40
    by_cases c5 : t128 = true
    · subst c5
      have H1 : ((vinculumref04_Right.f l1).bind fun t129 => (vinculumref04_Put.j0 k a0 l1 (!t129))) = some (r1, r2) := by rw [if_pos rfl] at H; exact H
      clear H
      have H := H1
      clear H1
      replace H := Option.bind_eq_some_iff.mp H
      obtain ⟨t129, A60, H⟩ := H
      replace H : (vinculumref04_Put.j0 k a0 l1 (!t129)) = some (r1, r2) := H
      have A6 := Aside0.mk A60
      clear A60
      have H' := Aside0.mk H
      clear H
      go_wp2_with (first | ((with_reducible refine gate_callee (f := 24) rfl ?_); refine goesL_ (some 16) rfl rfl Try.func24 (by kernel_rfl) rfl #[.int .i64 a0] rfl (by (try simp only [List.map_toArray, List.map_cons, List.map_nil]); first | done | rfl | (simp only [List.length_drop, List.length_take]; rfl)) ?_; (with_reducible refine (vinculumref04_Version.calls a0 true _ A4.out).mono ?_); rintro e w' ⟨rfl, ⟨nd, rfl⟩⟩; refine ⟨_, rfl, ?_⟩) | (go_at_call 36; (with_reducible refine (vinculumref04_Right.calls _ _ l1 t129 _ ?side1 ?side2 A6.out).mono ?_); (case side1 => repeat (first | exact (Kd.C_below HR1.out (by repeat (first | (with_reducible first | exact HB.out | apply below_alloc | apply pw_below_drewN | apply below_drew1) | exact HB.out))) | (with_reducible refine Kd.C_alloc ?_ _) | (with_reducible refine Kd.C_drewN ?_ _) | (with_reducible refine Kd.C_drew ?_))); (case side2 => exact HC1.out); rintro e w7 ⟨rfl, hb⟩; have n0_ := Aside0.mk (below_step (by repeat (first | (with_reducible first | exact HB.out | apply below_alloc | apply pw_below_drewN | apply below_drew1) | exact HB.out)) hb); clear HB; have HB := n0_; clear n0_; (try clear hb); (try clear hb2); (try clear hk); (try clear hi)))
      go_meet
      case rel => exact ⟨_, (!t129), (by first | rfl | (simp; done) | (simp [*]; done)), H', ⟨by first | omega | exact Nat.le_refl _⟩, ⟨by repeat (first | (with_reducible first | exact HB.out | apply below_alloc | apply pw_below_drewN | apply below_drew1) | exact HB.out)⟩⟩
    · replace c5 := Bool.eq_false_iff.mpr c5
      subst c5
      have H1 : (vinculumref04_Put.j0 k a0 l1 true) = some (r1, r2) := by rw [if_neg (show ¬ (false = true) by decide)] at H; exact H
      clear H
      have H := H1
      clear H1
      have H' := Aside0.mk H
      clear H
      go_wp2_with (first | ((with_reducible refine gate_callee (f := 24) rfl ?_); refine goesL_ (some 16) rfl rfl Try.func24 (by kernel_rfl) rfl #[.int .i64 a0] rfl (by (try simp only [List.map_toArray, List.map_cons, List.map_nil]); first | done | rfl | (simp only [List.length_drop, List.length_take]; rfl)) ?_; (with_reducible refine (vinculumref04_Version.calls a0 false _ A4.out).mono ?_); rintro e w' ⟨rfl, ⟨nd, rfl⟩⟩; refine ⟨_, rfl, ?_⟩))
      go_meet
      case rel => exact ⟨_, (true), (by first | rfl | (simp; done) | (simp [*]; done)), H', ⟨by first | omega | exact Nat.le_refl _⟩, ⟨by repeat (first | (with_reducible first | exact HB.out | apply below_alloc | apply pw_below_drewN | apply below_drew1) | exact HB.out)⟩⟩
  case rest =>
    clear HC3
    try clear c1
    try clear c2
    try clear p2
    try clear c5
    obtain ⟨kq, x22_2, rfl, HA, HJ2, HB⟩ := hcut
    cases kq with
    | zero => exact absurd HA.out (by simp [vinculumref04_Put.j0])
    | succ kj2 =>
      have H := HA.out
      clear HA
      simp only [vinculumref04_Put.j0] at H
      by_cases c8 : x22_2 = true
      · subst c8
        have H1 : (some ((⟨#[]⟩ : ByteArray), 1)) = some (r1, r2) := by rw [if_pos rfl] at H; exact H
        clear H
        have H := H1
        clear H1
        simp only [Option.some.injEq, Prod.mk.injEq] at H
        obtain ⟨rfl, rfl⟩ := H
        go_wp2
        go_ret2
        exact ⟨by first | rfl | (simp [errW_none, errW_some] <;> rfl) | (simp [*, errW_none, errW_some] <;> rfl), by repeat (first | (with_reducible first | exact HB.out | apply below_alloc | apply pw_below_drewN | apply below_drew1) | exact HB.out)⟩
      · replace c8 := Bool.eq_false_iff.mpr c8
        subst c8
        have H1 : (vinculumref04_Put.l0 kj2 a0 l1 (wrap64 (12 + (wrap64 (16 * (l1.length : Int))))) 0) = some (r1, r2) := by rw [if_neg (show ¬ (false = true) by decide)] at H; exact H
        clear H
        have H := H1
        clear H1
        have H' := Aside0.mk H
        clear H
        go_wp2
        go_loopg [6, 7] kj2 (fun kq v6 v7 w' => ∃ (x6_2 : Int) (x7_2 : Int), v6 = .int .i64 x6_2 ∧ v7 = .int .i64 x7_2 ∧ Aside0 (vinculumref04_Put.l0 kq a0 l1 x6_2 x7_2 = some (r1, r2)) ∧ Aside0 (kq ≤ kj2) ∧ Aside0 (Below w.heap.size w w'))
        case atStart => exact ⟨(wrap64 (12 + (wrap64 (16 * (l1.length : Int))))), (0), (by first | rfl | (simp; done) | (simp [*]; done)), (by first | rfl | (simp; done) | (simp [*]; done)), H', ⟨Nat.le_refl _⟩, ⟨by repeat (first | (with_reducible first | exact HB.out | apply below_alloc | apply pw_below_drewN | apply below_drew1) | exact HB.out)⟩⟩
        case round =>
          clear H'
          try clear c1
          try clear c2
          try clear p2
          try clear c5
          try clear p6
          try clear c8
          try clear p2
          obtain ⟨x6_2, x7_2, rfl, rfl, HA, HK2, HB⟩ := hrel
          cases gk with
          | zero => exact absurd HA.out (by simp [vinculumref04_Put.l0])
          | succ k2 =>
            have H := HA.out
            clear HA
            simp only [vinculumref04_Put.l0] at H
            by_cases c9 : x7_2 < (l1.length : Int)
            · rw [if_pos c9] at H
              have c9b0 : decide (x7_2 < (l1.length : Int)) = true := decide_eq_true c9
              clear c9
              by_cases c10 : 0 ≤ x7_2
              · rw [if_pos c10] at H
                have c10b0 : decide (0 ≤ x7_2) = true := decide_eq_true c10
                clear c10
                by_cases c11 : (wrap64 (x6_2 + (wrap64 ((wrap64 (Int.tdiv (wrap64 ((((rd_T33 l1 x7_2).f1).size : Int) + 3)) 4)) * 4)))) > 16777216
                · rw [if_pos c11] at H
                  have c11b0 : decide (16777216 < (wrap64 (x6_2 + (wrap64 ((wrap64 (Int.tdiv (wrap64 ((((rd_T33 l1 x7_2).f1).size : Int) + 3)) 4)) * 4))))) = true := decide_eq_true c11
                  clear c11
                  simp only [Option.some.injEq, Prod.mk.injEq] at H
                  obtain ⟨rfl, rfl⟩ := H
                  have p130 : 0 ≤ (x7_2 : Int) := of_decide_eq_true (by first | (with_reducible assumption) | assumption)
                  have q130 : x7_2 < (l1.length : Int) := of_decide_eq_true (by first | (with_reducible assumption) | assumption)
                  obtain ⟨ad130, e130, hx130_0, hx130_1⟩ := at_T33 HR1.out x7_2 p130 q130
                  cases e130
                  replace hx130_0 := (HB.out.cell (World.block_lt_of_cell? w _ hx130_0)).trans hx130_0
                  replace hx130_1 := (HB.out.cell (World.block_lt_of_cell? w _ hx130_1)).trans hx130_1
                  replace p130 := eq_true p130
                  replace q130 := eq_true q130
                  go_wp2
                  go_ret2
                  exact ⟨by first | rfl | (simp [errW_none, errW_some] <;> rfl) | (simp [*, errW_none, errW_some] <;> rfl), by repeat (first | (with_reducible first | exact HB.out | apply below_alloc | apply pw_below_drewN | apply below_drew1) | exact HB.out)⟩
                · rw [if_neg c11] at H
                  have c11b0 : decide (16777216 < (wrap64 (x6_2 + (wrap64 ((wrap64 (Int.tdiv (wrap64 ((((rd_T33 l1 x7_2).f1).size : Int) + 3)) 4)) * 4))))) = false := decide_eq_false c11
                  clear c11
                  have H' := Aside0.mk H
                  clear H
                  have p130 : 0 ≤ (x7_2 : Int) := of_decide_eq_true (by first | (with_reducible assumption) | assumption)
                  have q130 : x7_2 < (l1.length : Int) := of_decide_eq_true (by first | (with_reducible assumption) | assumption)
                  obtain ⟨ad130, e130, hx130_0, hx130_1⟩ := at_T33 HR1.out x7_2 p130 q130
                  cases e130
                  replace hx130_0 := (HB.out.cell (World.block_lt_of_cell? w _ hx130_0)).trans hx130_0
                  replace hx130_1 := (HB.out.cell (World.block_lt_of_cell? w _ hx130_1)).trans hx130_1
                  replace p130 := eq_true p130
                  replace q130 := eq_true q130
                  go_wp2
                  go_roundg k2
                  case measure => have := HJ2.out; have := HK2.out; omega
                  case rel => exact ⟨(wrap64 (x6_2 + (wrap64 ((wrap64 (Int.tdiv (wrap64 ((((rd_T33 l1 x7_2).f1).size : Int) + 3)) 4)) * 4)))), (wrap64 (x7_2 + 1)), (by first | rfl | (simp; done) | (simp [*]; done)), (by first | rfl | (simp; done) | (simp [*]; done)), H', ⟨by have := HJ2.out; have := HK2.out; omega⟩, ⟨by repeat (first | (with_reducible first | exact HB.out | apply below_alloc | apply pw_below_drewN | apply below_drew1) | exact HB.out)⟩⟩
              · rw [if_neg c10] at H
                exact absurd H (by simp)
            · rw [if_neg c9] at H
              have c9b0 : decide (x7_2 < (l1.length : Int)) = false := decide_eq_false c9
              clear c9
              have H' := Aside0.mk H
              clear H
              go_wp2
              go_loopg [8, 9] k2 (fun kq v8 v9 w' => ∃ (x8_3 : Int) (x9_3 : Int), v8 = .int .i64 x8_3 ∧ v9 = .int .i64 x9_3 ∧ Aside0 (vinculumref04_Put.l1 kq a0 l1 x8_3 x9_3 = some (r1, r2)) ∧ Aside0 (kq ≤ k2) ∧ Aside0 (Below w.heap.size w w'))
              case atStart => exact ⟨(1), (0), (by first | rfl | (simp; done) | (simp [*]; done)), (by first | rfl | (simp; done) | (simp [*]; done)), H', ⟨Nat.le_refl _⟩, ⟨by repeat (first | (with_reducible first | exact HB.out | apply below_alloc | apply pw_below_drewN | apply below_drew1) | exact HB.out)⟩⟩
              case round =>
                clear H'
                try clear c1
                try clear p1
                try clear q1
                try clear hx1
                try clear c2
                try clear p2
                try clear c5
                try clear p6
                try clear c8
                try clear c9
                try clear c9b0
                try clear c10
                try clear c10b0
                try clear c11
                try clear c11b0
                try clear hx130_0
                try clear hx130_1
                try clear p130
                try clear p2
                try clear p6
                try clear q130
                obtain ⟨x8_3, x9_3, rfl, rfl, HA, HK3, HB⟩ := hrel
                cases gk with
                | zero => exact absurd HA.out (by simp [vinculumref04_Put.l1])
                | succ k3 =>
                  have H := HA.out
                  clear HA
                  simp only [vinculumref04_Put.l1] at H
                  by_cases c12 : (wrap64 (2 * x8_3)) ≤ (l1.length : Int)
                  · rw [if_pos c12] at H
                    have c12b0 : decide ((wrap64 (2 * x8_3)) ≤ (l1.length : Int)) = true := decide_eq_true c12
                    clear c12
                    have H' := Aside0.mk H
                    clear H
                    go_wp2
                    go_roundg k3
                    case measure => have := HJ2.out; have := HK2.out; have := HK3.out; omega
                    case rel => exact ⟨(wrap64 (2 * x8_3)), (wrap64 (x9_3 + 1)), (by first | rfl | (simp; done) | (simp [*]; done)), (by first | rfl | (simp; done) | (simp [*]; done)), H', ⟨by have := HJ2.out; have := HK2.out; have := HK3.out; omega⟩, ⟨by repeat (first | (with_reducible first | exact HB.out | apply below_alloc | apply pw_below_drewN | apply below_drew1) | exact HB.out)⟩⟩
                  · rw [if_neg c12] at H
                    have c12b0 : decide ((wrap64 (2 * x8_3)) ≤ (l1.length : Int)) = false := decide_eq_false c12
                    clear c12
                    have HC13 := Aside0.mk H
                    clear H
                    go_upto_if 57 with (fail)
                    go_cut [8] (fun v8 wc => ∃ (kq : Nat) (x8_12 : Int), v8 = .int .i64 x8_12 ∧ Aside0 (vinculumref04_Put.j3 kq a0 l1 x8_12 x9_3 = some (r1, r2)) ∧ Aside0 (kq ≤ k3) ∧ Aside0 (Below w.heap.size w wc))
                    case first =>
                      have H := HC13.out
                      clear HC13
                      by_cases c14 : (l1.length : Int) = 0
                      · rw [if_pos c14] at H
                        have c14b0 : ((l1.length : Int) == 0) = true := beq_iff_eq.mpr c14
                        have c14b1 : ((l1.length : Int) != 0) = false := bne_eq_false_iff_eq.mpr c14
                        clear c14
                        (first | rw [c14b0] | (simp only [i64_w, i32_w]; rw [c14b0]) | skip)
                        have H' := Aside0.mk H
                        clear H
                        go_wp2
                        go_meet
                        case rel => exact ⟨_, (0), (by first | rfl | (simp; done) | (simp [*]; done)), H', ⟨by have := HJ2.out; have := HK2.out; have := HK3.out; first | omega | exact Nat.le_refl _⟩, ⟨by repeat (first | (with_reducible first | exact HB.out | apply below_alloc | apply pw_below_drewN | apply below_drew1) | exact HB.out)⟩⟩
                      · rw [if_neg c14] at H
                        have c14b0 : ((l1.length : Int) == 0) = false := beq_eq_false_iff_ne.mpr c14
                        have c14b1 : ((l1.length : Int) != 0) = true := bne_iff_ne.mpr c14
                        have c14b2 : ¬ (l1 = []) := fun h_ => c14 (by rw [h_]; rfl)
                        (first | rw [c14b0] | (simp only [i64_w, i32_w]; rw [c14b0]) | skip)
                        have H' := Aside0.mk H
                        clear H
                        go_wp2
                        go_meet
                        case rel => exact ⟨_, (x8_3), (by first | rfl | (simp; done) | (simp [*]; done)), H', ⟨by have := HJ2.out; have := HK2.out; have := HK3.out; first | omega | exact Nat.le_refl _⟩, ⟨by repeat (first | (with_reducible first | exact HB.out | apply below_alloc | apply pw_below_drewN | apply below_drew1) | exact HB.out)⟩⟩
                    case rest =>
                      clear HC13
                      try clear c1
                      try clear p1
                      try clear q1
                      try clear hx1
                      try clear c2
                      try clear p2
                      try clear c5
                      try clear p6
                      try clear c8
                      try clear c9
                      try clear c9b0
                      try clear c10
                      try clear c10b0
                      try clear c11
                      try clear c11b0
                      try clear c12
                      try clear c12b0
                      try clear p13
                      try clear q13
                      try clear hx13
                      try clear c14
                      try clear c14b0
                      try clear c14b1
                      try clear c14b2
                      try clear hx130_0
                      try clear hx130_1
                      try clear p1
                      try clear p130
                      try clear p2
                      try clear p6
                      try clear q1
                      try clear q130
                      obtain ⟨kq, x8_12, rfl, HA, HJ12, HB⟩ := hcut
                      cases kq with
                      | zero => exact absurd HA.out (by simp [vinculumref04_Put.j3])
                      | succ kj12 =>
                        have H := HA.out
                        clear HA
                        simp only [vinculumref04_Put.j3] at H
                        replace H := Option.bind_eq_some_iff.mp H
                        obtain ⟨t131, A150, H⟩ := H
                        replace H : ((vinculumref03_Bytes.f kj12 (l1.length : Int) 2).bind fun t132 => (if t131.size + t132.size ≤ 9223372036854775807 then ((vinculumref03_Bytes.f kj12 (wrap64 (16 * x8_12)) 2).bind fun t133 => (if (t131 ++ t132).size + t133.size ≤ 9223372036854775807 then ((vinculumref03_Bytes.f kj12 x9_3 2).bind fun t134 => (if ((t131 ++ t132) ++ t133).size + t134.size ≤ 9223372036854775807 then ((vinculumref03_Bytes.f kj12 (wrap64 ((wrap64 (16 * (l1.length : Int))) - (wrap64 (16 * x8_12)))) 2).bind fun t135 => (if (((t131 ++ t132) ++ t133) ++ t134).size + t135.size ≤ 9223372036854775807 then (vinculumref04_Put.l2 kj12 l1 ((((t131 ++ t132) ++ t133) ++ t134) ++ t135) (wrap64 (12 + (wrap64 (16 * (l1.length : Int))))) (⟨#[]⟩ : ByteArray) 0) else (none))) else (none))) else (none))) else (none))) = some (r1, r2) := H
                        have A15 := Aside0.mk A150
                        clear A150
                        replace H := Option.bind_eq_some_iff.mp H
                        obtain ⟨t132, A160, H⟩ := H
                        replace H : (if t131.size + t132.size ≤ 9223372036854775807 then ((vinculumref03_Bytes.f kj12 (wrap64 (16 * x8_12)) 2).bind fun t133 => (if (t131 ++ t132).size + t133.size ≤ 9223372036854775807 then ((vinculumref03_Bytes.f kj12 x9_3 2).bind fun t134 => (if ((t131 ++ t132) ++ t133).size + t134.size ≤ 9223372036854775807 then ((vinculumref03_Bytes.f kj12 (wrap64 ((wrap64 (16 * (l1.length : Int))) - (wrap64 (16 * x8_12)))) 2).bind fun t135 => (if (((t131 ++ t132) ++ t133) ++ t134).size + t135.size ≤ 9223372036854775807 then (vinculumref04_Put.l2 kj12 l1 ((((t131 ++ t132) ++ t133) ++ t134) ++ t135) (wrap64 (12 + (wrap64 (16 * (l1.length : Int))))) (⟨#[]⟩ : ByteArray) 0) else (none))) else (none))) else (none))) else (none)) = some (r1, r2) := H
                        have A16 := Aside0.mk A160
                        clear A160
                        by_cases c17 : t131.size + t132.size ≤ 9223372036854775807
                        · rw [if_pos c17] at H
                          have c17b0 := eq_true c17
                          have c17b1 : decide (t131.size + t132.size ≤ 9223372036854775807) = true := decide_eq_true c17
                          try have c17b2 : (9223372036854775807 < t131.size + t132.size) = False := eq_false (Nat.not_lt.2 c17)
                          replace H := Option.bind_eq_some_iff.mp H
                          obtain ⟨t133, A180, H⟩ := H
                          replace H : (if (t131 ++ t132).size + t133.size ≤ 9223372036854775807 then ((vinculumref03_Bytes.f kj12 x9_3 2).bind fun t134 => (if ((t131 ++ t132) ++ t133).size + t134.size ≤ 9223372036854775807 then ((vinculumref03_Bytes.f kj12 (wrap64 ((wrap64 (16 * (l1.length : Int))) - (wrap64 (16 * x8_12)))) 2).bind fun t135 => (if (((t131 ++ t132) ++ t133) ++ t134).size + t135.size ≤ 9223372036854775807 then (vinculumref04_Put.l2 kj12 l1 ((((t131 ++ t132) ++ t133) ++ t134) ++ t135) (wrap64 (12 + (wrap64 (16 * (l1.length : Int))))) (⟨#[]⟩ : ByteArray) 0) else (none))) else (none))) else (none)) = some (r1, r2) := H
                          have A18 := Aside0.mk A180
                          clear A180
                          by_cases c19 : (t131 ++ t132).size + t133.size ≤ 9223372036854775807
                          · rw [if_pos c19] at H
                            have c19b0 := eq_true c19
                            have c19b1 : decide ((t131 ++ t132).size + t133.size ≤ 9223372036854775807) = true := decide_eq_true c19
                            try have c19b2 : (9223372036854775807 < (t131 ++ t132).size + t133.size) = False := eq_false (Nat.not_lt.2 c19)
                            try (have c19b3 := c19; simp only [ByteArray.size_append] at c19b3; replace c19b3 := eq_true c19b3)
                            try (have c19b4 := c19; simp only [ByteArray.size_append] at c19b4; replace c19b4 := eq_false (Nat.not_lt.2 c19b4))
                            replace H := Option.bind_eq_some_iff.mp H
                            obtain ⟨t134, A200, H⟩ := H
                            replace H : (if ((t131 ++ t132) ++ t133).size + t134.size ≤ 9223372036854775807 then ((vinculumref03_Bytes.f kj12 (wrap64 ((wrap64 (16 * (l1.length : Int))) - (wrap64 (16 * x8_12)))) 2).bind fun t135 => (if (((t131 ++ t132) ++ t133) ++ t134).size + t135.size ≤ 9223372036854775807 then (vinculumref04_Put.l2 kj12 l1 ((((t131 ++ t132) ++ t133) ++ t134) ++ t135) (wrap64 (12 + (wrap64 (16 * (l1.length : Int))))) (⟨#[]⟩ : ByteArray) 0) else (none))) else (none)) = some (r1, r2) := H
                            have A20 := Aside0.mk A200
                            clear A200
                            by_cases c21 : ((t131 ++ t132) ++ t133).size + t134.size ≤ 9223372036854775807
                            · rw [if_pos c21] at H
                              have c21b0 := eq_true c21
                              have c21b1 : decide (((t131 ++ t132) ++ t133).size + t134.size ≤ 9223372036854775807) = true := decide_eq_true c21
                              try have c21b2 : (9223372036854775807 < ((t131 ++ t132) ++ t133).size + t134.size) = False := eq_false (Nat.not_lt.2 c21)
                              try (have c21b3 := c21; simp only [ByteArray.size_append] at c21b3; replace c21b3 := eq_true c21b3)
                              try (have c21b4 := c21; simp only [ByteArray.size_append] at c21b4; replace c21b4 := eq_false (Nat.not_lt.2 c21b4))
                              replace H := Option.bind_eq_some_iff.mp H
                              obtain ⟨t135, A220, H⟩ := H
                              replace H : (if (((t131 ++ t132) ++ t133) ++ t134).size + t135.size ≤ 9223372036854775807 then (vinculumref04_Put.l2 kj12 l1 ((((t131 ++ t132) ++ t133) ++ t134) ++ t135) (wrap64 (12 + (wrap64 (16 * (l1.length : Int))))) (⟨#[]⟩ : ByteArray) 0) else (none)) = some (r1, r2) := H
                              have A22 := Aside0.mk A220
                              clear A220
                              by_cases c23 : (((t131 ++ t132) ++ t133) ++ t134).size + t135.size ≤ 9223372036854775807
                              · rw [if_pos c23] at H
                                have c23b0 := eq_true c23
                                have c23b1 : decide ((((t131 ++ t132) ++ t133) ++ t134).size + t135.size ≤ 9223372036854775807) = true := decide_eq_true c23
                                try have c23b2 : (9223372036854775807 < (((t131 ++ t132) ++ t133) ++ t134).size + t135.size) = False := eq_false (Nat.not_lt.2 c23)
                                try (have c23b3 := c23; simp only [ByteArray.size_append] at c23b3; replace c23b3 := eq_true c23b3)
                                try (have c23b4 := c23; simp only [ByteArray.size_append] at c23b4; replace c23b4 := eq_false (Nat.not_lt.2 c23b4))
                                have H' := Aside0.mk H
                                clear H
                                go_wp2_with (first | ((with_reducible refine gate_callee (f := 37) rfl ?_); refine goesL_ (some 59) rfl rfl Try.func37 (by kernel_rfl) rfl #[.int .i64 a0, .int .i64 4] rfl (by (try simp only [List.map_toArray, List.map_cons, List.map_nil]); first | done | rfl | (simp only [List.length_drop, List.length_take]; rfl)) ?_; (with_reducible refine (vinculumref03_Bytes.calls kj12 a0 4 t131 _ A15.out).mono ?_); rintro e w24 ⟨rfl, hb⟩; refine ⟨_, rfl, ?_⟩; have n0_ := Aside0.mk (below_step (by repeat (first | (with_reducible first | exact HB.out | apply below_alloc | apply pw_below_drewN | apply below_drew1) | exact HB.out)) hb); clear HB; have HB := n0_; clear n0_; (try clear hb); (try clear hb2); (try clear hk); (try clear hi)) | ((with_reducible refine gate_callee (f := 37) rfl ?_); refine goesL_ (some 62) rfl rfl Try.func37 (by kernel_rfl) rfl #[.int .i64 (l1.length : Int), .int .i64 2] rfl (by (try simp only [List.map_toArray, List.map_cons, List.map_nil]); first | done | rfl | (simp only [List.length_drop, List.length_take]; rfl)) ?_; (with_reducible refine (vinculumref03_Bytes.calls kj12 (l1.length : Int) 2 t132 _ A16.out).mono ?_); rintro e w25 ⟨rfl, hb⟩; refine ⟨_, rfl, ?_⟩; have n0_ := Aside0.mk (below_step (by repeat (first | (with_reducible first | exact HB.out | apply below_alloc | apply pw_below_drewN | apply below_drew1) | exact HB.out)) hb); clear HB; have HB := n0_; clear n0_; (try clear hb); (try clear hb2); (try clear hk); (try clear hi)) | ((with_reducible refine gate_callee (f := 37) rfl ?_); refine goesL_ (some 66) rfl rfl Try.func37 (by kernel_rfl) rfl #[.int .i64 (wrap64 (16 * x8_12)), .int .i64 2] rfl (by (try simp only [List.map_toArray, List.map_cons, List.map_nil]); first | done | rfl | (simp only [List.length_drop, List.length_take]; rfl)) ?_; (with_reducible refine (vinculumref03_Bytes.calls kj12 (wrap64 (16 * x8_12)) 2 t133 _ A18.out).mono ?_); rintro e w26 ⟨rfl, hb⟩; refine ⟨_, rfl, ?_⟩; have n0_ := Aside0.mk (below_step (by repeat (first | (with_reducible first | exact HB.out | apply below_alloc | apply pw_below_drewN | apply below_drew1) | exact HB.out)) hb); clear HB; have HB := n0_; clear n0_; (try clear hb); (try clear hb2); (try clear hk); (try clear hi)) | ((with_reducible refine gate_callee (f := 37) rfl ?_); refine goesL_ (some 69) rfl rfl Try.func37 (by kernel_rfl) rfl #[.int .i64 x9_3, .int .i64 2] rfl (by (try simp only [List.map_toArray, List.map_cons, List.map_nil]); first | done | rfl | (simp only [List.length_drop, List.length_take]; rfl)) ?_; (with_reducible refine (vinculumref03_Bytes.calls kj12 x9_3 2 t134 _ A20.out).mono ?_); rintro e w27 ⟨rfl, hb⟩; refine ⟨_, rfl, ?_⟩; have n0_ := Aside0.mk (below_step (by repeat (first | (with_reducible first | exact HB.out | apply below_alloc | apply pw_below_drewN | apply below_drew1) | exact HB.out)) hb); clear HB; have HB := n0_; clear n0_; (try clear hb); (try clear hb2); (try clear hk); (try clear hi)) | ((with_reducible refine gate_callee (f := 37) rfl ?_); refine goesL_ (some 77) rfl rfl Try.func37 (by kernel_rfl) rfl #[.int .i64 (wrap64 ((wrap64 (16 * (l1.length : Int))) - (wrap64 (16 * x8_12)))), .int .i64 2] rfl (by (try simp only [List.map_toArray, List.map_cons, List.map_nil]); first | done | rfl | (simp only [List.length_drop, List.length_take]; rfl)) ?_; (with_reducible refine (vinculumref03_Bytes.calls kj12 (wrap64 ((wrap64 (16 * (l1.length : Int))) - (wrap64 (16 * x8_12)))) 2 t135 _ A22.out).mono ?_); rintro e w28 ⟨rfl, hb⟩; refine ⟨_, rfl, ?_⟩; have n0_ := Aside0.mk (below_step (by repeat (first | (with_reducible first | exact HB.out | apply below_alloc | apply pw_below_drewN | apply below_drew1) | exact HB.out)) hb); clear HB; have HB := n0_; clear n0_; (try clear hb); (try clear hb2); (try clear hk); (try clear hi)))
                                go_loopg [10, 11, 12, 13] kj12 (fun kq v10 v11 v12 v13 w' => ∃ (x10_5 : ByteArray) (x11_5 : Int) (x12_5 : ByteArray) (x13_5 : Int), v10 = .string x10_5 ∧ v11 = .int .i64 x11_5 ∧ v12 = .string x12_5 ∧ v13 = .int .i64 x13_5 ∧ Aside0 (vinculumref04_Put.l2 kq l1 x10_5 x11_5 x12_5 x13_5 = some (r1, r2)) ∧ Aside0 (kq ≤ kj12) ∧ Aside0 (Below w.heap.size w w'))
                                case atStart => exact ⟨((((t131 ++ t132) ++ t133) ++ t134) ++ t135), (wrap64 (12 + (wrap64 (16 * (l1.length : Int))))), ((⟨#[]⟩ : ByteArray)), (0), (by first | rfl | (simp; done) | (simp [*]; done)), (by first | rfl | (simp; done) | (simp [*]; done)), (by first | rfl | (simp; done) | (simp [*]; done)), (by first | rfl | (simp; done) | (simp [*]; done)), H', ⟨Nat.le_refl _⟩, ⟨by repeat (first | (with_reducible first | exact HB.out | apply below_alloc | apply pw_below_drewN | apply below_drew1) | exact HB.out)⟩⟩
                                case round =>
                                  clear H'
                                  try clear c1
                                  try clear p1
                                  try clear q1
                                  try clear hx1
                                  try clear c2
                                  try clear p2
                                  try clear c3
                                  try clear c5
                                  try clear p6
                                  try clear c8
                                  try clear c9
                                  try clear c9b0
                                  try clear c10
                                  try clear c10b0
                                  try clear c11
                                  try clear c11b0
                                  try clear c12
                                  try clear c12b0
                                  try clear p13
                                  try clear q13
                                  try clear hx13
                                  try clear c14
                                  try clear c14b0
                                  try clear c14b1
                                  try clear c14b2
                                  try clear c17
                                  try clear c17b0
                                  try clear c17b1
                                  try clear c17b2
                                  try clear c19
                                  try clear c19b0
                                  try clear c19b1
                                  try clear c19b2
                                  try clear c21
                                  try clear c21b0
                                  try clear c21b1
                                  try clear c21b2
                                  try clear c23
                                  try clear c23b0
                                  try clear c23b1
                                  try clear c23b2
                                  try clear c24
                                  try clear hx130_0
                                  try clear hx130_1
                                  try clear p1
                                  try clear p13
                                  try clear p130
                                  try clear p2
                                  try clear p6
                                  try clear q1
                                  try clear q13
                                  try clear q130
                                  obtain ⟨x10_5, x11_5, x12_5, x13_5, rfl, rfl, rfl, rfl, HA, HK5, HB⟩ := hrel
                                  cases gk with
                                  | zero => exact absurd HA.out (by simp [vinculumref04_Put.l2])
                                  | succ k5 =>
                                    have H := HA.out
                                    clear HA
                                    simp only [vinculumref04_Put.l2] at H
                                    by_cases c29 : x13_5 < (l1.length : Int)
                                    · rw [if_pos c29] at H
                                      have c29b0 : decide (x13_5 < (l1.length : Int)) = true := decide_eq_true c29
                                      clear c29
                                      by_cases c30 : 0 ≤ x13_5
                                      · rw [if_pos c30] at H
                                        have c30b0 : decide (0 ≤ x13_5) = true := decide_eq_true c30
                                        clear c30
                                        by_cases c31 : x10_5.size + ((rd_T33 l1 x13_5).f0).size ≤ 9223372036854775807
                                        · rw [if_pos c31] at H
                                          have c31b0 := eq_true c31
                                          have c31b1 : decide (x10_5.size + ((rd_T33 l1 x13_5).f0).size ≤ 9223372036854775807) = true := decide_eq_true c31
                                          try have c31b2 : (9223372036854775807 < x10_5.size + ((rd_T33 l1 x13_5).f0).size) = False := eq_false (Nat.not_lt.2 c31)
                                          replace H := Option.bind_eq_some_iff.mp H
                                          obtain ⟨t139, A320, H⟩ := H
                                          replace H : ((vinculumref03_Bytes.f k5 t139 4).bind fun t140 => (if (x10_5 ++ ((rd_T33 l1 x13_5).f0)).size + t140.size ≤ 9223372036854775807 then ((vinculumref03_Bytes.f k5 x11_5 4).bind fun t141 => (if ((x10_5 ++ ((rd_T33 l1 x13_5).f0)) ++ t140).size + t141.size ≤ 9223372036854775807 then ((vinculumref03_Bytes.f k5 (((rd_T33 l1 x13_5).f1).size : Int) 4).bind fun t142 => (if (((x10_5 ++ ((rd_T33 l1 x13_5).f0)) ++ t140) ++ t141).size + t142.size ≤ 9223372036854775807 then ((vinculumref03_Up.f k5 ((rd_T33 l1 x13_5).f1) 4).bind fun t143 => (if x12_5.size + t143.size ≤ 9223372036854775807 then (vinculumref04_Put.l2 k5 l1 ((((x10_5 ++ ((rd_T33 l1 x13_5).f0)) ++ t140) ++ t141) ++ t142) (wrap64 (x11_5 + (t143.size : Int))) (x12_5 ++ t143) (wrap64 (x13_5 + 1))) else (none))) else (none))) else (none))) else (none))) = some (r1, r2) := H
                                          have A32 := Aside0.mk A320
                                          clear A320
                                          replace H := Option.bind_eq_some_iff.mp H
                                          obtain ⟨t140, A330, H⟩ := H
                                          replace H : (if (x10_5 ++ ((rd_T33 l1 x13_5).f0)).size + t140.size ≤ 9223372036854775807 then ((vinculumref03_Bytes.f k5 x11_5 4).bind fun t141 => (if ((x10_5 ++ ((rd_T33 l1 x13_5).f0)) ++ t140).size + t141.size ≤ 9223372036854775807 then ((vinculumref03_Bytes.f k5 (((rd_T33 l1 x13_5).f1).size : Int) 4).bind fun t142 => (if (((x10_5 ++ ((rd_T33 l1 x13_5).f0)) ++ t140) ++ t141).size + t142.size ≤ 9223372036854775807 then ((vinculumref03_Up.f k5 ((rd_T33 l1 x13_5).f1) 4).bind fun t143 => (if x12_5.size + t143.size ≤ 9223372036854775807 then (vinculumref04_Put.l2 k5 l1 ((((x10_5 ++ ((rd_T33 l1 x13_5).f0)) ++ t140) ++ t141) ++ t142) (wrap64 (x11_5 + (t143.size : Int))) (x12_5 ++ t143) (wrap64 (x13_5 + 1))) else (none))) else (none))) else (none))) else (none)) = some (r1, r2) := H
                                          have A33 := Aside0.mk A330
                                          clear A330
                                          by_cases c34 : (x10_5 ++ ((rd_T33 l1 x13_5).f0)).size + t140.size ≤ 9223372036854775807
                                          · rw [if_pos c34] at H
                                            have c34b0 := eq_true c34
                                            have c34b1 : decide ((x10_5 ++ ((rd_T33 l1 x13_5).f0)).size + t140.size ≤ 9223372036854775807) = true := decide_eq_true c34
                                            try have c34b2 : (9223372036854775807 < (x10_5 ++ ((rd_T33 l1 x13_5).f0)).size + t140.size) = False := eq_false (Nat.not_lt.2 c34)
                                            try (have c34b3 := c34; simp only [ByteArray.size_append] at c34b3; replace c34b3 := eq_true c34b3)
                                            try (have c34b4 := c34; simp only [ByteArray.size_append] at c34b4; replace c34b4 := eq_false (Nat.not_lt.2 c34b4))
                                            replace H := Option.bind_eq_some_iff.mp H
                                            obtain ⟨t141, A350, H⟩ := H
                                            replace H : (if ((x10_5 ++ ((rd_T33 l1 x13_5).f0)) ++ t140).size + t141.size ≤ 9223372036854775807 then ((vinculumref03_Bytes.f k5 (((rd_T33 l1 x13_5).f1).size : Int) 4).bind fun t142 => (if (((x10_5 ++ ((rd_T33 l1 x13_5).f0)) ++ t140) ++ t141).size + t142.size ≤ 9223372036854775807 then ((vinculumref03_Up.f k5 ((rd_T33 l1 x13_5).f1) 4).bind fun t143 => (if x12_5.size + t143.size ≤ 9223372036854775807 then (vinculumref04_Put.l2 k5 l1 ((((x10_5 ++ ((rd_T33 l1 x13_5).f0)) ++ t140) ++ t141) ++ t142) (wrap64 (x11_5 + (t143.size : Int))) (x12_5 ++ t143) (wrap64 (x13_5 + 1))) else (none))) else (none))) else (none)) = some (r1, r2) := H
                                            have A35 := Aside0.mk A350
                                            clear A350
                                            by_cases c36 : ((x10_5 ++ ((rd_T33 l1 x13_5).f0)) ++ t140).size + t141.size ≤ 9223372036854775807
                                            · rw [if_pos c36] at H
                                              have c36b0 := eq_true c36
                                              have c36b1 : decide (((x10_5 ++ ((rd_T33 l1 x13_5).f0)) ++ t140).size + t141.size ≤ 9223372036854775807) = true := decide_eq_true c36
                                              try have c36b2 : (9223372036854775807 < ((x10_5 ++ ((rd_T33 l1 x13_5).f0)) ++ t140).size + t141.size) = False := eq_false (Nat.not_lt.2 c36)
                                              try (have c36b3 := c36; simp only [ByteArray.size_append] at c36b3; replace c36b3 := eq_true c36b3)
                                              try (have c36b4 := c36; simp only [ByteArray.size_append] at c36b4; replace c36b4 := eq_false (Nat.not_lt.2 c36b4))
                                              replace H := Option.bind_eq_some_iff.mp H
                                              obtain ⟨t142, A370, H⟩ := H
                                              replace H : (if (((x10_5 ++ ((rd_T33 l1 x13_5).f0)) ++ t140) ++ t141).size + t142.size ≤ 9223372036854775807 then ((vinculumref03_Up.f k5 ((rd_T33 l1 x13_5).f1) 4).bind fun t143 => (if x12_5.size + t143.size ≤ 9223372036854775807 then (vinculumref04_Put.l2 k5 l1 ((((x10_5 ++ ((rd_T33 l1 x13_5).f0)) ++ t140) ++ t141) ++ t142) (wrap64 (x11_5 + (t143.size : Int))) (x12_5 ++ t143) (wrap64 (x13_5 + 1))) else (none))) else (none)) = some (r1, r2) := H
                                              have A37 := Aside0.mk A370
                                              clear A370
                                              by_cases c38 : (((x10_5 ++ ((rd_T33 l1 x13_5).f0)) ++ t140) ++ t141).size + t142.size ≤ 9223372036854775807
                                              · rw [if_pos c38] at H
                                                have c38b0 := eq_true c38
                                                have c38b1 : decide ((((x10_5 ++ ((rd_T33 l1 x13_5).f0)) ++ t140) ++ t141).size + t142.size ≤ 9223372036854775807) = true := decide_eq_true c38
                                                try have c38b2 : (9223372036854775807 < (((x10_5 ++ ((rd_T33 l1 x13_5).f0)) ++ t140) ++ t141).size + t142.size) = False := eq_false (Nat.not_lt.2 c38)
                                                try (have c38b3 := c38; simp only [ByteArray.size_append] at c38b3; replace c38b3 := eq_true c38b3)
                                                try (have c38b4 := c38; simp only [ByteArray.size_append] at c38b4; replace c38b4 := eq_false (Nat.not_lt.2 c38b4))
                                                replace H := Option.bind_eq_some_iff.mp H
                                                obtain ⟨t143, A390, H⟩ := H
                                                replace H : (if x12_5.size + t143.size ≤ 9223372036854775807 then (vinculumref04_Put.l2 k5 l1 ((((x10_5 ++ ((rd_T33 l1 x13_5).f0)) ++ t140) ++ t141) ++ t142) (wrap64 (x11_5 + (t143.size : Int))) (x12_5 ++ t143) (wrap64 (x13_5 + 1))) else (none)) = some (r1, r2) := H
                                                have A39 := Aside0.mk A390
                                                clear A390
                                                by_cases c40 : x12_5.size + t143.size ≤ 9223372036854775807
                                                · rw [if_pos c40] at H
                                                  have c40b0 := eq_true c40
                                                  have c40b1 : decide (x12_5.size + t143.size ≤ 9223372036854775807) = true := decide_eq_true c40
                                                  try have c40b2 : (9223372036854775807 < x12_5.size + t143.size) = False := eq_false (Nat.not_lt.2 c40)
                                                  have H' := Aside0.mk H
                                                  clear H
                                                  have p136 : 0 ≤ (x13_5 : Int) := of_decide_eq_true (by first | (with_reducible assumption) | assumption)
                                                  have q136 : x13_5 < (l1.length : Int) := of_decide_eq_true (by first | (with_reducible assumption) | assumption)
                                                  obtain ⟨ad136, e136, hx136_0, hx136_1⟩ := at_T33 HR1.out x13_5 p136 q136
                                                  cases e136
                                                  replace hx136_0 := (HB.out.cell (World.block_lt_of_cell? w _ hx136_0)).trans hx136_0
                                                  replace hx136_1 := (HB.out.cell (World.block_lt_of_cell? w _ hx136_1)).trans hx136_1
                                                  replace p136 := eq_true p136
                                                  replace q136 := eq_true q136
                                                  try go_wp2
                                                  have n0_ := Aside0.mk (below_drew1 HB.out)
                                                  clear HB
                                                  have HB := n0_
                                                  clear n0_
                                                  have p137 : 0 ≤ (x13_5 : Int) := of_decide_eq_true (by first | (with_reducible assumption) | assumption)
                                                  have q137 : x13_5 < (l1.length : Int) := of_decide_eq_true (by first | (with_reducible assumption) | assumption)
                                                  obtain ⟨ad137, e137, hx137_0, hx137_1⟩ := at_T33 HR1.out x13_5 p137 q137
                                                  have hw137_1 := hx137_1
                                                  have hw137_0 := hx137_0
                                                  obtain rfl : ad136 = ad137 := (by injection e137)
                                                  replace hx137_0 := (HB.out.cell (World.block_lt_of_cell? w _ hx137_0)).trans hx137_0
                                                  replace hx137_1 := (HB.out.cell (World.block_lt_of_cell? w _ hx137_1)).trans hx137_1
                                                  replace p137 := eq_true p137
                                                  replace q137 := eq_true q137
                                                  have p138 : 0 ≤ (x13_5 : Int) := of_decide_eq_true (by first | (with_reducible assumption) | assumption)
                                                  have q138 : x13_5 < (l1.length : Int) := of_decide_eq_true (by first | (with_reducible assumption) | assumption)
                                                  obtain ⟨ad138, e138, hx138_0, hx138_1⟩ := at_T33 HR1.out x13_5 p138 q138
                                                  have hw138_1 := hx138_1
                                                  have hw138_0 := hx138_0
                                                  obtain rfl : ad136 = ad138 := (by injection e138)
                                                  replace hx138_0 := (HB.out.cell (World.block_lt_of_cell? w _ hx138_0)).trans hx138_0
                                                  replace hx138_1 := (HB.out.cell (World.block_lt_of_cell? w _ hx138_1)).trans hx138_1
                                                  replace p138 := eq_true p138
                                                  replace q138 := eq_true q138
                                                  refine start_ (n := 22) (S := fun w' => w'.cell? (ad136.add ((x13_5).toNat * 2)) = some (.string ((rd_T33 l1 x13_5).f0)) ∧ w'.cell? ⟨(ad136.add ((x13_5).toNat * 2)).block, (ad136.add ((x13_5).toNat * 2)).off + 1, none⟩ = some (.string ((rd_T33 l1 x13_5).f1)) ∧ w'.cell? (ad136.add ((x13_5).toNat * 2)) = some (.string ((rd_T33 l1 x13_5).f0)) ∧ w'.cell? ⟨(ad136.add ((x13_5).toNat * 2)).block, (ad136.add ((x13_5).toNat * 2)).off + 1, none⟩ = some (.string ((rd_T33 l1 x13_5).f1))) (ds := []) #[false, false, false, false, false, false, false, false, false, false, false, false, false, false, false, false, false, false, false, false, false, false] (by kernel_rfl) rfl rfl ⟨((HB.out.cell (World.block_lt_of_cell? w _ hw137_0)).trans hw137_0), ((HB.out.cell (World.block_lt_of_cell? w _ hw137_1)).trans hw137_1), ((HB.out.cell (World.block_lt_of_cell? w _ hw138_0)).trans hw138_0), ((HB.out.cell (World.block_lt_of_cell? w _ hw138_1)).trans hw138_1)⟩ (fun hHeld => ?_); refine with_tabW vinculumref04_Put.tab24 vinculumref04_Put.bits24 (fun HT_ HW_ => ?_)
                                                  generalize wr.drew = w41 at HB hx137_0 hx137_1 hx138_0 hx138_1 hHeld ⊢
                                                  refine pure_ (i := 0) (N := some 94) (v := ?_) (a' := ?_) #[true, false, false, false, false, false, false, false, false, false, false, false, false, false, false, false, false, false, false, false, false, false] rfl rfl (any_of HT_.out (by kernel_rfl)) (fun _ _ _ h => h) (Or.inl ⟨by rfl, ?_⟩) ?_ ?_
                                                  rotate_left
                                                  · intro w'
                                                    go_simp
                                                    with_reducible rfl
                                                  rotate_left
                                                  · simp only [Act.put, List.setIfInBounds_toArray, List.set_cons_zero, List.set_cons_succ, i64_w, i32_w]
                                                    rfl
                                                  refine pure_ (i := 1) (N := some 95) (v := ?_) (a' := ?_) #[true, true, false, false, false, false, false, false, false, false, false, false, false, false, false, false, false, false, false, false, false, false] rfl rfl (any_of HT_.out (by kernel_rfl)) (fun _ _ _ h => h) (Or.inl ⟨by rfl, ?_⟩) ?_ ?_
                                                  rotate_left
                                                  · intro w'
                                                    go_simp
                                                    with_reducible rfl
                                                  rotate_left
                                                  · simp only [Act.put, List.setIfInBounds_toArray, List.set_cons_zero, List.set_cons_succ, i64_w, i32_w]
                                                    rfl
                                                  refine pure_ (i := 2) (N := some 96) (v := ?_) (a' := ?_) #[true, true, true, false, false, false, false, false, false, false, false, false, false, false, false, false, false, false, false, false, false, false] rfl rfl (any_of HT_.out (by kernel_rfl)) (fun _ _ _ h => h) (Or.inl ⟨by rfl, ?_⟩) ?_ ?_
                                                  rotate_left
                                                  · intro w'
                                                    go_simp
                                                    with_reducible rfl
                                                  rotate_left
                                                  · simp only [Act.put, List.setIfInBounds_toArray, List.set_cons_zero, List.set_cons_succ, i64_w, i32_w]
                                                    rfl
                                                  refine pure_ (i := 3) (N := some 97) (v := ?_) (a' := ?_) #[true, true, true, true, false, false, false, false, false, false, false, false, false, false, false, false, false, false, false, false, false, false] rfl rfl (any_of HT_.out (by kernel_rfl)) (fun _ _ _ h => h) (Or.inl ⟨by rfl, ?_⟩) ?_ ?_
                                                  rotate_left
                                                  · intro w'
                                                    go_simp
                                                    with_reducible rfl
                                                  rotate_left
                                                  · simp only [Act.put, List.setIfInBounds_toArray, List.set_cons_zero, List.set_cons_succ, i64_w, i32_w]
                                                    rfl
                                                  refine pure_ (i := 4) (N := some 98) (v := ?_) (a' := ?_) #[true, true, true, true, true, false, false, false, false, false, false, false, false, false, false, false, false, false, false, false, false, false] rfl rfl (any_of HT_.out (by kernel_rfl)) (fun _ _ _ h => h) (Or.inl ⟨by rfl, ?_⟩) ?_ ?_
                                                  rotate_left
                                                  · intro w'
                                                    go_simp
                                                    with_reducible rfl
                                                  rotate_left
                                                  · simp only [Act.put, List.setIfInBounds_toArray, List.set_cons_zero, List.set_cons_succ, i64_w, i32_w]
                                                    rfl
                                                  refine pure_ (i := 7) (N := some 101) (v := ?_) (a' := ?_) #[true, true, true, true, true, false, false, true, false, false, false, false, false, false, false, false, false, false, false, false, false, false] rfl rfl (any_of HT_.out (by kernel_rfl)) (fun _ _ _ h => h) (Or.inl ⟨by rfl, ?_⟩) ?_ ?_
                                                  rotate_left
                                                  · intro w'
                                                    go_simp
                                                    with_reducible rfl
                                                  rotate_left
                                                  · simp only [Act.put, List.setIfInBounds_toArray, List.set_cons_zero, List.set_cons_succ, i64_w, i32_w]
                                                    rfl
                                                  refine pure_ (i := 8) (N := some 102) (v := ?_) (a' := ?_) #[true, true, true, true, true, false, false, true, true, false, false, false, false, false, false, false, false, false, false, false, false, false] rfl rfl (any_of HT_.out (by kernel_rfl)) (fun _ _ _ h => h) (Or.inl ⟨by rfl, ?_⟩) ?_ ?_
                                                  rotate_left
                                                  · intro w'
                                                    go_simp
                                                    with_reducible rfl
                                                  rotate_left
                                                  · simp only [Act.put, List.setIfInBounds_toArray, List.set_cons_zero, List.set_cons_succ, i64_w, i32_w]
                                                    rfl
                                                  refine pure_ (i := 9) (N := some 103) (v := ?_) (a' := ?_) #[true, true, true, true, true, false, false, true, true, true, false, false, false, false, false, false, false, false, false, false, false, false] rfl rfl (any_of HT_.out (by kernel_rfl)) (fun _ _ _ h => h) (Or.inl ⟨by rfl, ?_⟩) ?_ ?_
                                                  rotate_left
                                                  · intro w'
                                                    go_simp
                                                    with_reducible rfl
                                                  rotate_left
                                                  · simp only [Act.put, List.setIfInBounds_toArray, List.set_cons_zero, List.set_cons_succ, i64_w, i32_w]
                                                    rfl
                                                  refine pure_ (i := 14) (N := some 108) (v := ?_) (a' := ?_) #[true, true, true, true, true, false, false, true, true, true, false, false, false, false, true, false, false, false, false, false, false, false] rfl rfl (any_of HT_.out (by kernel_rfl)) (fun _ _ _ h => h) (Or.inl ⟨by rfl, ?_⟩) ?_ ?_
                                                  rotate_left
                                                  · intro w'
                                                    go_simp
                                                    with_reducible rfl
                                                  rotate_left
                                                  · simp only [Act.put, List.setIfInBounds_toArray, List.set_cons_zero, List.set_cons_succ, i64_w, i32_w]
                                                    rfl
                                                  refine pure_ (i := 17) (N := some 111) (v := ?_) (a' := ?_) #[true, true, true, true, true, false, false, true, true, true, false, false, false, false, true, false, false, true, false, false, false, false] rfl rfl (any_of HT_.out (by kernel_rfl)) (fun _ _ _ h => h) (Or.inl ⟨by rfl, ?_⟩) ?_ ?_
                                                  rotate_left
                                                  · intro w'
                                                    go_simp
                                                    with_reducible rfl
                                                  rotate_left
                                                  · simp only [Act.put, List.setIfInBounds_toArray, List.set_cons_zero, List.set_cons_succ, i64_w, i32_w]
                                                    rfl
                                                  refine pure_ (i := 18) (N := some 112) (v := ?_) (a' := ?_) #[true, true, true, true, true, false, false, true, true, true, false, false, false, false, true, false, false, true, true, false, false, false] rfl rfl (any_of HT_.out (by kernel_rfl)) (fun _ _ _ h => h) (Or.inl ⟨by rfl, ?_⟩) ?_ ?_
                                                  rotate_left
                                                  · intro w'
                                                    go_simp
                                                    with_reducible rfl
                                                  rotate_left
                                                  · simp only [Act.put, List.setIfInBounds_toArray, List.set_cons_zero, List.set_cons_succ, i64_w, i32_w]
                                                    rfl
                                                  refine take_ (i := 5) (N := some 99) (v := ?_) (a' := ?_) #[true, true, true, true, true, true, false, true, true, true, false, false, false, false, true, false, false, true, true, false, false, false] rfl rfl (take_ofW HT_.out HW_.out (by kernel_rfl)) (fun _ _ _ h => h) (Or.inl ⟨by rfl, ?_⟩) hHeld ?_ ?_
                                                  rotate_left
                                                  · rintro w' ⟨s0, s1, s2, s3⟩
                                                    go_simp
                                                    with_reducible rfl
                                                  rotate_left
                                                  · simp only [Act.put, List.setIfInBounds_toArray, List.set_cons_zero, List.set_cons_succ, i64_w, i32_w]
                                                    rfl
                                                  refine pure_ (i := 6) (N := some 100) (v := ?_) (a' := ?_) #[true, true, true, true, true, true, true, true, true, true, false, false, false, false, true, false, false, true, true, false, false, false] rfl rfl (any_of HT_.out (by kernel_rfl)) (fun _ _ _ h => h) (Or.inl ⟨by rfl, ?_⟩) ?_ ?_
                                                  rotate_left
                                                  · intro w'
                                                    go_simp
                                                    with_reducible rfl
                                                  rotate_left
                                                  · simp only [Act.put, List.setIfInBounds_toArray, List.set_cons_zero, List.set_cons_succ, i64_w, i32_w]
                                                    rfl
                                                  refine take_ (i := 10) (N := some 104) (v := ?_) (a' := ?_) #[true, true, true, true, true, true, true, true, true, true, true, false, false, false, true, false, false, true, true, false, false, false] rfl rfl (take_ofW HT_.out HW_.out (by kernel_rfl)) (fun _ _ _ h => h) (Or.inl ⟨by rfl, ?_⟩) hHeld ?_ ?_
                                                  rotate_left
                                                  · rintro w' ⟨s0, s1, s2, s3⟩
                                                    go_simp
                                                    with_reducible rfl
                                                  rotate_left
                                                  · simp only [Act.put, List.setIfInBounds_toArray, List.set_cons_zero, List.set_cons_succ, i64_w, i32_w]
                                                    rfl
                                                  refine one_ (i := 11) (N := some 105) #[true, true, true, true, true, true, true, true, true, true, true, true, false, false, true, false, false, true, true, false, false, false] rfl rfl (one_of HT_.out (by kernel_rfl)) (by decide) (fun K hK => ?_)
                                                  refine goes_ Try.func16 (by kernel_rfl) rfl #[.agg #[.string ((rd_T33 l1 x13_5).f0), .string ((rd_T33 l1 x13_5).f1)]] (by rfl) rfl rfl (by (try simp only [List.map_toArray, List.map_cons, List.map_nil]); first | done | rfl | (simp only [List.length_drop, List.length_take]; rfl)) ?_
                                                  with_reducible refine (vinculumref04_Sum.calls k5 ((rd_T33 l1 x13_5).f0) ((rd_T33 l1 x13_5).f1) t139 _ A32.out).mono ?_
                                                  rintro e w42 ⟨rfl, hb⟩
                                                  refine ⟨_, rfl, ?_⟩
                                                  have n0_ := Aside0.mk (below_step (by repeat (first | (with_reducible first | exact HB.out | apply below_alloc | apply pw_below_drewN | apply below_drew1) | exact HB.out)) hb)
                                                  clear HB
                                                  have HB := n0_
                                                  clear n0_
                                                  (try clear hb)
                                                  (try clear hb2)
                                                  (try clear hk)
                                                  (try clear hi)
                                                  refine hK.out _ _ ⟨((HB.out.cell (World.block_lt_of_cell? w _ hw137_0)).trans hw137_0), ((HB.out.cell (World.block_lt_of_cell? w _ hw137_1)).trans hw137_1), ((HB.out.cell (World.block_lt_of_cell? w _ hw138_0)).trans hw138_0), ((HB.out.cell (World.block_lt_of_cell? w _ hw138_1)).trans hw138_1)⟩ (fun hHeld => ?_)
                                                  clear hK K
                                                  refine norm_ (a' := ?_) ?_ ?_
                                                  rotate_left
                                                  · show Act.put _ (some 105) _ = _
                                                    simp only [Act.put, List.setIfInBounds_toArray, List.set_cons_zero, List.set_cons_succ, i64_w, i32_w]
                                                    rfl
                                                  refine one_ (i := 12) (N := some 106) #[true, true, true, true, true, true, true, true, true, true, true, true, true, false, true, false, false, true, true, false, false, false] rfl rfl (one_of HT_.out (by kernel_rfl)) (by decide) (fun K hK => ?_)
                                                  refine goes_ Try.func37 (by kernel_rfl) rfl #[.int .i64 t139, .int .i64 4] (by rfl) rfl rfl (by (try simp only [List.map_toArray, List.map_cons, List.map_nil]); first | done | rfl | (simp only [List.length_drop, List.length_take]; rfl)) ?_
                                                  with_reducible refine (vinculumref03_Bytes.calls k5 t139 4 t140 _ A33.out).mono ?_
                                                  rintro e w43 ⟨rfl, hb⟩
                                                  refine ⟨_, rfl, ?_⟩
                                                  have n0_ := Aside0.mk (below_step (by repeat (first | (with_reducible first | exact HB.out | apply below_alloc | apply pw_below_drewN | apply below_drew1) | exact HB.out)) hb)
                                                  clear HB
                                                  have HB := n0_
                                                  clear n0_
                                                  (try clear hb)
                                                  (try clear hb2)
                                                  (try clear hk)
                                                  (try clear hi)
                                                  refine hK.out _ _ ⟨((HB.out.cell (World.block_lt_of_cell? w _ hw137_0)).trans hw137_0), ((HB.out.cell (World.block_lt_of_cell? w _ hw137_1)).trans hw137_1), ((HB.out.cell (World.block_lt_of_cell? w _ hw138_0)).trans hw138_0), ((HB.out.cell (World.block_lt_of_cell? w _ hw138_1)).trans hw138_1)⟩ (fun hHeld => ?_)
                                                  clear hK K
                                                  refine norm_ (a' := ?_) ?_ ?_
                                                  rotate_left
                                                  · show Act.put _ (some 106) _ = _
                                                    simp only [Act.put, List.setIfInBounds_toArray, List.set_cons_zero, List.set_cons_succ, i64_w, i32_w]
                                                    rfl
                                                  refine pure_ (i := 13) (N := some 107) (v := ?_) (a' := ?_) #[true, true, true, true, true, true, true, true, true, true, true, true, true, true, true, false, false, true, true, false, false, false] rfl rfl (any_of HT_.out (by kernel_rfl)) (fun _ _ _ h => h) (Or.inl ⟨by rfl, ?_⟩) ?_ ?_
                                                  rotate_left
                                                  · intro w'
                                                    go_simp
                                                    with_reducible rfl
                                                  rotate_left
                                                  · simp only [Act.put, List.setIfInBounds_toArray, List.set_cons_zero, List.set_cons_succ, i64_w, i32_w]
                                                    rfl
                                                  refine one_ (i := 15) (N := some 109) #[true, true, true, true, true, true, true, true, true, true, true, true, true, true, true, true, false, true, true, false, false, false] rfl rfl (one_of HT_.out (by kernel_rfl)) (by decide) (fun K hK => ?_)
                                                  refine goes_ Try.func37 (by kernel_rfl) rfl #[.int .i64 x11_5, .int .i64 4] (by rfl) rfl rfl (by (try simp only [List.map_toArray, List.map_cons, List.map_nil]); first | done | rfl | (simp only [List.length_drop, List.length_take]; rfl)) ?_
                                                  with_reducible refine (vinculumref03_Bytes.calls k5 x11_5 4 t141 _ A35.out).mono ?_
                                                  rintro e w44 ⟨rfl, hb⟩
                                                  refine ⟨_, rfl, ?_⟩
                                                  have n0_ := Aside0.mk (below_step (by repeat (first | (with_reducible first | exact HB.out | apply below_alloc | apply pw_below_drewN | apply below_drew1) | exact HB.out)) hb)
                                                  clear HB
                                                  have HB := n0_
                                                  clear n0_
                                                  (try clear hb)
                                                  (try clear hb2)
                                                  (try clear hk)
                                                  (try clear hi)
                                                  refine hK.out _ _ ⟨((HB.out.cell (World.block_lt_of_cell? w _ hw137_0)).trans hw137_0), ((HB.out.cell (World.block_lt_of_cell? w _ hw137_1)).trans hw137_1), ((HB.out.cell (World.block_lt_of_cell? w _ hw138_0)).trans hw138_0), ((HB.out.cell (World.block_lt_of_cell? w _ hw138_1)).trans hw138_1)⟩ (fun hHeld => ?_)
                                                  clear hK K
                                                  refine norm_ (a' := ?_) ?_ ?_
                                                  rotate_left
                                                  · show Act.put _ (some 109) _ = _
                                                    simp only [Act.put, List.setIfInBounds_toArray, List.set_cons_zero, List.set_cons_succ, i64_w, i32_w]
                                                    rfl
                                                  refine pure_ (i := 16) (N := some 110) (v := ?_) (a' := ?_) #[true, true, true, true, true, true, true, true, true, true, true, true, true, true, true, true, true, true, true, false, false, false] rfl rfl (any_of HT_.out (by kernel_rfl)) (fun _ _ _ h => h) (Or.inl ⟨by rfl, ?_⟩) ?_ ?_
                                                  rotate_left
                                                  · intro w'
                                                    go_simp
                                                    with_reducible rfl
                                                  rotate_left
                                                  · simp only [Act.put, List.setIfInBounds_toArray, List.set_cons_zero, List.set_cons_succ, i64_w, i32_w]
                                                    rfl
                                                  refine one_ (i := 19) (N := some 113) #[true, true, true, true, true, true, true, true, true, true, true, true, true, true, true, true, true, true, true, true, false, false] rfl rfl (one_of HT_.out (by kernel_rfl)) (by decide) (fun K hK => ?_)
                                                  refine goes_ Try.func37 (by kernel_rfl) rfl #[.int .i64 (((rd_T33 l1 x13_5).f1).size : Int), .int .i64 4] (by rfl) rfl rfl (by (try simp only [List.map_toArray, List.map_cons, List.map_nil]); first | done | rfl | (simp only [List.length_drop, List.length_take]; rfl)) ?_
                                                  with_reducible refine (vinculumref03_Bytes.calls k5 (((rd_T33 l1 x13_5).f1).size : Int) 4 t142 _ A37.out).mono ?_
                                                  rintro e w45 ⟨rfl, hb⟩
                                                  refine ⟨_, rfl, ?_⟩
                                                  have n0_ := Aside0.mk (below_step (by repeat (first | (with_reducible first | exact HB.out | apply below_alloc | apply pw_below_drewN | apply below_drew1) | exact HB.out)) hb)
                                                  clear HB
                                                  have HB := n0_
                                                  clear n0_
                                                  (try clear hb)
                                                  (try clear hb2)
                                                  (try clear hk)
                                                  (try clear hi)
                                                  refine hK.out _ _ ⟨((HB.out.cell (World.block_lt_of_cell? w _ hw137_0)).trans hw137_0), ((HB.out.cell (World.block_lt_of_cell? w _ hw137_1)).trans hw137_1), ((HB.out.cell (World.block_lt_of_cell? w _ hw138_0)).trans hw138_0), ((HB.out.cell (World.block_lt_of_cell? w _ hw138_1)).trans hw138_1)⟩ (fun hHeld => ?_)
                                                  clear hK K
                                                  refine norm_ (a' := ?_) ?_ ?_
                                                  rotate_left
                                                  · show Act.put _ (some 113) _ = _
                                                    simp only [Act.put, List.setIfInBounds_toArray, List.set_cons_zero, List.set_cons_succ, i64_w, i32_w]
                                                    rfl
                                                  refine pure_ (i := 20) (N := some 114) (v := ?_) (a' := ?_) #[true, true, true, true, true, true, true, true, true, true, true, true, true, true, true, true, true, true, true, true, true, false] rfl rfl (any_of HT_.out (by kernel_rfl)) (fun _ _ _ h => h) (Or.inl ⟨by rfl, ?_⟩) ?_ ?_
                                                  rotate_left
                                                  · intro w'
                                                    go_simp
                                                    with_reducible rfl
                                                  rotate_left
                                                  · simp only [Act.put, List.setIfInBounds_toArray, List.set_cons_zero, List.set_cons_succ, i64_w, i32_w]
                                                    rfl
                                                  refine pure_ (i := 21) (N := some 10) (v := ?_) (a' := ?_) #[true, true, true, true, true, true, true, true, true, true, true, true, true, true, true, true, true, true, true, true, true, true] rfl rfl (any_of HT_.out (by kernel_rfl)) (fun _ _ _ h => h) (Or.inl ⟨by rfl, ?_⟩) ?_ ?_
                                                  rotate_left
                                                  · intro w'
                                                    go_simp
                                                    with_reducible rfl
                                                  rotate_left
                                                  · simp only [Act.put, List.setIfInBounds_toArray, List.set_cons_zero, List.set_cons_succ, i64_w, i32_w]
                                                    rfl
                                                  refine done_ (done_of HT_.out (by kernel_rfl)) ?_
                                                  try go_wp2_with (first | ((with_reducible refine gate_callee (f := 38) rfl ?_); refine goesL_ (some 116) rfl rfl Try.func38 (by kernel_rfl) rfl #[.string ((rd_T33 l1 x13_5).f1), .int .i64 4] rfl (by (try simp only [List.map_toArray, List.map_cons, List.map_nil]); first | done | rfl | (simp only [List.length_drop, List.length_take]; rfl)) ?_; (with_reducible refine (vinculumref03_Up.calls k5 ((rd_T33 l1 x13_5).f1) 4 t143 _ A39.out).mono ?_); rintro e w' ⟨rfl, ⟨nd, rfl⟩⟩; refine ⟨_, rfl, ?_⟩))
                                                  go_roundg k5
                                                  case measure => have := HJ2.out; have := HK2.out; have := HK3.out; have := HJ12.out; have := HK5.out; omega
                                                  case rel => exact ⟨((((x10_5 ++ ((rd_T33 l1 x13_5).f0)) ++ t140) ++ t141) ++ t142), (wrap64 (x11_5 + (t143.size : Int))), (x12_5 ++ t143), (wrap64 (x13_5 + 1)), (by first | rfl | (simp; done) | (simp [*]; done)), (by first | rfl | (simp; done) | (simp [*]; done)), (by first | rfl | (simp; done) | (simp [*]; done)), (by first | rfl | (simp; done) | (simp [*]; done)), H', ⟨by have := HJ2.out; have := HK2.out; have := HK3.out; have := HJ12.out; have := HK5.out; omega⟩, ⟨by repeat (first | (with_reducible first | exact HB.out | apply below_alloc | apply pw_below_drewN | apply below_drew1) | exact HB.out)⟩⟩
                                                · rw [if_neg c40] at H
                                                  exact absurd H (by simp)
                                              · rw [if_neg c38] at H
                                                exact absurd H (by simp)
                                            · rw [if_neg c36] at H
                                              exact absurd H (by simp)
                                          · rw [if_neg c34] at H
                                            exact absurd H (by simp)
                                        · rw [if_neg c31] at H
                                          exact absurd H (by simp)
                                      · rw [if_neg c30] at H
                                        exact absurd H (by simp)
                                    · rw [if_neg c29] at H
                                      have c29b0 : decide (x13_5 < (l1.length : Int)) = false := decide_eq_false c29
                                      clear c29
                                      by_cases c46 : x10_5.size + x12_5.size ≤ 9223372036854775807
                                      · rw [if_pos c46] at H
                                        have c46b0 := eq_true c46
                                        have c46b1 : decide (x10_5.size + x12_5.size ≤ 9223372036854775807) = true := decide_eq_true c46
                                        try have c46b2 : (9223372036854775807 < x10_5.size + x12_5.size) = False := eq_false (Nat.not_lt.2 c46)
                                        simp only [Option.some.injEq, Prod.mk.injEq] at H
                                        obtain ⟨rfl, rfl⟩ := H
                                        go_wp2
                                        go_ret2
                                        exact ⟨by first | rfl | (simp [errW_none, errW_some] <;> rfl) | (simp [*, errW_none, errW_some] <;> rfl), by repeat (first | (with_reducible first | exact HB.out | apply below_alloc | apply pw_below_drewN | apply below_drew1) | exact HB.out)⟩
                                      · rw [if_neg c46] at H
                                        exact absurd H (by simp)
                              · rw [if_neg c23] at H
                                exact absurd H (by simp)
                            · rw [if_neg c21] at H
                              exact absurd H (by simp)
                          · rw [if_neg c19] at H
                            exact absurd H (by simp)
                        · rw [if_neg c17] at H
                          exact absurd H (by simp)

end Go.Proofs.Ytgchajlfopmcjaa.P
