/- Each theorem here says that a call of one Go function ends with what the plain function of that name answers (printed by a program of this session); a law's row says that the law returns true for every input. No condition. -/
import Derived.Test.YtipbcjegigonjaaPx0
import Derived.Test.YtipbcjegigonjaaPx2
import Derived.Test.YtipbcjegigonjaaPx6
namespace Go.Proofs.Ytipbcjegigonjaa.P
open Go.RowKit Go.Proofs.YtipbcjegigonjaaW.PrintWords Go.Proofs.YtipbcjegigonjaaW.PrintLast Go.Proofs.YtipbcjegigonjaaW.PrintMore
attribute [local go_sem] max2_int min2_int max_two min_two max_three min_three max_four min_four   -- for this text's walks alone
set_option linter.unusedVariables false
set_option linter.unusedSimpArgs false

/-! ### vinculumref03_Pad: function 22 -/
def vinculumref03_Pad.f (k : Nat) (a0 : ByteArray) (a1 : Int) : Option (ByteArray × Int) := if a1 < 1 then (some ((⟨#[]⟩ : ByteArray), 1)) else (if a1 > 64 then (some ((⟨#[]⟩ : ByteArray), 1)) else ((vinculumref03_Up.f k a0 a1).bind fun t135 => (some (t135, 0))))
theorem vinculumref03_Pad.mono : ∀ a0 a1 k, LeO (vinculumref03_Pad.f k a0 a1) (vinculumref03_Pad.f (k + 1) a0 a1) := by
  intro a0 a1 k
  unfold vinculumref03_Pad.f
  repeat' first
      | (with_reducible exact vinculumref03_Up.mono _ _ _)
      | (with_reducible exact LeO.refl _)
      | (with_reducible exact LeO.none _)
      | (with_reducible refine LeO.ite ?_ ?_)
      | (with_reducible refine LeO.bind ?_ (fun _ => ?_))
      | exact vinculumref03_Up.mono _ _ _
      | exact LeO.none _
      | refine LeO.ite ?_ ?_
      | refine LeO.bind ?_ (fun _ => ?_)
set_option maxHeartbeats 8000000 in
set_option maxRecDepth 100000 in
theorem vinculumref03_Pad.calls (k : Nat) (a0 : ByteArray) (a1 : Int) (r1 : ByteArray) (r2 : Int) (w : World) (h : vinculumref03_Pad.f k a0 a1 = some (r1, r2)) :
    Calls Try.prog 22 #[.string a0, .int .i64 a1] w fun e w' => e = .returned (.tuple #[.string r1, .int .i64 r2]) ∧ Drawn0 w w' := by
  have H : (if a1 < 1 then (some ((⟨#[]⟩ : ByteArray), 1)) else (if a1 > 64 then (some ((⟨#[]⟩ : ByteArray), 1)) else ((vinculumref03_Up.f k a0 a1).bind fun t135 => (some (t135, 0))))) = some (r1, r2) := h
  clear h
  by_cases c3 : a1 < 1
  · rw [if_pos c3] at H
    have c3b0 : decide (a1 < 1) = true := decide_eq_true c3
    clear c3
    simp only [Option.some.injEq, Prod.mk.injEq] at H
    obtain ⟨rfl, rfl⟩ := H
    go_enter Try.func22, Try.ntmps22
    go_wp2
    go_ret2
    exact ⟨by first | rfl | (simp; done) | (simp [*]; done), by repeat (first | exact Drawn0.refl _ | apply Drawn0.step)⟩
  · rw [if_neg c3] at H
    have c3b0 : decide (a1 < 1) = false := decide_eq_false c3
    clear c3
    by_cases c4 : a1 > 64
    · rw [if_pos c4] at H
      have c4b0 : decide (64 < a1) = true := decide_eq_true c4
      clear c4
      simp only [Option.some.injEq, Prod.mk.injEq] at H
      obtain ⟨rfl, rfl⟩ := H
      go_enter Try.func22, Try.ntmps22
      go_wp2
      go_ret2
      exact ⟨by first | rfl | (simp; done) | (simp [*]; done), by repeat (first | exact Drawn0.refl _ | apply Drawn0.step)⟩
    · rw [if_neg c4] at H
      have c4b0 : decide (64 < a1) = false := decide_eq_false c4
      clear c4
      replace H := Option.bind_eq_some_iff.mp H
      obtain ⟨t135, A50, H⟩ := H
      replace H : (some (t135, 0)) = some (r1, r2) := H
      have A5 := Aside0.mk A50
      clear A50
      simp only [Option.some.injEq, Prod.mk.injEq] at H
      obtain ⟨rfl, rfl⟩ := H
      go_enter Try.func22, Try.ntmps22
      go_wp2_with (first | ((with_reducible refine gate_callee (f := 34) rfl ?_); refine goesL_ (some 14) rfl rfl Try.func34 (by kernel_rfl) rfl #[.string a0, .int .i64 a1] rfl (by (try simp only [List.map_toArray, List.map_cons, List.map_nil]); first | done | rfl | (simp only [List.length_drop, List.length_take]; rfl)) ?_; (with_reducible refine (vinculumref03_Up.calls k a0 a1 t135 _ A5.out).mono ?_); rintro e w' ⟨rfl, ⟨nd, rfl⟩⟩; refine ⟨_, rfl, ?_⟩))
      go_ret2
      exact ⟨by first | rfl | (simp; done) | (simp [*]; done), by repeat (first | exact Drawn0.refl _ | apply Drawn0.step)⟩

/-! ### vinculumref03_Sum: function 23 -/
def vinculumref03_Sum.l0 : Nat → ByteArray → Int → Int → Option (Int)
  | 0, _, _, _ => none
  | k + 1, x0, x3, x4 => if x4 < (x0.size : Int) then (if 0 ≤ x4 then (if x4 ≤ (wrap64 (x4 + 4)) then (if (wrap64 (x4 + 4)) ≤ (x0.size : Int) then ((vinculumref03_One.f k (x0.extract (x4 : Int).toNat ((wrap64 (x4 + 4)) : Int).toNat) 4).bind fun t137 => (vinculumref03_Sum.l0 k x0 (Int.tmod (wrap64 (x3 + t137)) 4294967296) (wrap64 (x4 + 4)))) else (none)) else (none)) else (none)) else (some x3)
def vinculumref03_Sum.f (k : Nat) (a0 : ByteArray) : Option (Int) := (vinculumref03_Up.f k a0 4).bind fun t136 => (vinculumref03_Sum.l0 k t136 0 0)
theorem vinculumref03_Sum.mono_l : ∀ k, (∀ y0 y1 y2, LeO (vinculumref03_Sum.l0 k y0 y1 y2) (vinculumref03_Sum.l0 (k + 1) y0 y1 y2))
  | 0 => fun _ _ _ r h => by simp [vinculumref03_Sum.l0] at h
  | k + 1 => by
    have ih0 := vinculumref03_Sum.mono_l k
    · intro y0 y1 y2
      unfold vinculumref03_Sum.l0
      repeat' first
      | (with_reducible exact ih0 _ _ _)
      | (with_reducible exact vinculumref03_One.mono _ _ _)
      | (with_reducible exact vinculumref03_Up.mono _ _ _)
      | (with_reducible exact LeO.refl _)
      | (with_reducible exact LeO.none _)
      | (with_reducible refine LeO.ite ?_ ?_)
      | (with_reducible refine LeO.bind ?_ (fun _ => ?_))
      | exact ih0 _ _ _
      | exact vinculumref03_One.mono _ _ _
      | exact vinculumref03_Up.mono _ _ _
      | exact LeO.none _
      | refine LeO.ite ?_ ?_
      | refine LeO.bind ?_ (fun _ => ?_)
theorem vinculumref03_Sum.mono : ∀ a0 k, LeO (vinculumref03_Sum.f k a0) (vinculumref03_Sum.f (k + 1) a0) := by
  intro a0 k
  have ih0 := vinculumref03_Sum.mono_l k
  unfold vinculumref03_Sum.f
  repeat' first
      | (with_reducible exact ih0 _ _ _)
      | (with_reducible exact vinculumref03_One.mono _ _ _)
      | (with_reducible exact vinculumref03_Up.mono _ _ _)
      | (with_reducible exact LeO.refl _)
      | (with_reducible exact LeO.none _)
      | (with_reducible refine LeO.ite ?_ ?_)
      | (with_reducible refine LeO.bind ?_ (fun _ => ?_))
      | exact ih0 _ _ _
      | exact vinculumref03_One.mono _ _ _
      | exact vinculumref03_Up.mono _ _ _
      | exact LeO.none _
      | refine LeO.ite ?_ ?_
      | refine LeO.bind ?_ (fun _ => ?_)
set_option maxHeartbeats 8000000 in
set_option maxRecDepth 100000 in
theorem vinculumref03_Sum.calls (k : Nat) (a0 : ByteArray) (r : Int) (w : World) (h : vinculumref03_Sum.f k a0 = some r) :
    Calls Try.prog 23 #[.string a0] w fun e w' => e = .returned (.int .i64 r) ∧ Drawn0 w w' := by
  have H : ((vinculumref03_Up.f k a0 4).bind fun t136 => (vinculumref03_Sum.l0 k t136 0 0)) = some r := h
  clear h
  replace H := Option.bind_eq_some_iff.mp H
  obtain ⟨t136, A20, H⟩ := H
  replace H : (vinculumref03_Sum.l0 k t136 0 0) = some r := H
  have A2 := Aside0.mk A20
  clear A20
  have H' := Aside0.mk H
  clear H
  go_enter Try.func23, Try.ntmps23
  go_wp2_with (first | ((with_reducible refine gate_callee (f := 34) rfl ?_); refine goesL_ (some 6) rfl rfl Try.func34 (by kernel_rfl) rfl #[.string a0, .int .i64 4] rfl (by (try simp only [List.map_toArray, List.map_cons, List.map_nil]); first | done | rfl | (simp only [List.length_drop, List.length_take]; rfl)) ?_; (with_reducible refine (vinculumref03_Up.calls k a0 4 t136 _ A2.out).mono ?_); rintro e w' ⟨rfl, ⟨nd, rfl⟩⟩; refine ⟨_, rfl, ?_⟩))
  go_loopg [3, 4] k (fun kq v3 v4 w' => ∃ (x3_1 : Int) (x4_1 : Int), v3 = .int .i64 x3_1 ∧ v4 = .int .i64 x4_1 ∧ Aside0 (vinculumref03_Sum.l0 kq t136 x3_1 x4_1 = some r) ∧ Aside0 (kq ≤ k) ∧ Drawn0 w w')
  case atStart => exact ⟨(0), (0), (by first | rfl | (simp; done) | (simp [*]; done)), (by first | rfl | (simp; done) | (simp [*]; done)), H', ⟨Nat.le_refl _⟩, by repeat (first | exact Drawn0.refl _ | apply Drawn0.step)⟩
  case round =>
    clear H'
    try clear c2
    try clear p2
    obtain ⟨x3_1, x4_1, rfl, rfl, HA, HK1, ⟨m1, rfl⟩⟩ := hrel
    cases gk with
    | zero => exact absurd HA.out (by simp [vinculumref03_Sum.l0])
    | succ k1 =>
      have H := HA.out
      clear HA
      simp only [vinculumref03_Sum.l0] at H
      by_cases c3 : x4_1 < (t136.size : Int)
      · rw [if_pos c3] at H
        have c3b0 : decide (x4_1 < (t136.size : Int)) = true := decide_eq_true c3
        clear c3
        by_cases c4 : 0 ≤ x4_1
        · rw [if_pos c4] at H
          have c4b0 := eq_true c4
          have c4b1 : decide (0 ≤ x4_1) = true := decide_eq_true c4
          clear c4
          by_cases c5 : x4_1 ≤ (wrap64 (x4_1 + 4))
          · rw [if_pos c5] at H
            have c5b0 := eq_true c5
            have c5b1 : decide (x4_1 ≤ (wrap64 (x4_1 + 4))) = true := decide_eq_true c5
            by_cases c6 : (wrap64 (x4_1 + 4)) ≤ (t136.size : Int)
            · rw [if_pos c6] at H
              have c6b0 := eq_true c6
              have c6b1 : decide ((wrap64 (x4_1 + 4)) ≤ (t136.size : Int)) = true := decide_eq_true c6
              replace H := Option.bind_eq_some_iff.mp H
              obtain ⟨t137, A70, H⟩ := H
              replace H : (vinculumref03_Sum.l0 k1 t136 (Int.tmod (wrap64 (x3_1 + t137)) 4294967296) (wrap64 (x4_1 + 4))) = some r := H
              have A7 := Aside0.mk A70
              clear A70
              have H' := Aside0.mk H
              clear H
              go_wp2_with (first | ((with_reducible refine gate_callee (f := 27) rfl ?_); refine goesL_ (some 19) rfl rfl Try.func27 (by kernel_rfl) rfl #[.string (t136.extract (x4_1 : Int).toNat ((wrap64 (x4_1 + 4)) : Int).toNat), .int .i64 4] rfl (by (try simp only [List.map_toArray, List.map_cons, List.map_nil]); first | done | rfl | (simp only [List.length_drop, List.length_take]; rfl)) ?_; (with_reducible refine (vinculumref03_One.calls k1 (t136.extract (x4_1 : Int).toNat ((wrap64 (x4_1 + 4)) : Int).toNat) 4 t137 _ A7.out).mono ?_); rintro e w' ⟨rfl, ⟨nd, rfl⟩⟩; refine ⟨_, rfl, ?_⟩))
              go_roundg k1
              case measure => have := HK1.out; omega
              case rel => exact ⟨(Int.tmod (wrap64 (x3_1 + t137)) 4294967296), (wrap64 (x4_1 + 4)), (by first | rfl | (simp; done) | (simp [*]; done)), (by first | rfl | (simp; done) | (simp [*]; done)), H', ⟨by have := HK1.out; omega⟩, by repeat (first | exact Drawn0.refl _ | apply Drawn0.step)⟩
            · rw [if_neg c6] at H
              exact absurd H (by simp)
          · rw [if_neg c5] at H
            exact absurd H (by simp)
        · rw [if_neg c4] at H
          exact absurd H (by simp)
      · rw [if_neg c3] at H
        have c3b0 : decide (x4_1 < (t136.size : Int)) = false := decide_eq_false c3
        clear c3
        obtain rfl := Option.some.inj H
        go_wp2
        go_ret
        exact ⟨by first | rfl | (simp; done) | (simp [*]; done), by repeat (first | exact Drawn0.refl _ | apply Drawn0.step)⟩

end Go.Proofs.Ytipbcjegigonjaa.P
