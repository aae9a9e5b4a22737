/- Each theorem here says that a call of one Go function ends with what the plain function of that name answers (printed by a program of this session); a law's row says that the law returns true for every input. No condition. -/
import Derived.Test.YtgleffjeaognfaaPx0
import Derived.Test.YtgleffjeaognfaaPx1
import Derived.Test.YtgleffjeaognfaaPx3
namespace Go.Proofs.Ytgleffjeaognfaa.P
open Go.RowKit Go.Proofs.YtgleffjeaognfaaW.PrintWords Go.Proofs.YtgleffjeaognfaaW.PrintLast Go.Proofs.YtgleffjeaognfaaW.PrintMore
attribute [local go_sem] max2_int min2_int max_two min_two max_three min_three max_four min_four   -- for this text's walks alone
set_option linter.unusedVariables false
set_option linter.unusedSimpArgs false

/-! ### vinculumref13_Put: function 11 -/
def vinculumref13_Put.l0 : Nat → List Int → ByteArray → Int → Option (ByteArray × Int)
  | 0, _, _, _ => none
  | k + 1, x0, x4, x5 => if x5 < 56 then (if 0 ≤ x5 then (if x5 < (x0.length : Int) then ((vinculumref03_Bytes.f k (rd x0 x5) 2).bind fun t124 => (if x4.size + t124.size ≤ 9223372036854775807 then ((vinculumref13_wide.f x5).bind fun t125 => (if t125 = 4 then (if (x4 ++ t124).size + 2 ≤ 9223372036854775807 then (vinculumref13_Put.l0 k x0 ((x4 ++ t124) ++ (⟨#[0, 0]⟩ : ByteArray)) (wrap64 (x5 + 1))) else (none)) else (vinculumref13_Put.l0 k x0 (x4 ++ t124) (wrap64 (x5 + 1))))) else (none))) else (none)) else (none)) else (some (x4, 0))
def vinculumref13_Put.f (k : Nat) (l0 : List Int) : Option (ByteArray × Int) := (vinculumref13_Is.f k l0).bind fun t122 => (if t122 = true then (vinculumref13_Put.l0 k l0 (⟨#[]⟩ : ByteArray) 0) else (some ((⟨#[]⟩ : ByteArray), 1)))
theorem vinculumref13_Put.mono_l : ∀ k, (∀ y0 y1 y2, LeO (vinculumref13_Put.l0 k y0 y1 y2) (vinculumref13_Put.l0 (k + 1) y0 y1 y2))
  | 0 => fun _ _ _ r h => by simp [vinculumref13_Put.l0] at h
  | k + 1 => by
    have ih0 := vinculumref13_Put.mono_l k
    · intro y0 y1 y2
      unfold vinculumref13_Put.l0
      repeat' first
      | (with_reducible exact ih0 _ _ _)
      | (with_reducible exact vinculumref03_Bytes.mono _ _ _)
      | (with_reducible exact vinculumref13_Is.mono _ _)
      | (with_reducible exact LeO.refl _)
      | (with_reducible exact LeO.none _)
      | (with_reducible refine LeO.ite ?_ ?_)
      | (with_reducible refine LeO.bind ?_ (fun _ => ?_))
      | exact ih0 _ _ _
      | exact vinculumref03_Bytes.mono _ _ _
      | exact vinculumref13_Is.mono _ _
      | exact LeO.none _
      | refine LeO.ite ?_ ?_
      | refine LeO.bind ?_ (fun _ => ?_)
theorem vinculumref13_Put.mono : ∀ a0 k, LeO (vinculumref13_Put.f k a0) (vinculumref13_Put.f (k + 1) a0) := by
  intro a0 k
  have ih0 := vinculumref13_Put.mono_l k
  unfold vinculumref13_Put.f
  repeat' first
      | (with_reducible exact ih0 _ _ _)
      | (with_reducible exact vinculumref03_Bytes.mono _ _ _)
      | (with_reducible exact vinculumref13_Is.mono _ _)
      | (with_reducible exact LeO.refl _)
      | (with_reducible exact LeO.none _)
      | (with_reducible refine LeO.ite ?_ ?_)
      | (with_reducible refine LeO.bind ?_ (fun _ => ?_))
      | exact ih0 _ _ _
      | exact vinculumref03_Bytes.mono _ _ _
      | exact vinculumref13_Is.mono _ _
      | exact LeO.none _
      | refine LeO.ite ?_ ?_
      | refine LeO.bind ?_ (fun _ => ?_)
set_option maxHeartbeats 8000000 in
set_option maxRecDepth 100000 in
theorem vinculumref13_Put.calls (k : Nat) (A0 : Option Addr) (c0 : Nat) (l0 : List Int) (r1 : ByteArray) (r2 : Int) (w : World) (hr0 : Kd.C (Kd.int .i64) w A0 l0.length l0) (hc0 : l0.length ≤ c0) (h : vinculumref13_Put.f k l0 = some (r1, r2)) :
    Calls Try.prog 11 #[.slice A0 l0.length c0] w fun e w' => e = .returned (.tuple #[.string r1, .int .i64 r2]) ∧ Below w.heap.size w w' := by
  have HR0 := Aside0.mk hr0
  have HC0 := Aside0.mk hc0
  clear hr0 hc0
  have HB := Aside0.mk (Below.refl w.heap.size w)
  have H : ((vinculumref13_Is.f k l0).bind fun t122 => (if t122 = true then (vinculumref13_Put.l0 k l0 (⟨#[]⟩ : ByteArray) 0) else (some ((⟨#[]⟩ : ByteArray), 1)))) = some (r1, r2) := h
  clear h
  replace H := Option.bind_eq_some_iff.mp H
  obtain ⟨t122, A20, H⟩ := H
  replace H : (if t122 = true then (vinculumref13_Put.l0 k l0 (⟨#[]⟩ : ByteArray) 0) else (some ((⟨#[]⟩ : ByteArray), 1))) = some (r1, r2) := H
  have A2 := Aside0.mk A20
  clear A20
  by_cases c3 : t122 = true
  · subst c3
    have H1 : (vinculumref13_Put.l0 k l0 (⟨#[]⟩ : ByteArray) 0) = some (r1, r2) := by rw [if_pos rfl] at H; exact H
    clear H
    have H := H1
    clear H1
    have H' := Aside0.mk H
    clear H
    go_enter Try.func11, Try.ntmps11
    go_wp2_with (first | ((with_reducible refine gate_callee (f := 19) rfl ?_); refine goesL_ (some 7) rfl rfl Try.func19 (by kernel_rfl) rfl #[.slice A0 l0.length c0] rfl (by (try simp only [List.map_toArray, List.map_cons, List.map_nil]); first | done | rfl | (simp only [List.length_drop, List.length_take]; rfl)) ?_; (with_reducible refine (vinculumref13_Is.calls k _ _ l0 true _ ?side1 ?side2 A2.out).mono ?_); (case side1 => repeat (first | exact HR0.out | (with_reducible refine Kd.C_alloc ?_ _) | (with_reducible refine Kd.C_drewN ?_ _) | (with_reducible refine Kd.C_drew ?_))); (case side2 => exact HC0.out); rintro e w' ⟨rfl, ⟨nd, rfl⟩⟩; refine ⟨_, rfl, ?_⟩))
    go_loopg [4, 5] k (fun kq v4 v5 w' => ∃ (x4_1 : ByteArray) (x5_1 : Int), v4 = .string x4_1 ∧ v5 = .int .i64 x5_1 ∧ Aside0 (vinculumref13_Put.l0 kq l0 x4_1 x5_1 = some (r1, r2)) ∧ Aside0 (kq ≤ k) ∧ Aside0 (Below w.heap.size w w'))
    case atStart => exact ⟨((⟨#[]⟩ : ByteArray)), (0), (by first | rfl | (simp; done) | (simp [*]; done)), (by first | rfl | (simp; done) | (simp [*]; done)), H', ⟨Nat.le_refl _⟩, ⟨by repeat (first | (with_reducible first | exact HB.out | apply below_alloc | apply pw_below_drewN | apply below_drew1) | exact HB.out)⟩⟩
    case round =>
      clear H'
      try clear c1
      try clear p2
      try clear c3
      obtain ⟨x4_1, x5_1, rfl, rfl, HA, HK1, HB⟩ := hrel
      cases gk with
      | zero => exact absurd HA.out (by simp [vinculumref13_Put.l0])
      | succ k1 =>
        have H := HA.out
        clear HA
        simp only [vinculumref13_Put.l0] at H
        by_cases c4 : x5_1 < 56
        · rw [if_pos c4] at H
          have c4b0 : decide (x5_1 < 56) = true := decide_eq_true c4
          clear c4
          by_cases c5 : 0 ≤ x5_1
          · rw [if_pos c5] at H
            have c5b0 : decide (0 ≤ x5_1) = true := decide_eq_true c5
            clear c5
            by_cases c6 : x5_1 < (l0.length : Int)
            · rw [if_pos c6] at H
              have c6b0 : decide (x5_1 < (l0.length : Int)) = true := decide_eq_true c6
              clear c6
              replace H := Option.bind_eq_some_iff.mp H
              obtain ⟨t124, A70, H⟩ := H
              replace H : (if x4_1.size + t124.size ≤ 9223372036854775807 then ((vinculumref13_wide.f x5_1).bind fun t125 => (if t125 = 4 then (if (x4_1 ++ t124).size + 2 ≤ 9223372036854775807 then (vinculumref13_Put.l0 k1 l0 ((x4_1 ++ t124) ++ (⟨#[0, 0]⟩ : ByteArray)) (wrap64 (x5_1 + 1))) else (none)) else (vinculumref13_Put.l0 k1 l0 (x4_1 ++ t124) (wrap64 (x5_1 + 1))))) else (none)) = some (r1, r2) := H
              have A7 := Aside0.mk A70
              clear A70
              by_cases c8 : x4_1.size + t124.size ≤ 9223372036854775807
              · rw [if_pos c8] at H
                have c8b0 := eq_true c8
                have c8b1 : decide (x4_1.size + t124.size ≤ 9223372036854775807) = true := decide_eq_true c8
                try have c8b2 : (9223372036854775807 < x4_1.size + t124.size) = False := eq_false (Nat.not_lt.2 c8)
                replace H := Option.bind_eq_some_iff.mp H
                obtain ⟨t125, A90, H⟩ := H
                replace H : (if t125 = 4 then (if (x4_1 ++ t124).size + 2 ≤ 9223372036854775807 then (vinculumref13_Put.l0 k1 l0 ((x4_1 ++ t124) ++ (⟨#[0, 0]⟩ : ByteArray)) (wrap64 (x5_1 + 1))) else (none)) else (vinculumref13_Put.l0 k1 l0 (x4_1 ++ t124) (wrap64 (x5_1 + 1)))) = some (r1, r2) := H
                have A9 := Aside0.mk A90
                clear A90
                by_cases c10 : t125 = 4
                · rw [if_pos c10] at H
                  have c10b0 : (t125 == 4) = true := beq_iff_eq.mpr c10
                  have c10b1 : (t125 != 4) = false := bne_eq_false_iff_eq.mpr c10
                  clear c10
                  by_cases c11 : (x4_1 ++ t124).size + 2 ≤ 9223372036854775807
                  · rw [if_pos c11] at H
                    have c11b0 := eq_true c11
                    have c11b1 : decide ((x4_1 ++ t124).size + 2 ≤ 9223372036854775807) = true := decide_eq_true c11
                    try have c11b2 : (9223372036854775807 < (x4_1 ++ t124).size + 2) = False := eq_false (Nat.not_lt.2 c11)
                    try (have c11b3 := c11; rw [ByteArray.size_append] at c11b3; replace c11b3 := eq_true c11b3)
                    try (have c11b4 := c11; rw [ByteArray.size_append] at c11b4; replace c11b4 := eq_false (Nat.not_lt.2 c11b4))
                    have H' := Aside0.mk H
                    clear H
                    have p123 : 0 ≤ (x5_1 : Int) := of_decide_eq_true (by first | (with_reducible assumption) | assumption)
                    have q123 : x5_1 < (l0.length : Int) := of_decide_eq_true (by first | (with_reducible assumption) | assumption)
                    obtain ⟨ad123, e123, hx123_0⟩ := Kd.at_int HR0.out x5_1 p123 q123
                    cases e123
                    replace hx123_0 := (HB.out.cell (World.block_lt_of_cell? w _ hx123_0)).trans hx123_0
                    replace p123 := eq_true p123
                    replace q123 := eq_true q123
                    go_wp2_with (first | ((with_reducible refine gate_callee (f := 29) rfl ?_); refine goesL_ (some 18) rfl rfl Try.func29 (by kernel_rfl) rfl #[.int .i64 (rd l0 x5_1), .int .i64 2] rfl (by (try simp only [List.map_toArray, List.map_cons, List.map_nil]); first | done | rfl | (simp only [List.length_drop, List.length_take]; rfl)) ?_; (with_reducible refine (vinculumref03_Bytes.calls k1 (rd l0 x5_1) 2 t124 _ A7.out).mono ?_); rintro e w12 ⟨rfl, hb⟩; refine ⟨_, rfl, ?_⟩; have n0_ := Aside0.mk (below_step (by repeat (first | (with_reducible first | exact HB.out | apply below_alloc | apply pw_below_drewN | apply below_drew1) | exact HB.out)) hb); clear HB; have HB := n0_; clear n0_; (try clear hb); (try clear hb2); (try clear hk); (try clear hi)) | ((with_reducible refine gate_callee (f := 26) rfl ?_); refine goesL_ (some 21) rfl rfl Try.func26 (by kernel_rfl) rfl #[.int .i64 x5_1] rfl (by (try simp only [List.map_toArray, List.map_cons, List.map_nil]); first | done | rfl | (simp only [List.length_drop, List.length_take]; rfl)) ?_; (with_reducible refine (vinculumref13_wide.calls x5_1 t125 _ A9.out).mono ?_); rintro e w' ⟨rfl, ⟨nd, rfl⟩⟩; refine ⟨_, rfl, ?_⟩))
                    go_roundg k1
                    case measure => have := HK1.out; omega
                    case rel => exact ⟨((x4_1 ++ t124) ++ (⟨#[0, 0]⟩ : ByteArray)), (wrap64 (x5_1 + 1)), (by first | rfl | (simp; done) | (simp [*]; done)), (by first | rfl | (simp; done) | (simp [*]; done)), H', ⟨by have := HK1.out; omega⟩, ⟨by repeat (first | (with_reducible first | exact HB.out | apply below_alloc | apply pw_below_drewN | apply below_drew1) | exact HB.out)⟩⟩
                  · rw [if_neg c11] at H
                    exact absurd H (by simp)
                · rw [if_neg c10] at H
                  have c10b0 : (t125 == 4) = false := beq_eq_false_iff_ne.mpr c10
                  have c10b1 : (t125 != 4) = true := bne_iff_ne.mpr c10
                  have H' := Aside0.mk H
                  clear H
                  have p123 : 0 ≤ (x5_1 : Int) := of_decide_eq_true (by first | (with_reducible assumption) | assumption)
                  have q123 : x5_1 < (l0.length : Int) := of_decide_eq_true (by first | (with_reducible assumption) | assumption)
                  obtain ⟨ad123, e123, hx123_0⟩ := Kd.at_int HR0.out x5_1 p123 q123
                  cases e123
                  replace hx123_0 := (HB.out.cell (World.block_lt_of_cell? w _ hx123_0)).trans hx123_0
                  replace p123 := eq_true p123
                  replace q123 := eq_true q123
                  go_wp2_with (first | ((with_reducible refine gate_callee (f := 29) rfl ?_); refine goesL_ (some 18) rfl rfl Try.func29 (by kernel_rfl) rfl #[.int .i64 (rd l0 x5_1), .int .i64 2] rfl (by (try simp only [List.map_toArray, List.map_cons, List.map_nil]); first | done | rfl | (simp only [List.length_drop, List.length_take]; rfl)) ?_; (with_reducible refine (vinculumref03_Bytes.calls k1 (rd l0 x5_1) 2 t124 _ A7.out).mono ?_); rintro e w13 ⟨rfl, hb⟩; refine ⟨_, rfl, ?_⟩; have n0_ := Aside0.mk (below_step (by repeat (first | (with_reducible first | exact HB.out | apply below_alloc | apply pw_below_drewN | apply below_drew1) | exact HB.out)) hb); clear HB; have HB := n0_; clear n0_; (try clear hb); (try clear hb2); (try clear hk); (try clear hi)) | ((with_reducible refine gate_callee (f := 26) rfl ?_); refine goesL_ (some 21) rfl rfl Try.func26 (by kernel_rfl) rfl #[.int .i64 x5_1] rfl (by (try simp only [List.map_toArray, List.map_cons, List.map_nil]); first | done | rfl | (simp only [List.length_drop, List.length_take]; rfl)) ?_; (with_reducible refine (vinculumref13_wide.calls x5_1 t125 _ A9.out).mono ?_); rintro e w' ⟨rfl, ⟨nd, rfl⟩⟩; refine ⟨_, rfl, ?_⟩))
                  go_roundg k1
                  case measure => have := HK1.out; omega
                  case rel => exact ⟨(x4_1 ++ t124), (wrap64 (x5_1 + 1)), (by first | rfl | (simp; done) | (simp [*]; done)), (by first | rfl | (simp; done) | (simp [*]; done)), H', ⟨by have := HK1.out; omega⟩, ⟨by repeat (first | (with_reducible first | exact HB.out | apply below_alloc | apply pw_below_drewN | apply below_drew1) | exact HB.out)⟩⟩
              · rw [if_neg c8] at H
                exact absurd H (by simp)
            · rw [if_neg c6] at H
              exact absurd H (by simp)
          · rw [if_neg c5] at H
            exact absurd H (by simp)
        · rw [if_neg c4] at H
          have c4b0 : decide (x5_1 < 56) = false := decide_eq_false c4
          clear c4
          simp only [Option.some.injEq, Prod.mk.injEq] at H
          obtain ⟨rfl, rfl⟩ := H
          go_wp2
          go_ret2
          exact ⟨by first | rfl | (simp [errW_none, errW_some] <;> rfl) | (simp [*, errW_none, errW_some] <;> rfl), by repeat (first | (with_reducible first | exact HB.out | apply below_alloc | apply pw_below_drewN | apply below_drew1) | exact HB.out)⟩
  · replace c3 := Bool.eq_false_iff.mpr c3
    subst c3
    have H1 : (some ((⟨#[]⟩ : ByteArray), 1)) = some (r1, r2) := by rw [if_neg (show ¬ (false = true) by decide)] at H; exact H
    clear H
    have H := H1
    clear H1
    simp only [Option.some.injEq, Prod.mk.injEq] at H
    obtain ⟨rfl, rfl⟩ := H
    go_enter Try.func11, Try.ntmps11
    go_wp2_with (first | ((with_reducible refine gate_callee (f := 19) rfl ?_); refine goesL_ (some 7) rfl rfl Try.func19 (by kernel_rfl) rfl #[.slice A0 l0.length c0] rfl (by (try simp only [List.map_toArray, List.map_cons, List.map_nil]); first | done | rfl | (simp only [List.length_drop, List.length_take]; rfl)) ?_; (with_reducible refine (vinculumref13_Is.calls k _ _ l0 false _ ?side1 ?side2 A2.out).mono ?_); (case side1 => repeat (first | exact HR0.out | (with_reducible refine Kd.C_alloc ?_ _) | (with_reducible refine Kd.C_drewN ?_ _) | (with_reducible refine Kd.C_drew ?_))); (case side2 => exact HC0.out); rintro e w' ⟨rfl, ⟨nd, rfl⟩⟩; refine ⟨_, rfl, ?_⟩))
    go_ret2
    exact ⟨by first | rfl | (simp [errW_none, errW_some] <;> rfl) | (simp [*, errW_none, errW_some] <;> rfl), by repeat (first | (with_reducible first | exact HB.out | apply below_alloc | apply pw_below_drewN | apply below_drew1) | exact HB.out)⟩

/-! ### vinculumref13_names: function 31 -/
def vinculumref13_names.f  : Option (ByteArray) := some (⟨#[83, 99, 114, 105, 112, 116, 80, 101, 114, 99, 101, 110, 116, 83, 99, 97, 108, 101, 68, 111, 119, 110, 32, 83, 99, 114, 105, 112, 116, 83, 99, 114, 105, 112, 116, 80, 101, 114, 99, 101, 110, 116, 83, 99, 97, 108, 101, 68, 111, 119, 110, 32, 68, 101, 108, 105, 109, 105, 116, 101, 100, 83, 117, 98, 70, 111, 114, 109, 117, 108, 97, 77, 105, 110, 72, 101, 105, 103, 104, 116, 32, 68, 105, 115, 112, 108, 97, 121, 79, 112, 101, 114, 97, 116, 111, 114, 77, 105, 110, 72, 101, 105, 103, 104, 116, 32, 77, 97, 116, 104, 76, 101, 97, 100, 105, 110, 103, 32, 65, 120, 105, 115, 72, 101, 105, 103, 104, 116, 32, 65, 99, 99, 101, 110, 116, 66, 97, 115, 101, 72, 101, 105, 103, 104, 116, 32, 70, 108, 97, 116, 116, 101, 110, 101, 100, 65, 99, 99, 101, 110, 116, 66, 97, 115, 101, 72, 101, 105, 103, 104, 116, 32, 83, 117, 98, 115, 99, 114, 105, 112, 116, 83, 104, 105, 102, 116, 68, 111, 119, 110, 32, 83, 117, 98, 115, 99, 114, 105, 112, 116, 84, 111, 112, 77, 97, 120, 32, 83, 117, 98, 115, 99, 114, 105, 112, 116, 66, 97, 115, 101, 108, 105, 110, 101, 68, 114, 111, 112, 77, 105, 110, 32, 83, 117, 112, 101, 114, 115, 99, 114, 105, 112, 116, 83, 104, 105, 102, 116, 85, 112, 32, 83, 117, 112, 101, 114, 115, 99, 114, 105, 112, 116, 83, 104, 105, 102, 116, 85, 112, 67, 114, 97, 109, 112, 101, 100, 32, 83, 117, 112, 101, 114, 115, 99, 114, 105, 112, 116, 66, 111, 116, 116, 111, 109, 77, 105, 110, 32, 83, 117, 112, 101, 114, 115, 99, 114, 105, 112, 116, 66, 97, 115, 101, 108, 105, 110, 101, 68, 114, 111, 112, 77, 97, 120, 32, 83, 117, 98, 83, 117, 112, 101, 114, 115, 99, 114, 105, 112, 116, 71, 97, 112, 77, 105, 110, 32, 83, 117, 112, 101, 114, 115, 99, 114, 105, 112, 116, 66, 111, 116, 116, 111, 109, 77, 97, 120, 87, 105, 116, 104, 83, 117, 98, 115, 99, 114, 105, 112, 116, 32, 83, 112, 97, 99, 101, 65, 102, 116, 101, 114, 83, 99, 114, 105, 112, 116, 32, 85, 112, 112, 101, 114, 76, 105, 109, 105, 116, 71, 97, 112, 77, 105, 110, 32, 85, 112, 112, 101, 114, 76, 105, 109, 105, 116, 66, 97, 115, 101, 108, 105, 110, 101, 82, 105, 115, 101, 77, 105, 110, 32, 76, 111, 119, 101, 114, 76, 105, 109, 105, 116, 71, 97, 112, 77, 105, 110, 32, 76, 111, 119, 101, 114, 76, 105, 109, 105, 116, 66, 97, 115, 101, 108, 105, 110, 101, 68, 114, 111, 112, 77, 105, 110, 32, 83, 116, 97, 99, 107, 84, 111, 112, 83, 104, 105, 102, 116, 85, 112, 32, 83, 116, 97, 99, 107, 84, 111, 112, 68, 105, 115, 112, 108, 97, 121, 83, 116, 121, 108, 101, 83, 104, 105, 102, 116, 85, 112, 32, 83, 116, 97, 99, 107, 66, 111, 116, 116, 111, 109, 83, 104, 105, 102, 116, 68, 111, 119, 110, 32, 83, 116, 97, 99, 107, 66, 111, 116, 116, 111, 109, 68, 105, 115, 112, 108, 97, 121, 83, 116, 121, 108, 101, 83, 104, 105, 102, 116, 68, 111, 119, 110, 32, 83, 116, 97, 99, 107, 71, 97, 112, 77, 105, 110, 32, 83, 116, 97, 99, 107, 68, 105, 115, 112, 108, 97, 121, 83, 116, 121, 108, 101, 71, 97, 112, 77, 105, 110, 32, 83, 116, 114, 101, 116, 99, 104, 83, 116, 97, 99, 107, 84, 111, 112, 83, 104, 105, 102, 116, 85, 112, 32, 83, 116, 114, 101, 116, 99, 104, 83, 116, 97, 99, 107, 66, 111, 116, 116, 111, 109, 83, 104, 105, 102, 116, 68, 111, 119, 110, 32, 83, 116, 114, 101, 116, 99, 104, 83, 116, 97, 99, 107, 71, 97, 112, 65, 98, 111, 118, 101, 77, 105, 110, 32, 83, 116, 114, 101, 116, 99, 104, 83, 116, 97, 99, 107, 71, 97, 112, 66, 101, 108, 111, 119, 77, 105, 110, 32, 70, 114, 97, 99, 116, 105, 111, 110, 78, 117, 109, 101, 114, 97, 116, 111, 114, 83, 104, 105, 102, 116, 85, 112, 32, 70, 114, 97, 99, 116, 105, 111, 110, 78, 117, 109, 101, 114, 97, 116, 111, 114, 68, 105, 115, 112, 108, 97, 121, 83, 116, 121, 108, 101, 83, 104, 105, 102, 116, 85, 112, 32, 70, 114, 97, 99, 116, 105, 111, 110, 68, 101, 110, 111, 109, 105, 110, 97, 116, 111, 114, 83, 104, 105, 102, 116, 68, 111, 119, 110, 32, 70, 114, 97, 99, 116, 105, 111, 110, 68, 101, 110, 111, 109, 105, 110, 97, 116, 111, 114, 68, 105, 115, 112, 108, 97, 121, 83, 116, 121, 108, 101, 83, 104, 105, 102, 116, 68, 111, 119, 110, 32, 70, 114, 97, 99, 116, 105, 111, 110, 78, 117, 109, 101, 114, 97, 116, 111, 114, 71, 97, 112, 77, 105, 110, 32, 70, 114, 97, 99, 116, 105, 111, 110, 78, 117, 109, 68, 105, 115, 112, 108, 97, 121, 83, 116, 121, 108, 101, 71, 97, 112, 77, 105, 110, 32, 70, 114, 97, 99, 116, 105, 111, 110, 82, 117, 108, 101, 84, 104, 105, 99, 107, 110, 101, 115, 115, 32, 70, 114, 97, 99, 116, 105, 111, 110, 68, 101, 110, 111, 109, 105, 110, 97, 116, 111, 114, 71, 97, 112, 77, 105, 110, 32, 70, 114, 97, 99, 116, 105, 111, 110, 68, 101, 110, 111, 109, 68, 105, 115, 112, 108, 97, 121, 83, 116, 121, 108, 101, 71, 97, 112, 77, 105, 110, 32, 83, 107, 101, 119, 101, 100, 70, 114, 97, 99, 116, 105, 111, 110, 72, 111, 114, 105, 122, 111, 110, 116, 97, 108, 71, 97, 112, 32, 83, 107, 101, 119, 101, 100, 70, 114, 97, 99, 116, 105, 111, 110, 86, 101, 114, 116, 105, 99, 97, 108, 71, 97, 112, 32, 79, 118, 101, 114, 98, 97, 114, 86, 101, 114, 116, 105, 99, 97, 108, 71, 97, 112, 32, 79, 118, 101, 114, 98, 97, 114, 82, 117, 108, 101, 84, 104, 105, 99, 107, 110, 101, 115, 115, 32, 79, 118, 101, 114, 98, 97, 114, 69, 120, 116, 114, 97, 65, 115, 99, 101, 110, 100, 101, 114, 32, 85, 110, 100, 101, 114, 98, 97, 114, 86, 101, 114, 116, 105, 99, 97, 108, 71, 97, 112, 32, 85, 110, 100, 101, 114, 98, 97, 114, 82, 117, 108, 101, 84, 104, 105, 99, 107, 110, 101, 115, 115, 32, 85, 110, 100, 101, 114, 98, 97, 114, 69, 120, 116, 114, 97, 68, 101, 115, 99, 101, 110, 100, 101, 114, 32, 82, 97, 100, 105, 99, 97, 108, 86, 101, 114, 116, 105, 99, 97, 108, 71, 97, 112, 32, 82, 97, 100, 105, 99, 97, 108, 68, 105, 115, 112, 108, 97, 121, 83, 116, 121, 108, 101, 86, 101, 114, 116, 105, 99, 97, 108, 71, 97, 112, 32, 82, 97, 100, 105, 99, 97, 108, 82, 117, 108, 101, 84, 104, 105, 99, 107, 110, 101, 115, 115, 32, 82, 97, 100, 105, 99, 97, 108, 69, 120, 116, 114, 97, 65, 115, 99, 101, 110, 100, 101, 114, 32, 82, 97, 100, 105, 99, 97, 108, 75, 101, 114, 110, 66, 101, 102, 111, 114, 101, 68, 101, 103, 114, 101, 101, 32, 82, 97, 100, 105, 99, 97, 108, 75, 101, 114, 110, 65, 102, 116, 101, 114, 68, 101, 103, 114, 101, 101, 32, 82, 97, 100, 105, 99, 97, 108, 68, 101, 103, 114, 101, 101, 66, 111, 116, 116, 111, 109, 82, 97, 105, 115, 101, 80, 101, 114, 99, 101, 110, 116, 32]⟩ : ByteArray)
set_option maxHeartbeats 8000000 in
set_option maxRecDepth 100000 in
theorem vinculumref13_names.calls  (r : ByteArray) (w : World) (h : vinculumref13_names.f  = some r) :
    Calls Try.prog 31 #[] w fun e w' => e = .returned (.string r) ∧ Drawn0 w w' := by
  have H : (some (⟨#[83, 99, 114, 105, 112, 116, 80, 101, 114, 99, 101, 110, 116, 83, 99, 97, 108, 101, 68, 111, 119, 110, 32, 83, 99, 114, 105, 112, 116, 83, 99, 114, 105, 112, 116, 80, 101, 114, 99, 101, 110, 116, 83, 99, 97, 108, 101, 68, 111, 119, 110, 32, 68, 101, 108, 105, 109, 105, 116, 101, 100, 83, 117, 98, 70, 111, 114, 109, 117, 108, 97, 77, 105, 110, 72, 101, 105, 103, 104, 116, 32, 68, 105, 115, 112, 108, 97, 121, 79, 112, 101, 114, 97, 116, 111, 114, 77, 105, 110, 72, 101, 105, 103, 104, 116, 32, 77, 97, 116, 104, 76, 101, 97, 100, 105, 110, 103, 32, 65, 120, 105, 115, 72, 101, 105, 103, 104, 116, 32, 65, 99, 99, 101, 110, 116, 66, 97, 115, 101, 72, 101, 105, 103, 104, 116, 32, 70, 108, 97, 116, 116, 101, 110, 101, 100, 65, 99, 99, 101, 110, 116, 66, 97, 115, 101, 72, 101, 105, 103, 104, 116, 32, 83, 117, 98, 115, 99, 114, 105, 112, 116, 83, 104, 105, 102, 116, 68, 111, 119, 110, 32, 83, 117, 98, 115, 99, 114, 105, 112, 116, 84, 111, 112, 77, 97, 120, 32, 83, 117, 98, 115, 99, 114, 105, 112, 116, 66, 97, 115, 101, 108, 105, 110, 101, 68, 114, 111, 112, 77, 105, 110, 32, 83, 117, 112, 101, 114, 115, 99, 114, 105, 112, 116, 83, 104, 105, 102, 116, 85, 112, 32, 83, 117, 112, 101, 114, 115, 99, 114, 105, 112, 116, 83, 104, 105, 102, 116, 85, 112, 67, 114, 97, 109, 112, 101, 100, 32, 83, 117, 112, 101, 114, 115, 99, 114, 105, 112, 116, 66, 111, 116, 116, 111, 109, 77, 105, 110, 32, 83, 117, 112, 101, 114, 115, 99, 114, 105, 112, 116, 66, 97, 115, 101, 108, 105, 110, 101, 68, 114, 111, 112, 77, 97, 120, 32, 83, 117, 98, 83, 117, 112, 101, 114, 115, 99, 114, 105, 112, 116, 71, 97, 112, 77, 105, 110, 32, 83, 117, 112, 101, 114, 115, 99, 114, 105, 112, 116, 66, 111, 116, 116, 111, 109, 77, 97, 120, 87, 105, 116, 104, 83, 117, 98, 115, 99, 114, 105, 112, 116, 32, 83, 112, 97, 99, 101, 65, 102, 116, 101, 114, 83, 99, 114, 105, 112, 116, 32, 85, 112, 112, 101, 114, 76, 105, 109, 105, 116, 71, 97, 112, 77, 105, 110, 32, 85, 112, 112, 101, 114, 76, 105, 109, 105, 116, 66, 97, 115, 101, 108, 105, 110, 101, 82, 105, 115, 101, 77, 105, 110, 32, 76, 111, 119, 101, 114, 76, 105, 109, 105, 116, 71, 97, 112, 77, 105, 110, 32, 76, 111, 119, 101, 114, 76, 105, 109, 105, 116, 66, 97, 115, 101, 108, 105, 110, 101, 68, 114, 111, 112, 77, 105, 110, 32, 83, 116, 97, 99, 107, 84, 111, 112, 83, 104, 105, 102, 116, 85, 112, 32, 83, 116, 97, 99, 107, 84, 111, 112, 68, 105, 115, 112, 108, 97, 121, 83, 116, 121, 108, 101, 83, 104, 105, 102, 116, 85, 112, 32, 83, 116, 97, 99, 107, 66, 111, 116, 116, 111, 109, 83, 104, 105, 102, 116, 68, 111, 119, 110, 32, 83, 116, 97, 99, 107, 66, 111, 116, 116, 111, 109, 68, 105, 115, 112, 108, 97, 121, 83, 116, 121, 108, 101, 83, 104, 105, 102, 116, 68, 111, 119, 110, 32, 83, 116, 97, 99, 107, 71, 97, 112, 77, 105, 110, 32, 83, 116, 97, 99, 107, 68, 105, 115, 112, 108, 97, 121, 83, 116, 121, 108, 101, 71, 97, 112, 77, 105, 110, 32, 83, 116, 114, 101, 116, 99, 104, 83, 116, 97, 99, 107, 84, 111, 112, 83, 104, 105, 102, 116, 85, 112, 32, 83, 116, 114, 101, 116, 99, 104, 83, 116, 97, 99, 107, 66, 111, 116, 116, 111, 109, 83, 104, 105, 102, 116, 68, 111, 119, 110, 32, 83, 116, 114, 101, 116, 99, 104, 83, 116, 97, 99, 107, 71, 97, 112, 65, 98, 111, 118, 101, 77, 105, 110, 32, 83, 116, 114, 101, 116, 99, 104, 83, 116, 97, 99, 107, 71, 97, 112, 66, 101, 108, 111, 119, 77, 105, 110, 32, 70, 114, 97, 99, 116, 105, 111, 110, 78, 117, 109, 101, 114, 97, 116, 111, 114, 83, 104, 105, 102, 116, 85, 112, 32, 70, 114, 97, 99, 116, 105, 111, 110, 78, 117, 109, 101, 114, 97, 116, 111, 114, 68, 105, 115, 112, 108, 97, 121, 83, 116, 121, 108, 101, 83, 104, 105, 102, 116, 85, 112, 32, 70, 114, 97, 99, 116, 105, 111, 110, 68, 101, 110, 111, 109, 105, 110, 97, 116, 111, 114, 83, 104, 105, 102, 116, 68, 111, 119, 110, 32, 70, 114, 97, 99, 116, 105, 111, 110, 68, 101, 110, 111, 109, 105, 110, 97, 116, 111, 114, 68, 105, 115, 112, 108, 97, 121, 83, 116, 121, 108, 101, 83, 104, 105, 102, 116, 68, 111, 119, 110, 32, 70, 114, 97, 99, 116, 105, 111, 110, 78, 117, 109, 101, 114, 97, 116, 111, 114, 71, 97, 112, 77, 105, 110, 32, 70, 114, 97, 99, 116, 105, 111, 110, 78, 117, 109, 68, 105, 115, 112, 108, 97, 121, 83, 116, 121, 108, 101, 71, 97, 112, 77, 105, 110, 32, 70, 114, 97, 99, 116, 105, 111, 110, 82, 117, 108, 101, 84, 104, 105, 99, 107, 110, 101, 115, 115, 32, 70, 114, 97, 99, 116, 105, 111, 110, 68, 101, 110, 111, 109, 105, 110, 97, 116, 111, 114, 71, 97, 112, 77, 105, 110, 32, 70, 114, 97, 99, 116, 105, 111, 110, 68, 101, 110, 111, 109, 68, 105, 115, 112, 108, 97, 121, 83, 116, 121, 108, 101, 71, 97, 112, 77, 105, 110, 32, 83, 107, 101, 119, 101, 100, 70, 114, 97, 99, 116, 105, 111, 110, 72, 111, 114, 105, 122, 111, 110, 116, 97, 108, 71, 97, 112, 32, 83, 107, 101, 119, 101, 100, 70, 114, 97, 99, 116, 105, 111, 110, 86, 101, 114, 116, 105, 99, 97, 108, 71, 97, 112, 32, 79, 118, 101, 114, 98, 97, 114, 86, 101, 114, 116, 105, 99, 97, 108, 71, 97, 112, 32, 79, 118, 101, 114, 98, 97, 114, 82, 117, 108, 101, 84, 104, 105, 99, 107, 110, 101, 115, 115, 32, 79, 118, 101, 114, 98, 97, 114, 69, 120, 116, 114, 97, 65, 115, 99, 101, 110, 100, 101, 114, 32, 85, 110, 100, 101, 114, 98, 97, 114, 86, 101, 114, 116, 105, 99, 97, 108, 71, 97, 112, 32, 85, 110, 100, 101, 114, 98, 97, 114, 82, 117, 108, 101, 84, 104, 105, 99, 107, 110, 101, 115, 115, 32, 85, 110, 100, 101, 114, 98, 97, 114, 69, 120, 116, 114, 97, 68, 101, 115, 99, 101, 110, 100, 101, 114, 32, 82, 97, 100, 105, 99, 97, 108, 86, 101, 114, 116, 105, 99, 97, 108, 71, 97, 112, 32, 82, 97, 100, 105, 99, 97, 108, 68, 105, 115, 112, 108, 97, 121, 83, 116, 121, 108, 101, 86, 101, 114, 116, 105, 99, 97, 108, 71, 97, 112, 32, 82, 97, 100, 105, 99, 97, 108, 82, 117, 108, 101, 84, 104, 105, 99, 107, 110, 101, 115, 115, 32, 82, 97, 100, 105, 99, 97, 108, 69, 120, 116, 114, 97, 65, 115, 99, 101, 110, 100, 101, 114, 32, 82, 97, 100, 105, 99, 97, 108, 75, 101, 114, 110, 66, 101, 102, 111, 114, 101, 68, 101, 103, 114, 101, 101, 32, 82, 97, 100, 105, 99, 97, 108, 75, 101, 114, 110, 65, 102, 116, 101, 114, 68, 101, 103, 114, 101, 101, 32, 82, 97, 100, 105, 99, 97, 108, 68, 101, 103, 114, 101, 101, 66, 111, 116, 116, 111, 109, 82, 97, 105, 115, 101, 80, 101, 114, 99, 101, 110, 116, 32]⟩ : ByteArray)) = some r := h
  clear h
  obtain rfl := Option.some.inj H
  go_enter Try.func31, Try.ntmps31
  go_wp2
  go_ret
  exact ⟨by first | rfl | (simp; done) | (simp [*]; done), by repeat (first | exact Drawn0.refl _ | apply Drawn0.step)⟩

/-! ### vinculumref13_Name: function 13 -/
mutual
def vinculumref13_Name.j0 : Nat → Int → Bool → Option (ByteArray × Int)
  | 0, _, _ => none
  | k + 1, x0, x12 => if x12 = true then (some ((⟨#[]⟩ : ByteArray), 1)) else ((vinculumref13_names.f).bind fun t126 => (vinculumref13_Name.l0 k x0 t126 0 0))
def vinculumref13_Name.l0 : Nat → Int → ByteArray → Int → Int → Option (ByteArray × Int)
  | 0, _, _, _, _ => none
  | k + 1, x0, x4, x5, x6 => if x6 < (x4.size : Int) then (if 0 ≤ x6 then (if (bt x4 x6) = 32 then (if x0 = 0 then (if 0 ≤ x5 then (if x5 ≤ x6 then (if x6 ≤ (x4.size : Int) then (some (x4.extract (x5 : Int).toNat (x6 : Int).toNat, 0)) else (none)) else (none)) else (none)) else (vinculumref13_Name.l0 k (wrap64 (x0 - 1)) x4 (wrap64 (x6 + 1)) (wrap64 (x6 + 1)))) else (vinculumref13_Name.l0 k x0 x4 x5 (wrap64 (x6 + 1)))) else (none)) else (some ((⟨#[]⟩ : ByteArray), 1))
end
def vinculumref13_Name.f (k : Nat) (a0 : Int) : Option (ByteArray × Int) := if a0 < 0 then (vinculumref13_Name.j0 k a0 true) else (vinculumref13_Name.j0 k a0 (decide (a0 > 55)))
theorem vinculumref13_Name.mono_l : ∀ k, (∀ y0 y1, LeO (vinculumref13_Name.j0 k y0 y1) (vinculumref13_Name.j0 (k + 1) y0 y1)) ∧ (∀ y0 y1 y2 y3, LeO (vinculumref13_Name.l0 k y0 y1 y2 y3) (vinculumref13_Name.l0 (k + 1) y0 y1 y2 y3))
  | 0 => ⟨fun _ _ r h => by simp [vinculumref13_Name.j0] at h, fun _ _ _ _ r h => by simp [vinculumref13_Name.l0] at h⟩
  | k + 1 => by
    obtain ⟨ih0, ih1⟩ := vinculumref13_Name.mono_l k
    refine ⟨?_, ?_⟩
    · intro y0 y1
      unfold vinculumref13_Name.j0
      repeat' first
      | (with_reducible exact ih0 _ _)
      | (with_reducible exact ih1 _ _ _ _)
      | (with_reducible exact LeO.refl _)
      | (with_reducible exact LeO.none _)
      | (with_reducible refine LeO.ite ?_ ?_)
      | (with_reducible refine LeO.bind ?_ (fun _ => ?_))
      | exact ih0 _ _
      | exact ih1 _ _ _ _
      | exact LeO.none _
      | refine LeO.ite ?_ ?_
      | refine LeO.bind ?_ (fun _ => ?_)
    · intro y0 y1 y2 y3
      unfold vinculumref13_Name.l0
      repeat' first
      | (with_reducible exact ih0 _ _)
      | (with_reducible exact ih1 _ _ _ _)
      | (with_reducible exact LeO.refl _)
      | (with_reducible exact LeO.none _)
      | (with_reducible refine LeO.ite ?_ ?_)
      | (with_reducible refine LeO.bind ?_ (fun _ => ?_))
      | exact ih0 _ _
      | exact ih1 _ _ _ _
      | exact LeO.none _
      | refine LeO.ite ?_ ?_
      | refine LeO.bind ?_ (fun _ => ?_)
theorem vinculumref13_Name.mono : ∀ a0 k, LeO (vinculumref13_Name.f k a0) (vinculumref13_Name.f (k + 1) a0) := by
  intro a0 k
  obtain ⟨ih0, ih1⟩ := vinculumref13_Name.mono_l k
  unfold vinculumref13_Name.f
  repeat' first
      | (with_reducible exact ih0 _ _)
      | (with_reducible exact ih1 _ _ _ _)
      | (with_reducible exact LeO.refl _)
      | (with_reducible exact LeO.none _)
      | (with_reducible refine LeO.ite ?_ ?_)
      | (with_reducible refine LeO.bind ?_ (fun _ => ?_))
      | exact ih0 _ _
      | exact ih1 _ _ _ _
      | exact LeO.none _
      | refine LeO.ite ?_ ?_
      | refine LeO.bind ?_ (fun _ => ?_)
set_option maxHeartbeats 8000000 in
set_option maxRecDepth 100000 in
theorem vinculumref13_Name.calls (k : Nat) (a0 : Int) (r1 : ByteArray) (r2 : Int) (w : World) (h : vinculumref13_Name.f k a0 = some (r1, r2)) :
    Calls Try.prog 13 #[.int .i64 a0] w fun e w' => e = .returned (.tuple #[.string r1, .int .i64 r2]) ∧ Drawn0 w w' := by
  have H : (if a0 < 0 then (vinculumref13_Name.j0 k a0 true) else (vinculumref13_Name.j0 k a0 (decide (a0 > 55)))) = some (r1, r2) := h
  clear h
  have HC2 := Aside0.mk H
  clear H
  go_enter Try.func13, Try.ntmps13
  go_upto_region 1 with (fail)
  go_cut [12] (fun v12 wc => ∃ (kq : Nat) (x12_1 : Bool), v12 = .bool x12_1 ∧ Aside0 (vinculumref13_Name.j0 kq a0 x12_1 = some (r1, r2)) ∧ Aside0 (kq ≤ k) ∧ Drawn0 w wc)
  case first =>
    have H := HC2.out
    clear HC2
    by_cases c3 : a0 < 0
    · rw [if_pos c3] at H
      have c3b0 : decide (a0 < 0) = true := decide_eq_true c3
      clear c3
      (first | rw [c3b0] | (simp only [i64_w, i32_w]; rw [c3b0]) | skip)
      have H' := Aside0.mk H
      clear H
      go_wp2
      go_meet
      case rel => exact ⟨_, (true), (by first | rfl | (simp; done) | (simp [*]; done)), H', ⟨by first | omega | exact Nat.le_refl _⟩, by repeat (first | exact Drawn0.refl _ | apply Drawn0.step)⟩
    · rw [if_neg c3] at H
      have c3b0 : decide (a0 < 0) = false := decide_eq_false c3
      clear c3
      (first | rw [c3b0] | (simp only [i64_w, i32_w]; rw [c3b0]) | skip)
      have H' := Aside0.mk H
      clear H
      go_wp2
      go_meet
      case rel => exact ⟨_, (decide (a0 > 55)), (by first | rfl | (simp; done) | (simp [*]; done)), H', ⟨by first | omega | exact Nat.le_refl _⟩, by repeat (first | exact Drawn0.refl _ | apply Drawn0.step)⟩
  case rest =>
    clear HC2
    try clear c1
    try clear p2
    try clear c3
    try clear c3b0
    obtain ⟨kq, x12_1, rfl, HA, HJ1, ⟨mc1, rfl⟩⟩ := hcut
    cases kq with
    | zero => exact absurd HA.out (by simp [vinculumref13_Name.j0])
    | succ kj1 =>
      have H := HA.out
      clear HA
      simp only [vinculumref13_Name.j0] at H
      by_cases c4 : x12_1 = true
      · subst c4
        have H1 : (some ((⟨#[]⟩ : ByteArray), 1)) = some (r1, r2) := by rw [if_pos rfl] at H; exact H
        clear H
        have H := H1
        clear H1
        simp only [Option.some.injEq, Prod.mk.injEq] at H
        obtain ⟨rfl, rfl⟩ := H
        go_wp2
        go_ret2
        exact ⟨by first | rfl | (simp; done) | (simp [*]; done), by repeat (first | exact Drawn0.refl _ | apply Drawn0.step)⟩
      · replace c4 := Bool.eq_false_iff.mpr c4
        subst c4
        have H1 : ((vinculumref13_names.f).bind fun t126 => (vinculumref13_Name.l0 kj1 a0 t126 0 0)) = some (r1, r2) := by rw [if_neg (show ¬ (false = true) by decide)] at H; exact H
        clear H
        have H := H1
        clear H1
        replace H := Option.bind_eq_some_iff.mp H
        obtain ⟨t126, A50, H⟩ := H
        replace H : (vinculumref13_Name.l0 kj1 a0 t126 0 0) = some (r1, r2) := H
        have A5 := Aside0.mk A50
        clear A50
        have H' := Aside0.mk H
        clear H
        go_wp2_with (first | ((with_reducible refine gate_callee (f := 31) rfl ?_); refine goesL_ (some 13) rfl rfl Try.func31 (by kernel_rfl) rfl #[] rfl (by (try simp only [List.map_toArray, List.map_cons, List.map_nil]); first | done | rfl | (simp only [List.length_drop, List.length_take]; rfl)) ?_; (with_reducible refine (vinculumref13_names.calls  t126 _ A5.out).mono ?_); rintro e w' ⟨rfl, ⟨nd, rfl⟩⟩; refine ⟨_, rfl, ?_⟩))
        go_loopg [0, 5, 6] kj1 (fun kq v0 v5 v6 w' => ∃ (x0_2 : Int) (x5_2 : Int) (x6_2 : Int), v0 = .int .i64 x0_2 ∧ v5 = .int .i64 x5_2 ∧ v6 = .int .i64 x6_2 ∧ Aside0 (vinculumref13_Name.l0 kq x0_2 t126 x5_2 x6_2 = some (r1, r2)) ∧ Aside0 (kq ≤ kj1) ∧ Drawn0 w w')
        case atStart => exact ⟨(a0), (0), (0), (by first | rfl | (simp; done) | (simp [*]; done)), (by first | rfl | (simp; done) | (simp [*]; done)), (by first | rfl | (simp; done) | (simp [*]; done)), H', ⟨Nat.le_refl _⟩, by repeat (first | exact Drawn0.refl _ | apply Drawn0.step)⟩
        case round =>
          clear H'
          try clear c1
          try clear p2
          try clear c3
          try clear c3b0
          try clear c4
          try clear p2
          obtain ⟨x0_2, x5_2, x6_2, rfl, rfl, rfl, HA, HK2, ⟨m2, rfl⟩⟩ := hrel
          cases gk with
          | zero => exact absurd HA.out (by simp [vinculumref13_Name.l0])
          | succ k2 =>
            have H := HA.out
            clear HA
            simp only [vinculumref13_Name.l0] at H
            by_cases c6 : x6_2 < (t126.size : Int)
            · rw [if_pos c6] at H
              have c6b0 : decide (x6_2 < (t126.size : Int)) = true := decide_eq_true c6
              clear c6
              by_cases c7 : 0 ≤ x6_2
              · rw [if_pos c7] at H
                have c7b0 : decide (0 ≤ x6_2) = true := decide_eq_true c7
                clear c7
                by_cases c9 : (bt t126 x6_2) = 32
                · rw [if_pos c9] at H
                  have c9b0 : ((bt t126 x6_2) == 32) = true := beq_iff_eq.mpr c9
                  have c9b1 : ((bt t126 x6_2) != 32) = false := bne_eq_false_iff_eq.mpr c9
                  clear c9
                  by_cases c10 : x0_2 = 0
                  · rw [if_pos c10] at H
                    have c10b0 : (x0_2 == 0) = true := beq_iff_eq.mpr c10
                    have c10b1 : (x0_2 != 0) = false := bne_eq_false_iff_eq.mpr c10
                    clear c10
                    by_cases c11 : 0 ≤ x5_2
                    · rw [if_pos c11] at H
                      have c11b0 := eq_true c11
                      have c11b1 : decide (0 ≤ x5_2) = true := decide_eq_true c11
                      clear c11
                      by_cases c12 : x5_2 ≤ x6_2
                      · rw [if_pos c12] at H
                        have c12b0 := eq_true c12
                        have c12b1 : decide (x5_2 ≤ x6_2) = true := decide_eq_true c12
                        clear c12
                        by_cases c13 : x6_2 ≤ (t126.size : Int)
                        · rw [if_pos c13] at H
                          have c13b0 := eq_true c13
                          have c13b1 : decide (x6_2 ≤ (t126.size : Int)) = true := decide_eq_true c13
                          clear c13
                          simp only [Option.some.injEq, Prod.mk.injEq] at H
                          obtain ⟨rfl, rfl⟩ := H
                          have p8 : 0 ≤ (x6_2 : Int) := of_decide_eq_true (by first | (with_reducible assumption) | assumption)
                          have q8 : x6_2 < (t126.size : Int) := of_decide_eq_true (by first | (with_reducible assumption) | assumption)
                          have hx8 := bt_at t126 x6_2
                          replace p8 := eq_true p8
                          replace q8 := eq_true q8
                          go_wp2
                          go_ret2
                          exact ⟨by first | rfl | (simp; done) | (simp [*]; done), by repeat (first | exact Drawn0.refl _ | apply Drawn0.step)⟩
                        · rw [if_neg c13] at H
                          exact absurd H (by simp)
                      · rw [if_neg c12] at H
                        exact absurd H (by simp)
                    · rw [if_neg c11] at H
                      exact absurd H (by simp)
                  · rw [if_neg c10] at H
                    have c10b0 : (x0_2 == 0) = false := beq_eq_false_iff_ne.mpr c10
                    have c10b1 : (x0_2 != 0) = true := bne_iff_ne.mpr c10
                    have H' := Aside0.mk H
                    clear H
                    have p8 : 0 ≤ (x6_2 : Int) := of_decide_eq_true (by first | (with_reducible assumption) | assumption)
                    have q8 : x6_2 < (t126.size : Int) := of_decide_eq_true (by first | (with_reducible assumption) | assumption)
                    have hx8 := bt_at t126 x6_2
                    replace p8 := eq_true p8
                    replace q8 := eq_true q8
                    go_wp2
                    go_roundg k2
                    case measure => have := HJ1.out; have := HK2.out; omega
                    case rel => exact ⟨(wrap64 (x0_2 - 1)), (wrap64 (x6_2 + 1)), (wrap64 (x6_2 + 1)), (by first | rfl | (simp; done) | (simp [*]; done)), (by first | rfl | (simp; done) | (simp [*]; done)), (by first | rfl | (simp; done) | (simp [*]; done)), H', ⟨by have := HJ1.out; have := HK2.out; omega⟩, by repeat (first | exact Drawn0.refl _ | apply Drawn0.step)⟩
                · rw [if_neg c9] at H
                  have c9b0 : ((bt t126 x6_2) == 32) = false := beq_eq_false_iff_ne.mpr c9
                  have c9b1 : ((bt t126 x6_2) != 32) = true := bne_iff_ne.mpr c9
                  have H' := Aside0.mk H
                  clear H
                  have p8 : 0 ≤ (x6_2 : Int) := of_decide_eq_true (by first | (with_reducible assumption) | assumption)
                  have q8 : x6_2 < (t126.size : Int) := of_decide_eq_true (by first | (with_reducible assumption) | assumption)
                  have hx8 := bt_at t126 x6_2
                  replace p8 := eq_true p8
                  replace q8 := eq_true q8
                  go_wp2
                  go_roundg k2
                  case measure => have := HJ1.out; have := HK2.out; omega
                  case rel => exact ⟨(x0_2), (x5_2), (wrap64 (x6_2 + 1)), (by first | rfl | (simp; done) | (simp [*]; done)), (by first | rfl | (simp; done) | (simp [*]; done)), (by first | rfl | (simp; done) | (simp [*]; done)), H', ⟨by have := HJ1.out; have := HK2.out; omega⟩, by repeat (first | exact Drawn0.refl _ | apply Drawn0.step)⟩
              · rw [if_neg c7] at H
                exact absurd H (by simp)
            · rw [if_neg c6] at H
              have c6b0 : decide (x6_2 < (t126.size : Int)) = false := decide_eq_false c6
              clear c6
              simp only [Option.some.injEq, Prod.mk.injEq] at H
              obtain ⟨rfl, rfl⟩ := H
              go_wp2
              go_ret2
              exact ⟨by first | rfl | (simp; done) | (simp [*]; done), by repeat (first | exact Drawn0.refl _ | apply Drawn0.step)⟩

end Go.Proofs.Ytgleffjeaognfaa.P
