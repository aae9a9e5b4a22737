/- Each theorem here says that a call of one Go function ends with what the plain function of that name answers (printed by a program of this session); a law's row says that the law returns true for every input. No condition. -/
import Derived.Test.YtipbcjegigonjaaPx0
import Derived.Test.YtipbcjegigonjaaPx1
import Derived.Test.YtipbcjegigonjaaPx6
import Derived.Test.YtipbcjegigonjaaPx8
import Derived.Test.YtipbcjegigonjaaBinPad
namespace Go.Proofs.Ytipbcjegigonjaa.P
open Go.RowKit Go.Proofs.YtipbcjegigonjaaW.PrintWords Go.Proofs.YtipbcjegigonjaaW.PrintLast Go.Proofs.YtipbcjegigonjaaW.PrintMore
attribute [local go_sem] max2_int min2_int max_two min_two max_three min_three max_four min_four   -- for this text's walks alone
set_option linter.unusedVariables false
set_option linter.unusedSimpArgs false

/-! ### vinculumlaw03_BinSums: function 6 -/
mutual
def vinculumlaw03_BinSums.j0 : Nat → ByteArray → ByteArray → Bool → Option (Bool)
  | 0, _, _, _ => none
  | k + 1, x0, x1, x17 => if x17 = true then (some true) else ((bin_Pad.f x0 4).bind fun bt237 => ((bin_Pad.f x0 2).bind fun bt239 => (if bt237.2 = 0 then (if bt239.2 = 0 then (if ((bt237.1.size : Int) % 4) = 0 then (if (wrap64 ((bt237.1.size : Int) - (x0.size : Int))) > 3 then (vinculumlaw03_BinSums.j1 k x0 x1 bt237.1 bt239.1 true) else (if (bt237.1.size : Int) < (x0.size : Int) then (vinculumlaw03_BinSums.j1 k x0 x1 bt237.1 bt239.1 true) else (if 0 ≤ (x0.size : Int) then (if (x0.size : Int) ≤ (bt237.1.size : Int) then (vinculumlaw03_BinSums.j1 k x0 x1 bt237.1 bt239.1 ((bt237.1.extract 0 ((x0.size : Int) : Int).toNat).toList != x0.toList)) else (none)) else (none)))) else (vinculumlaw03_BinSums.j1 k x0 x1 bt237.1 bt239.1 true)) else (vinculumlaw03_BinSums.j1 k x0 x1 bt237.1 bt239.1 true)) else (vinculumlaw03_BinSums.j1 k x0 x1 bt237.1 bt239.1 true))))
def vinculumlaw03_BinSums.j1 : Nat → ByteArray → ByteArray → ByteArray → ByteArray → Bool → Option (Bool)
  | 0, _, _, _, _, _ => none
  | k + 1, x0, x1, x5, x7, x62 => if x62 = true then (some false) else ((bin_Sum.f k x0).bind fun t241 => ((vinculumlaw03_read.f k).bind fun t242 => (if t242 = true then ((bin_Sum.f k x5).bind fun t243 => (if t243 = t241 then ((bin_Sum.f k x7).bind fun t244 => (if t244 = t241 then (if 4 + x0.size ≤ 9223372036854775807 then ((bin_Sum.f k ((⟨#[0, 0, 0, 0]⟩ : ByteArray) ++ x0)).bind fun t245 => (if t245 = t241 then (if x5.size + x1.size ≤ 9223372036854775807 then ((bin_Sum.f k (x5 ++ x1)).bind fun t246 => ((bin_Sum.f k x1).bind fun t247 => (some (t246 == (Int.tmod (wrap64 (t241 + t247)) 4294967296))))) else (none)) else (some false))) else (none)) else (some false))) else (some false))) else (some false))))
end
def vinculumlaw03_BinSums.f (k : Nat) (a0 : ByteArray) (a1 : ByteArray) : Option (Bool) := (vinculumlaw03_few.f a0 ([] : List Int) ([] : List Int)).bind fun t235 => (if t235 = true then ((vinculumlaw03_few.f a1 ([] : List Int) ([] : List Int)).bind fun t236 => (vinculumlaw03_BinSums.j0 k a0 a1 (!t236))) else (vinculumlaw03_BinSums.j0 k a0 a1 true))
theorem vinculumlaw03_BinSums.mono_l : ∀ k, (∀ y0 y1 y2, LeO (vinculumlaw03_BinSums.j0 k y0 y1 y2) (vinculumlaw03_BinSums.j0 (k + 1) y0 y1 y2)) ∧ (∀ y0 y1 y2 y3 y4, LeO (vinculumlaw03_BinSums.j1 k y0 y1 y2 y3 y4) (vinculumlaw03_BinSums.j1 (k + 1) y0 y1 y2 y3 y4))
  | 0 => ⟨fun _ _ _ r h => by simp [vinculumlaw03_BinSums.j0] at h, fun _ _ _ _ _ r h => by simp [vinculumlaw03_BinSums.j1] at h⟩
  | k + 1 => by
    obtain ⟨ih0, ih1⟩ := vinculumlaw03_BinSums.mono_l k
    refine ⟨?_, ?_⟩
    · intro y0 y1 y2
      unfold vinculumlaw03_BinSums.j0
      repeat' first
      | (with_reducible exact ih0 _ _ _)
      | (with_reducible exact ih1 _ _ _ _ _)
      | (with_reducible exact bin_Sum.mono _ _)
      | (with_reducible exact vinculumlaw03_read.mono _)
      | (with_reducible exact LeO.refl _)
      | (with_reducible exact LeO.none _)
      | (with_reducible refine LeO.ite ?_ ?_)
      | (with_reducible refine LeO.bind ?_ (fun _ => ?_))
      | exact ih0 _ _ _
      | exact ih1 _ _ _ _ _
      | exact bin_Sum.mono _ _
      | exact vinculumlaw03_read.mono _
      | exact LeO.none _
      | refine LeO.ite ?_ ?_
      | refine LeO.bind ?_ (fun _ => ?_)
    · intro y0 y1 y2 y3 y4
      unfold vinculumlaw03_BinSums.j1
      repeat' first
      | (with_reducible exact ih0 _ _ _)
      | (with_reducible exact ih1 _ _ _ _ _)
      | (with_reducible exact bin_Sum.mono _ _)
      | (with_reducible exact vinculumlaw03_read.mono _)
      | (with_reducible exact LeO.refl _)
      | (with_reducible exact LeO.none _)
      | (with_reducible refine LeO.ite ?_ ?_)
      | (with_reducible refine LeO.bind ?_ (fun _ => ?_))
      | exact ih0 _ _ _
      | exact ih1 _ _ _ _ _
      | exact bin_Sum.mono _ _
      | exact vinculumlaw03_read.mono _
      | exact LeO.none _
      | refine LeO.ite ?_ ?_
      | refine LeO.bind ?_ (fun _ => ?_)
theorem vinculumlaw03_BinSums.mono : ∀ a0 a1 k, LeO (vinculumlaw03_BinSums.f k a0 a1) (vinculumlaw03_BinSums.f (k + 1) a0 a1) := by
  intro a0 a1 k
  obtain ⟨ih0, ih1⟩ := vinculumlaw03_BinSums.mono_l k
  unfold vinculumlaw03_BinSums.f
  repeat' first
      | (with_reducible exact ih0 _ _ _)
      | (with_reducible exact ih1 _ _ _ _ _)
      | (with_reducible exact bin_Sum.mono _ _)
      | (with_reducible exact vinculumlaw03_read.mono _)
      | (with_reducible exact LeO.refl _)
      | (with_reducible exact LeO.none _)
      | (with_reducible refine LeO.ite ?_ ?_)
      | (with_reducible refine LeO.bind ?_ (fun _ => ?_))
      | exact ih0 _ _ _
      | exact ih1 _ _ _ _ _
      | exact bin_Sum.mono _ _
      | exact vinculumlaw03_read.mono _
      | exact LeO.none _
      | refine LeO.ite ?_ ?_
      | refine LeO.bind ?_ (fun _ => ?_)
set_option maxHeartbeats 8000000 in
set_option maxRecDepth 100000 in
theorem vinculumlaw03_BinSums.calls (k : Nat) (a0 : ByteArray) (a1 : ByteArray) (r : Bool) (w : World) (h : vinculumlaw03_BinSums.f k a0 a1 = some r) :
    Calls Try.prog 6 #[.string a0, .string a1] w fun e w' => e = .returned (.bool r) ∧ Below w.heap.size w w' := by
  have HB := Aside0.mk (Below.refl w.heap.size w)
  have H : ((vinculumlaw03_few.f a0 ([] : List Int) ([] : List Int)).bind fun t235 => (if t235 = true then ((vinculumlaw03_few.f a1 ([] : List Int) ([] : List Int)).bind fun t236 => (vinculumlaw03_BinSums.j0 k a0 a1 (!t236))) else (vinculumlaw03_BinSums.j0 k a0 a1 true))) = some r := h
  clear h
  have HC3 := Aside0.mk H
  clear H
  go_enter Try.func6, Try.ntmps6
  go_upto_region 1 with (fail)
  go_cut [17] (fun v17 wc => ∃ (kq : Nat) (x17_2 : Bool), v17 = .bool x17_2 ∧ Aside0 (vinculumlaw03_BinSums.j0 kq a0 a1 x17_2 = some r) ∧ Aside0 (kq ≤ k) ∧ Aside0 (Below w.heap.size w wc))
  case first =>
    have H := HC3.out
    clear HC3
    replace H := Option.bind_eq_some_iff.mp H
    obtain ⟨t235, A40, H⟩ := H
    replace H : (if t235 = true then ((vinculumlaw03_few.f a1 ([] : List Int) ([] : List Int)).bind fun t236 => (vinculumlaw03_BinSums.j0 k a0 a1 (!t236))) else (vinculumlaw03_BinSums.j0 k a0 a1 true)) = some r := H
    have A4 := Aside0.mk A40
    clear A40
    by_cases c5 : t235 = true
    · subst c5
      have H1 : ((vinculumlaw03_few.f a1 ([] : List Int) ([] : List Int)).bind fun t236 => (vinculumlaw03_BinSums.j0 k a0 a1 (!t236))) = some r := by rw [if_pos rfl] at H; exact H
      clear H
      have H := H1
      clear H1
      replace H := Option.bind_eq_some_iff.mp H
      obtain ⟨t236, A60, H⟩ := H
      replace H : (vinculumlaw03_BinSums.j0 k a0 a1 (!t236)) = some r := H
      have A6 := Aside0.mk A60
      clear A60
      have H' := Aside0.mk H
      clear H
      go_wp2_with (first | ((with_reducible refine gate_callee (f := 8) rfl ?_); refine goesL_ (some 11) rfl rfl Try.func8 (by kernel_rfl) rfl #[.string a0, .slice none 0 0, .slice none 0 0] rfl (by (try simp only [List.map_toArray, List.map_cons, List.map_nil]); first | done | rfl | (simp only [List.length_drop, List.length_take]; rfl)) ?_; (refine (vinculumlaw03_few.calls a0 _ _ ([] : List Int) _ _ ([] : List Int) true _ ?side1 ?side2 ?side3 ?side4 A4.out).mono ?_); (case side1 => exact Kd.C_nil _ _); (case side2 => exact Nat.le_refl _); (case side3 => exact Kd.C_nil _ _); (case side4 => exact Nat.le_refl _); rintro e w' ⟨rfl, ⟨nd, rfl⟩⟩; refine ⟨_, rfl, ?_⟩) | (go_at_call 8; (refine (vinculumlaw03_few.calls a1 _ _ ([] : List Int) _ _ ([] : List Int) t236 _ ?side1 ?side2 ?side3 ?side4 A6.out).mono ?_); (case side1 => exact Kd.C_nil _ _); (case side2 => exact Nat.le_refl _); (case side3 => exact Kd.C_nil _ _); (case side4 => exact Nat.le_refl _); rintro e w' ⟨rfl, ⟨nd, rfl⟩⟩))
      go_meet
      case rel => exact ⟨_, (!t236), (by first | rfl | (simp; done) | (simp [*]; done)), H', ⟨by first | omega | exact Nat.le_refl _⟩, ⟨by repeat (first | (with_reducible first | exact HB.out | apply below_alloc | apply pw_below_drewN | apply below_drew1) | exact HB.out)⟩⟩
    · replace c5 := Bool.eq_false_iff.mpr c5
      subst c5
      have H1 : (vinculumlaw03_BinSums.j0 k a0 a1 true) = some r := by rw [if_neg (show ¬ (false = true) by decide)] at H; exact H
      clear H
      have H := H1
      clear H1
      have H' := Aside0.mk H
      clear H
      go_wp2_with (first | ((with_reducible refine gate_callee (f := 8) rfl ?_); refine goesL_ (some 11) rfl rfl Try.func8 (by kernel_rfl) rfl #[.string a0, .slice none 0 0, .slice none 0 0] rfl (by (try simp only [List.map_toArray, List.map_cons, List.map_nil]); first | done | rfl | (simp only [List.length_drop, List.length_take]; rfl)) ?_; (refine (vinculumlaw03_few.calls a0 _ _ ([] : List Int) _ _ ([] : List Int) false _ ?side1 ?side2 ?side3 ?side4 A4.out).mono ?_); (case side1 => exact Kd.C_nil _ _); (case side2 => exact Nat.le_refl _); (case side3 => exact Kd.C_nil _ _); (case side4 => exact Nat.le_refl _); rintro e w' ⟨rfl, ⟨nd, rfl⟩⟩; refine ⟨_, rfl, ?_⟩))
      go_meet
      case rel => exact ⟨_, (true), (by first | rfl | (simp; done) | (simp [*]; done)), H', ⟨by first | omega | exact Nat.le_refl _⟩, ⟨by repeat (first | (with_reducible first | exact HB.out | apply below_alloc | apply pw_below_drewN | apply below_drew1) | exact HB.out)⟩⟩
  case rest =>
    clear HC3
    try clear p2
    try clear c5
    try clear c6
    obtain ⟨kq, x17_2, rfl, HA, HJ2, HB⟩ := hcut
    cases kq with
    | zero => exact absurd HA.out (by simp [vinculumlaw03_BinSums.j0])
    | succ kj2 =>
      have H := HA.out
      clear HA
      simp only [vinculumlaw03_BinSums.j0] at H
      by_cases c7 : x17_2 = true
      · subst c7
        have H1 : (some true) = some r := by rw [if_pos rfl] at H; exact H
        clear H
        have H := H1
        clear H1
        obtain rfl := Option.some.inj H
        go_wp2
        go_ret
        exact ⟨by first | rfl | (simp [errW_none, errW_some] <;> rfl) | (simp [*, errW_none, errW_some] <;> rfl), by repeat (first | (with_reducible first | exact HB.out | apply below_alloc | apply pw_below_drewN | apply below_drew1) | exact HB.out)⟩
      · replace c7 := Bool.eq_false_iff.mpr c7
        subst c7
        have H1 : ((bin_Pad.f a0 4).bind fun bt237 => ((bin_Pad.f a0 2).bind fun bt239 => (if bt237.2 = 0 then (if bt239.2 = 0 then (if ((bt237.1.size : Int) % 4) = 0 then (if (wrap64 ((bt237.1.size : Int) - (a0.size : Int))) > 3 then (vinculumlaw03_BinSums.j1 kj2 a0 a1 bt237.1 bt239.1 true) else (if (bt237.1.size : Int) < (a0.size : Int) then (vinculumlaw03_BinSums.j1 kj2 a0 a1 bt237.1 bt239.1 true) else (if 0 ≤ (a0.size : Int) then (if (a0.size : Int) ≤ (bt237.1.size : Int) then (vinculumlaw03_BinSums.j1 kj2 a0 a1 bt237.1 bt239.1 ((bt237.1.extract 0 ((a0.size : Int) : Int).toNat).toList != a0.toList)) else (none)) else (none)))) else (vinculumlaw03_BinSums.j1 kj2 a0 a1 bt237.1 bt239.1 true)) else (vinculumlaw03_BinSums.j1 kj2 a0 a1 bt237.1 bt239.1 true)) else (vinculumlaw03_BinSums.j1 kj2 a0 a1 bt237.1 bt239.1 true)))) = some r := by rw [if_neg (show ¬ (false = true) by decide)] at H; exact H
        clear H
        have H := H1
        clear H1
        replace H := Option.bind_eq_some_iff.mp H
        obtain ⟨⟨t237, t238⟩, A80, H⟩ := H
        replace H : ((bin_Pad.f a0 2).bind fun bt239 => (if t238 = 0 then (if bt239.2 = 0 then (if ((t237.size : Int) % 4) = 0 then (if (wrap64 ((t237.size : Int) - (a0.size : Int))) > 3 then (vinculumlaw03_BinSums.j1 kj2 a0 a1 t237 bt239.1 true) else (if (t237.size : Int) < (a0.size : Int) then (vinculumlaw03_BinSums.j1 kj2 a0 a1 t237 bt239.1 true) else (if 0 ≤ (a0.size : Int) then (if (a0.size : Int) ≤ (t237.size : Int) then (vinculumlaw03_BinSums.j1 kj2 a0 a1 t237 bt239.1 ((t237.extract 0 ((a0.size : Int) : Int).toNat).toList != a0.toList)) else (none)) else (none)))) else (vinculumlaw03_BinSums.j1 kj2 a0 a1 t237 bt239.1 true)) else (vinculumlaw03_BinSums.j1 kj2 a0 a1 t237 bt239.1 true)) else (vinculumlaw03_BinSums.j1 kj2 a0 a1 t237 bt239.1 true))) = some r := H
        have A8 := Aside0.mk A80
        clear A80
        replace H := Option.bind_eq_some_iff.mp H
        obtain ⟨⟨t239, t240⟩, A90, H⟩ := H
        replace H : (if t238 = 0 then (if t240 = 0 then (if ((t237.size : Int) % 4) = 0 then (if (wrap64 ((t237.size : Int) - (a0.size : Int))) > 3 then (vinculumlaw03_BinSums.j1 kj2 a0 a1 t237 t239 true) else (if (t237.size : Int) < (a0.size : Int) then (vinculumlaw03_BinSums.j1 kj2 a0 a1 t237 t239 true) else (if 0 ≤ (a0.size : Int) then (if (a0.size : Int) ≤ (t237.size : Int) then (vinculumlaw03_BinSums.j1 kj2 a0 a1 t237 t239 ((t237.extract 0 ((a0.size : Int) : Int).toNat).toList != a0.toList)) else (none)) else (none)))) else (vinculumlaw03_BinSums.j1 kj2 a0 a1 t237 t239 true)) else (vinculumlaw03_BinSums.j1 kj2 a0 a1 t237 t239 true)) else (vinculumlaw03_BinSums.j1 kj2 a0 a1 t237 t239 true)) = some r := H
        have A9 := Aside0.mk A90
        clear A90
        have HC10 := Aside0.mk H
        clear H
        go_upto_region 5 with (first | ((with_reducible refine gate_callee (f := 19) rfl ?_); refine goesL_ (some 20) rfl rfl Try.func19 (by kernel_rfl) rfl #[.string a0, .int .i64 4] rfl (by (try simp only [List.map_toArray, List.map_cons, List.map_nil]); first | done | rfl | (simp only [List.length_drop, List.length_take]; rfl)) ?_; (with_reducible refine (bin_Pad.calls a0 4 t237 t238 _ A8.out).mono ?_); rintro e w11 ⟨rfl, hb⟩; refine ⟨_, rfl, ?_⟩; have n0_ := Aside0.mk (below_step (by repeat (first | (with_reducible first | exact HB.out | apply below_alloc | apply pw_below_drewN | apply below_drew1) | exact HB.out)) hb); clear HB; have HB := n0_; clear n0_; (try clear hb); (try clear hb2); (try clear hk); (try clear hi)) | ((with_reducible refine gate_callee (f := 19) rfl ?_); refine goesL_ (some 25) rfl rfl Try.func19 (by kernel_rfl) rfl #[.string a0, .int .i64 2] rfl (by (try simp only [List.map_toArray, List.map_cons, List.map_nil]); first | done | rfl | (simp only [List.length_drop, List.length_take]; rfl)) ?_; (with_reducible refine (bin_Pad.calls a0 2 t239 t240 _ A9.out).mono ?_); rintro e w12 ⟨rfl, hb⟩; refine ⟨_, rfl, ?_⟩; have n0_ := Aside0.mk (below_step (by repeat (first | (with_reducible first | exact HB.out | apply below_alloc | apply pw_below_drewN | apply below_drew1) | exact HB.out)) hb); clear HB; have HB := n0_; clear n0_; (try clear hb); (try clear hb2); (try clear hk); (try clear hi)))
        (try simp only [Act.put, List.setIfInBounds_toArray, List.set_cons_zero, List.set_cons_succ])
        go_cut [62] (fun v62 wc => ∃ (kq : Nat) (x62_9 : Bool), v62 = .bool x62_9 ∧ Aside0 (vinculumlaw03_BinSums.j1 kq a0 a1 t237 t239 x62_9 = some r) ∧ Aside0 (kq ≤ kj2) ∧ Aside0 (Below w.heap.size w wc))
        case first =>
          have H := HC10.out
          clear HC10
          by_cases c13 : t238 = 0
          · rw [if_pos c13] at H
            have c13b0 : (t238 == 0) = true := beq_iff_eq.mpr c13
            have c13b1 : (t238 != 0) = false := bne_eq_false_iff_eq.mpr c13
            clear c13
            (first | rw [c13b0] | (simp only [i64_w, i32_w]; rw [c13b0]) | skip)
            by_cases c14 : t240 = 0
            · rw [if_pos c14] at H
              have c14b0 : (t240 == 0) = true := beq_iff_eq.mpr c14
              have c14b1 : (t240 != 0) = false := bne_eq_false_iff_eq.mpr c14
              clear c14
              by_cases c15 : ((t237.size : Int) % 4) = 0
              · rw [if_pos c15] at H
                have c15b0 : (((t237.size : Int) % 4) == 0) = true := beq_iff_eq.mpr c15
                have c15b1 : (((t237.size : Int) % 4) != 0) = false := bne_eq_false_iff_eq.mpr c15
                clear c15
                by_cases c16 : (wrap64 ((t237.size : Int) - (a0.size : Int))) > 3
                · rw [if_pos c16] at H
                  have c16b0 : decide (3 < (wrap64 ((t237.size : Int) - (a0.size : Int)))) = true := decide_eq_true c16
                  clear c16
                  have H' := Aside0.mk H
                  clear H
                  go_wp2
                  go_meet
                  case rel => exact ⟨_, (true), (by first | rfl | (simp; done) | (simp [*]; done)), H', ⟨by have := HJ2.out; first | omega | exact Nat.le_refl _⟩, ⟨by repeat (first | (with_reducible first | exact HB.out | apply below_alloc | apply pw_below_drewN | apply below_drew1) | exact HB.out)⟩⟩
                · rw [if_neg c16] at H
                  have c16b0 : decide (3 < (wrap64 ((t237.size : Int) - (a0.size : Int)))) = false := decide_eq_false c16
                  clear c16
                  by_cases c17 : (t237.size : Int) < (a0.size : Int)
                  · rw [if_pos c17] at H
                    have c17b0 : decide ((t237.size : Int) < (a0.size : Int)) = true := decide_eq_true c17
                    have c17b1 : decide (t237.size < a0.size) = true := decide_eq_true (Int.ofNat_lt.mp c17)
                    clear c17
                    have H' := Aside0.mk H
                    clear H
                    go_wp2
                    go_meet
                    case rel => exact ⟨_, (true), (by first | rfl | (simp; done) | (simp [*]; done)), H', ⟨by have := HJ2.out; first | omega | exact Nat.le_refl _⟩, ⟨by repeat (first | (with_reducible first | exact HB.out | apply below_alloc | apply pw_below_drewN | apply below_drew1) | exact HB.out)⟩⟩
                  · rw [if_neg c17] at H
                    have c17b0 : decide ((t237.size : Int) < (a0.size : Int)) = false := decide_eq_false c17
                    have c17b1 : decide (t237.size < a0.size) = false := decide_eq_false (fun h => c17 (Int.ofNat_lt.mpr h))
                    clear c17
                    by_cases c18 : 0 ≤ (a0.size : Int)
                    · rw [if_pos c18] at H
                      have c18b0 := eq_true c18
                      have c18b1 : decide (0 ≤ (a0.size : Int)) = true := decide_eq_true c18
                      clear c18
                      by_cases c19 : (a0.size : Int) ≤ (t237.size : Int)
                      · rw [if_pos c19] at H
                        have c19b0 := eq_true c19
                        have c19b1 : decide ((a0.size : Int) ≤ (t237.size : Int)) = true := decide_eq_true c19
                        clear c19
                        have H' := Aside0.mk H
                        clear H
                        go_wp2
                        go_meet
                        case rel => exact ⟨_, (((t237.extract 0 ((a0.size : Int) : Int).toNat).toList != a0.toList)), (by first | rfl | (simp; done) | (simp [*]; done)), H', ⟨by have := HJ2.out; first | omega | exact Nat.le_refl _⟩, ⟨by repeat (first | (with_reducible first | exact HB.out | apply below_alloc | apply pw_below_drewN | apply below_drew1) | exact HB.out)⟩⟩
                      · rw [if_neg c19] at H
                        exact absurd H (by simp)
                    · rw [if_neg c18] at H
                      exact absurd H (by simp)
              · rw [if_neg c15] at H
                have c15b0 : (((t237.size : Int) % 4) == 0) = false := beq_eq_false_iff_ne.mpr c15
                have c15b1 : (((t237.size : Int) % 4) != 0) = true := bne_iff_ne.mpr c15
                have H' := Aside0.mk H
                clear H
                go_wp2
                go_meet
                case rel => exact ⟨_, (true), (by first | rfl | (simp; done) | (simp [*]; done)), H', ⟨by have := HJ2.out; first | omega | exact Nat.le_refl _⟩, ⟨by repeat (first | (with_reducible first | exact HB.out | apply below_alloc | apply pw_below_drewN | apply below_drew1) | exact HB.out)⟩⟩
            · rw [if_neg c14] at H
              have c14b0 : (t240 == 0) = false := beq_eq_false_iff_ne.mpr c14
              have c14b1 : (t240 != 0) = true := bne_iff_ne.mpr c14
              have H' := Aside0.mk H
              clear H
              go_wp2
              go_meet
              case rel => exact ⟨_, (true), (by first | rfl | (simp; done) | (simp [*]; done)), H', ⟨by have := HJ2.out; first | omega | exact Nat.le_refl _⟩, ⟨by repeat (first | (with_reducible first | exact HB.out | apply below_alloc | apply pw_below_drewN | apply below_drew1) | exact HB.out)⟩⟩
          · rw [if_neg c13] at H
            have c13b0 : (t238 == 0) = false := beq_eq_false_iff_ne.mpr c13
            have c13b1 : (t238 != 0) = true := bne_iff_ne.mpr c13
            (first | rw [c13b0] | (simp only [i64_w, i32_w]; rw [c13b0]) | skip)
            have H' := Aside0.mk H
            clear H
            go_wp2
            go_meet
            case rel => exact ⟨_, (true), (by first | rfl | (simp; done) | (simp [*]; done)), H', ⟨by have := HJ2.out; first | omega | exact Nat.le_refl _⟩, ⟨by repeat (first | (with_reducible first | exact HB.out | apply below_alloc | apply pw_below_drewN | apply below_drew1) | exact HB.out)⟩⟩
        case rest =>
          clear HC10
          try clear c1
          try clear p2
          try clear c5
          try clear c6
          try clear p6
          try clear c7
          try clear c8
          try clear c13
          try clear c13b0
          try clear c13b1
          try clear c14
          try clear c14b0
          try clear c14b1
          try clear c15
          try clear c15b0
          try clear c15b1
          try clear c16
          try clear c16b0
          try clear c17
          try clear c17b0
          try clear c17b1
          try clear c18
          try clear c18b0
          try clear c18b1
          try clear c19
          try clear c19b0
          try clear c19b1
          try clear p2
          obtain ⟨kq, x62_9, rfl, HA, HJ9, HB⟩ := hcut
          cases kq with
          | zero => exact absurd HA.out (by simp [vinculumlaw03_BinSums.j1])
          | succ kj9 =>
            have H := HA.out
            clear HA
            simp only [vinculumlaw03_BinSums.j1] at H
            by_cases c20 : x62_9 = true
            · subst c20
              have H1 : (some false) = some r := by rw [if_pos rfl] at H; exact H
              clear H
              have H := H1
              clear H1
              obtain rfl := Option.some.inj H
              go_wp2
              go_ret
              exact ⟨by first | rfl | (simp [errW_none, errW_some] <;> rfl) | (simp [*, errW_none, errW_some] <;> rfl), by repeat (first | (with_reducible first | exact HB.out | apply below_alloc | apply pw_below_drewN | apply below_drew1) | exact HB.out)⟩
            · replace c20 := Bool.eq_false_iff.mpr c20
              subst c20
              have H1 : ((bin_Sum.f kj9 a0).bind fun t241 => ((vinculumlaw03_read.f kj9).bind fun t242 => (if t242 = true then ((bin_Sum.f kj9 t237).bind fun t243 => (if t243 = t241 then ((bin_Sum.f kj9 t239).bind fun t244 => (if t244 = t241 then (if 4 + a0.size ≤ 9223372036854775807 then ((bin_Sum.f kj9 ((⟨#[0, 0, 0, 0]⟩ : ByteArray) ++ a0)).bind fun t245 => (if t245 = t241 then (if t237.size + a1.size ≤ 9223372036854775807 then ((bin_Sum.f kj9 (t237 ++ a1)).bind fun t246 => ((bin_Sum.f kj9 a1).bind fun t247 => (some (t246 == (Int.tmod (wrap64 (t241 + t247)) 4294967296))))) else (none)) else (some false))) else (none)) else (some false))) else (some false))) else (some false)))) = some r := by rw [if_neg (show ¬ (false = true) by decide)] at H; exact H
              clear H
              have H := H1
              clear H1
              replace H := Option.bind_eq_some_iff.mp H
              obtain ⟨t241, A210, H⟩ := H
              replace H : ((vinculumlaw03_read.f kj9).bind fun t242 => (if t242 = true then ((bin_Sum.f kj9 t237).bind fun t243 => (if t243 = t241 then ((bin_Sum.f kj9 t239).bind fun t244 => (if t244 = t241 then (if 4 + a0.size ≤ 9223372036854775807 then ((bin_Sum.f kj9 ((⟨#[0, 0, 0, 0]⟩ : ByteArray) ++ a0)).bind fun t245 => (if t245 = t241 then (if t237.size + a1.size ≤ 9223372036854775807 then ((bin_Sum.f kj9 (t237 ++ a1)).bind fun t246 => ((bin_Sum.f kj9 a1).bind fun t247 => (some (t246 == (Int.tmod (wrap64 (t241 + t247)) 4294967296))))) else (none)) else (some false))) else (none)) else (some false))) else (some false))) else (some false))) = some r := H
              have A21 := Aside0.mk A210
              clear A210
              replace H := Option.bind_eq_some_iff.mp H
              obtain ⟨t242, A220, H⟩ := H
              replace H : (if t242 = true then ((bin_Sum.f kj9 t237).bind fun t243 => (if t243 = t241 then ((bin_Sum.f kj9 t239).bind fun t244 => (if t244 = t241 then (if 4 + a0.size ≤ 9223372036854775807 then ((bin_Sum.f kj9 ((⟨#[0, 0, 0, 0]⟩ : ByteArray) ++ a0)).bind fun t245 => (if t245 = t241 then (if t237.size + a1.size ≤ 9223372036854775807 then ((bin_Sum.f kj9 (t237 ++ a1)).bind fun t246 => ((bin_Sum.f kj9 a1).bind fun t247 => (some (t246 == (Int.tmod (wrap64 (t241 + t247)) 4294967296))))) else (none)) else (some false))) else (none)) else (some false))) else (some false))) else (some false)) = some r := H
              have A22 := Aside0.mk A220
              clear A220
              by_cases c23 : t242 = true
              · subst c23
                have H1 : ((bin_Sum.f kj9 t237).bind fun t243 => (if t243 = t241 then ((bin_Sum.f kj9 t239).bind fun t244 => (if t244 = t241 then (if 4 + a0.size ≤ 9223372036854775807 then ((bin_Sum.f kj9 ((⟨#[0, 0, 0, 0]⟩ : ByteArray) ++ a0)).bind fun t245 => (if t245 = t241 then (if t237.size + a1.size ≤ 9223372036854775807 then ((bin_Sum.f kj9 (t237 ++ a1)).bind fun t246 => ((bin_Sum.f kj9 a1).bind fun t247 => (some (t246 == (Int.tmod (wrap64 (t241 + t247)) 4294967296))))) else (none)) else (some false))) else (none)) else (some false))) else (some false))) = some r := by rw [if_pos rfl] at H; exact H
                clear H
                have H := H1
                clear H1
                replace H := Option.bind_eq_some_iff.mp H
                obtain ⟨t243, A240, H⟩ := H
                replace H : (if t243 = t241 then ((bin_Sum.f kj9 t239).bind fun t244 => (if t244 = t241 then (if 4 + a0.size ≤ 9223372036854775807 then ((bin_Sum.f kj9 ((⟨#[0, 0, 0, 0]⟩ : ByteArray) ++ a0)).bind fun t245 => (if t245 = t241 then (if t237.size + a1.size ≤ 9223372036854775807 then ((bin_Sum.f kj9 (t237 ++ a1)).bind fun t246 => ((bin_Sum.f kj9 a1).bind fun t247 => (some (t246 == (Int.tmod (wrap64 (t241 + t247)) 4294967296))))) else (none)) else (some false))) else (none)) else (some false))) else (some false)) = some r := H
                have A24 := Aside0.mk A240
                clear A240
                by_cases c25 : t243 = t241
                · rw [if_pos c25] at H
                  have c25b0 : (t243 == t241) = true := beq_iff_eq.mpr c25
                  have c25b1 : (t243 != t241) = false := bne_eq_false_iff_eq.mpr c25
                  clear c25
                  replace H := Option.bind_eq_some_iff.mp H
                  obtain ⟨t244, A260, H⟩ := H
                  replace H : (if t244 = t241 then (if 4 + a0.size ≤ 9223372036854775807 then ((bin_Sum.f kj9 ((⟨#[0, 0, 0, 0]⟩ : ByteArray) ++ a0)).bind fun t245 => (if t245 = t241 then (if t237.size + a1.size ≤ 9223372036854775807 then ((bin_Sum.f kj9 (t237 ++ a1)).bind fun t246 => ((bin_Sum.f kj9 a1).bind fun t247 => (some (t246 == (Int.tmod (wrap64 (t241 + t247)) 4294967296))))) else (none)) else (some false))) else (none)) else (some false)) = some r := H
                  have A26 := Aside0.mk A260
                  clear A260
                  by_cases c27 : t244 = t241
                  · rw [if_pos c27] at H
                    have c27b0 : (t244 == t241) = true := beq_iff_eq.mpr c27
                    have c27b1 : (t244 != t241) = false := bne_eq_false_iff_eq.mpr c27
                    clear c27
                    by_cases c28 : 4 + a0.size ≤ 9223372036854775807
                    · rw [if_pos c28] at H
                      have c28b0 := eq_true c28
                      have c28b1 : decide (4 + a0.size ≤ 9223372036854775807) = true := decide_eq_true c28
                      try have c28b2 : (9223372036854775807 < 4 + a0.size) = False := eq_false (Nat.not_lt.2 c28)
                      replace H := Option.bind_eq_some_iff.mp H
                      obtain ⟨t245, A290, H⟩ := H
                      replace H : (if t245 = t241 then (if t237.size + a1.size ≤ 9223372036854775807 then ((bin_Sum.f kj9 (t237 ++ a1)).bind fun t246 => ((bin_Sum.f kj9 a1).bind fun t247 => (some (t246 == (Int.tmod (wrap64 (t241 + t247)) 4294967296))))) else (none)) else (some false)) = some r := H
                      have A29 := Aside0.mk A290
                      clear A290
                      by_cases c30 : t245 = t241
                      · rw [if_pos c30] at H
                        have c30b0 : (t245 == t241) = true := beq_iff_eq.mpr c30
                        have c30b1 : (t245 != t241) = false := bne_eq_false_iff_eq.mpr c30
                        clear c30
                        by_cases c31 : t237.size + a1.size ≤ 9223372036854775807
                        · rw [if_pos c31] at H
                          have c31b0 := eq_true c31
                          have c31b1 : decide (t237.size + a1.size ≤ 9223372036854775807) = true := decide_eq_true c31
                          try have c31b2 : (9223372036854775807 < t237.size + a1.size) = False := eq_false (Nat.not_lt.2 c31)
                          replace H := Option.bind_eq_some_iff.mp H
                          obtain ⟨t246, A320, H⟩ := H
                          replace H : ((bin_Sum.f kj9 a1).bind fun t247 => (some (t246 == (Int.tmod (wrap64 (t241 + t247)) 4294967296)))) = some r := H
                          have A32 := Aside0.mk A320
                          clear A320
                          replace H := Option.bind_eq_some_iff.mp H
                          obtain ⟨t247, A330, H⟩ := H
                          replace H : (some (t246 == (Int.tmod (wrap64 (t241 + t247)) 4294967296))) = some r := H
                          have A33 := Aside0.mk A330
                          clear A330
                          obtain rfl := Option.some.inj H
                          go_wp2_with (first | ((with_reducible refine gate_callee (f := 20) rfl ?_); refine goesL_ (some 64) rfl rfl Try.func20 (by kernel_rfl) rfl #[.string a0] rfl (by (try simp only [List.map_toArray, List.map_cons, List.map_nil]); first | done | rfl | (simp only [List.length_drop, List.length_take]; rfl)) ?_; (with_reducible refine (bin_Sum.calls kj9 a0 t241 _ A21.out).mono ?_); rintro e w' ⟨rfl, ⟨nd, rfl⟩⟩; refine ⟨_, rfl, ?_⟩) | ((with_reducible refine gate_callee (f := 14) rfl ?_); refine goesL_ (some 65) rfl rfl Try.func14 (by kernel_rfl) rfl #[] rfl (by (try simp only [List.map_toArray, List.map_cons, List.map_nil]); first | done | rfl | (simp only [List.length_drop, List.length_take]; rfl)) ?_; (with_reducible refine (vinculumlaw03_read.calls kj9  true _ A22.out).mono ?_); rintro e w34 ⟨rfl, hb⟩; refine ⟨_, rfl, ?_⟩; have n0_ := Aside0.mk (below_step (by repeat (first | (with_reducible first | exact HB.out | apply below_alloc | apply pw_below_drewN | apply below_drew1) | exact HB.out)) hb); clear HB; have HB := n0_; clear n0_; (try clear hb); (try clear hb2); (try clear hk); (try clear hi)) | (go_at_call 20; (with_reducible refine (bin_Sum.calls kj9 t237 t243 _ A24.out).mono ?_); rintro e w' ⟨rfl, ⟨nd, rfl⟩⟩) | (go_at_call 20; (with_reducible refine (bin_Sum.calls kj9 t239 t244 _ A26.out).mono ?_); rintro e w' ⟨rfl, ⟨nd, rfl⟩⟩) | (go_at_call 20; (with_reducible refine (bin_Sum.calls kj9 ((⟨#[0, 0, 0, 0]⟩ : ByteArray) ++ a0) t245 _ A29.out).mono ?_); rintro e w' ⟨rfl, ⟨nd, rfl⟩⟩) | (go_at_call 20; (with_reducible refine (bin_Sum.calls kj9 (t237 ++ a1) t246 _ A32.out).mono ?_); rintro e w' ⟨rfl, ⟨nd, rfl⟩⟩) | (go_at_call 20; (with_reducible refine (bin_Sum.calls kj9 a1 t247 _ A33.out).mono ?_); rintro e w' ⟨rfl, ⟨nd, rfl⟩⟩))
                          go_ret
                          exact ⟨by first | rfl | (simp [errW_none, errW_some] <;> rfl) | (simp [*, errW_none, errW_some] <;> rfl), by repeat (first | (with_reducible first | exact HB.out | apply below_alloc | apply pw_below_drewN | apply below_drew1) | exact HB.out)⟩
                        · rw [if_neg c31] at H
                          exact absurd H (by simp)
                      · rw [if_neg c30] at H
                        have c30b0 : (t245 == t241) = false := beq_eq_false_iff_ne.mpr c30
                        have c30b1 : (t245 != t241) = true := bne_iff_ne.mpr c30
                        obtain rfl := Option.some.inj H
                        go_wp2_with (first | ((with_reducible refine gate_callee (f := 20) rfl ?_); refine goesL_ (some 64) rfl rfl Try.func20 (by kernel_rfl) rfl #[.string a0] rfl (by (try simp only [List.map_toArray, List.map_cons, List.map_nil]); first | done | rfl | (simp only [List.length_drop, List.length_take]; rfl)) ?_; (with_reducible refine (bin_Sum.calls kj9 a0 t241 _ A21.out).mono ?_); rintro e w' ⟨rfl, ⟨nd, rfl⟩⟩; refine ⟨_, rfl, ?_⟩) | ((with_reducible refine gate_callee (f := 14) rfl ?_); refine goesL_ (some 65) rfl rfl Try.func14 (by kernel_rfl) rfl #[] rfl (by (try simp only [List.map_toArray, List.map_cons, List.map_nil]); first | done | rfl | (simp only [List.length_drop, List.length_take]; rfl)) ?_; (with_reducible refine (vinculumlaw03_read.calls kj9  true _ A22.out).mono ?_); rintro e w35 ⟨rfl, hb⟩; refine ⟨_, rfl, ?_⟩; have n0_ := Aside0.mk (below_step (by repeat (first | (with_reducible first | exact HB.out | apply below_alloc | apply pw_below_drewN | apply below_drew1) | exact HB.out)) hb); clear HB; have HB := n0_; clear n0_; (try clear hb); (try clear hb2); (try clear hk); (try clear hi)) | (go_at_call 20; (with_reducible refine (bin_Sum.calls kj9 t237 t243 _ A24.out).mono ?_); rintro e w' ⟨rfl, ⟨nd, rfl⟩⟩) | (go_at_call 20; (with_reducible refine (bin_Sum.calls kj9 t239 t244 _ A26.out).mono ?_); rintro e w' ⟨rfl, ⟨nd, rfl⟩⟩) | (go_at_call 20; (with_reducible refine (bin_Sum.calls kj9 ((⟨#[0, 0, 0, 0]⟩ : ByteArray) ++ a0) t245 _ A29.out).mono ?_); rintro e w' ⟨rfl, ⟨nd, rfl⟩⟩))
                        go_ret
                        exact ⟨by first | rfl | (simp [errW_none, errW_some] <;> rfl) | (simp [*, errW_none, errW_some] <;> rfl), by repeat (first | (with_reducible first | exact HB.out | apply below_alloc | apply pw_below_drewN | apply below_drew1) | exact HB.out)⟩
                    · rw [if_neg c28] at H
                      exact absurd H (by simp)
                  · rw [if_neg c27] at H
                    have c27b0 : (t244 == t241) = false := beq_eq_false_iff_ne.mpr c27
                    have c27b1 : (t244 != t241) = true := bne_iff_ne.mpr c27
                    obtain rfl := Option.some.inj H
                    go_wp2_with (first | ((with_reducible refine gate_callee (f := 20) rfl ?_); refine goesL_ (some 64) rfl rfl Try.func20 (by kernel_rfl) rfl #[.string a0] rfl (by (try simp only [List.map_toArray, List.map_cons, List.map_nil]); first | done | rfl | (simp only [List.length_drop, List.length_take]; rfl)) ?_; (with_reducible refine (bin_Sum.calls kj9 a0 t241 _ A21.out).mono ?_); rintro e w' ⟨rfl, ⟨nd, rfl⟩⟩; refine ⟨_, rfl, ?_⟩) | ((with_reducible refine gate_callee (f := 14) rfl ?_); refine goesL_ (some 65) rfl rfl Try.func14 (by kernel_rfl) rfl #[] rfl (by (try simp only [List.map_toArray, List.map_cons, List.map_nil]); first | done | rfl | (simp only [List.length_drop, List.length_take]; rfl)) ?_; (with_reducible refine (vinculumlaw03_read.calls kj9  true _ A22.out).mono ?_); rintro e w36 ⟨rfl, hb⟩; refine ⟨_, rfl, ?_⟩; have n0_ := Aside0.mk (below_step (by repeat (first | (with_reducible first | exact HB.out | apply below_alloc | apply pw_below_drewN | apply below_drew1) | exact HB.out)) hb); clear HB; have HB := n0_; clear n0_; (try clear hb); (try clear hb2); (try clear hk); (try clear hi)) | (go_at_call 20; (with_reducible refine (bin_Sum.calls kj9 t237 t243 _ A24.out).mono ?_); rintro e w' ⟨rfl, ⟨nd, rfl⟩⟩) | (go_at_call 20; (with_reducible refine (bin_Sum.calls kj9 t239 t244 _ A26.out).mono ?_); rintro e w' ⟨rfl, ⟨nd, rfl⟩⟩))
                    go_ret
                    exact ⟨by first | rfl | (simp [errW_none, errW_some] <;> rfl) | (simp [*, errW_none, errW_some] <;> rfl), by repeat (first | (with_reducible first | exact HB.out | apply below_alloc | apply pw_below_drewN | apply below_drew1) | exact HB.out)⟩
                · rw [if_neg c25] at H
                  have c25b0 : (t243 == t241) = false := beq_eq_false_iff_ne.mpr c25
                  have c25b1 : (t243 != t241) = true := bne_iff_ne.mpr c25
                  obtain rfl := Option.some.inj H
                  go_wp2_with (first | ((with_reducible refine gate_callee (f := 20) rfl ?_); refine goesL_ (some 64) rfl rfl Try.func20 (by kernel_rfl) rfl #[.string a0] rfl (by (try simp only [List.map_toArray, List.map_cons, List.map_nil]); first | done | rfl | (simp only [List.length_drop, List.length_take]; rfl)) ?_; (with_reducible refine (bin_Sum.calls kj9 a0 t241 _ A21.out).mono ?_); rintro e w' ⟨rfl, ⟨nd, rfl⟩⟩; refine ⟨_, rfl, ?_⟩) | ((with_reducible refine gate_callee (f := 14) rfl ?_); refine goesL_ (some 65) rfl rfl Try.func14 (by kernel_rfl) rfl #[] rfl (by (try simp only [List.map_toArray, List.map_cons, List.map_nil]); first | done | rfl | (simp only [List.length_drop, List.length_take]; rfl)) ?_; (with_reducible refine (vinculumlaw03_read.calls kj9  true _ A22.out).mono ?_); rintro e w37 ⟨rfl, hb⟩; refine ⟨_, rfl, ?_⟩; have n0_ := Aside0.mk (below_step (by repeat (first | (with_reducible first | exact HB.out | apply below_alloc | apply pw_below_drewN | apply below_drew1) | exact HB.out)) hb); clear HB; have HB := n0_; clear n0_; (try clear hb); (try clear hb2); (try clear hk); (try clear hi)) | (go_at_call 20; (with_reducible refine (bin_Sum.calls kj9 t237 t243 _ A24.out).mono ?_); rintro e w' ⟨rfl, ⟨nd, rfl⟩⟩))
                  go_ret
                  exact ⟨by first | rfl | (simp [errW_none, errW_some] <;> rfl) | (simp [*, errW_none, errW_some] <;> rfl), by repeat (first | (with_reducible first | exact HB.out | apply below_alloc | apply pw_below_drewN | apply below_drew1) | exact HB.out)⟩
              · replace c23 := Bool.eq_false_iff.mpr c23
                subst c23
                have H1 : (some false) = some r := by rw [if_neg (show ¬ (false = true) by decide)] at H; exact H
                clear H
                have H := H1
                clear H1
                obtain rfl := Option.some.inj H
                go_wp2_with (first | ((with_reducible refine gate_callee (f := 20) rfl ?_); refine goesL_ (some 64) rfl rfl Try.func20 (by kernel_rfl) rfl #[.string a0] rfl (by (try simp only [List.map_toArray, List.map_cons, List.map_nil]); first | done | rfl | (simp only [List.length_drop, List.length_take]; rfl)) ?_; (with_reducible refine (bin_Sum.calls kj9 a0 t241 _ A21.out).mono ?_); rintro e w' ⟨rfl, ⟨nd, rfl⟩⟩; refine ⟨_, rfl, ?_⟩) | ((with_reducible refine gate_callee (f := 14) rfl ?_); refine goesL_ (some 65) rfl rfl Try.func14 (by kernel_rfl) rfl #[] rfl (by (try simp only [List.map_toArray, List.map_cons, List.map_nil]); first | done | rfl | (simp only [List.length_drop, List.length_take]; rfl)) ?_; (with_reducible refine (vinculumlaw03_read.calls kj9  false _ A22.out).mono ?_); rintro e w38 ⟨rfl, hb⟩; refine ⟨_, rfl, ?_⟩; have n0_ := Aside0.mk (below_step (by repeat (first | (with_reducible first | exact HB.out | apply below_alloc | apply pw_below_drewN | apply below_drew1) | exact HB.out)) hb); clear HB; have HB := n0_; clear n0_; (try clear hb); (try clear hb2); (try clear hk); (try clear hi)))
                go_ret
                exact ⟨by first | rfl | (simp [errW_none, errW_some] <;> rfl) | (simp [*, errW_none, errW_some] <;> rfl), by repeat (first | (with_reducible first | exact HB.out | apply below_alloc | apply pw_below_drewN | apply below_drew1) | exact HB.out)⟩

/-- THE ONE PURE STATEMENT of vinculumlaw03_BinSums: yours. -/
def vinculumlaw03_BinSums.Pure : Prop := ∀ (a0 : ByteArray) (a1 : ByteArray), a0.size ≤ 140737488351232 → a1.size ≤ 140737488351232 → ∃ k, vinculumlaw03_BinSums.f k a0 a1 = some true
theorem vinculumlaw03_BinSums.walk (P : vinculumlaw03_BinSums.Pure) (a0 : ByteArray) (a1 : ByteArray) (w : World) (w0 : a0.size ≤ 140737488351232) (w1 : a1.size ≤ 140737488351232) :
    Calls Try.prog 6 #[.string a0, .string a1] w fun e w' => e = .returned (.bool true) ∧ Below w.heap.size w w' := by
  obtain ⟨k, h⟩ := P a0 a1 w0 w1
  refine (vinculumlaw03_BinSums.calls k a0 a1 true w h).mono ?_
  rintro e w' ⟨rfl, hd⟩
  exact ⟨rfl, hd⟩

end Go.Proofs.Ytipbcjegigonjaa.P
