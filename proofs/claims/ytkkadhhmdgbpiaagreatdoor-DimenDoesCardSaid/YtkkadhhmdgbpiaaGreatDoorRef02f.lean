/- The reference of layer 2: near, Of, Float and Scale, walked: they answer as the code's. -/
import Derived.Test.YtkkadhhmdgbpiaaGreatDoorFloat4
import Derived.Test.YtkkadhhmdgbpiaaGreatDoorRef02
namespace Go.Proofs.YtkkadhhmdgbpiaaGreatDoor.FL
open Ieee Go.Proofs.YtkkadhhmdgbpiaaGreatDoor.P
theorem half_parts (m : Nat) : half m = m / U + if H ≤ m % U then 1 else 0 := by
  have hu := U_H
  have hlt : m % U < U := Nat.mod_lt _ U_pos
  rw [half_eq]
  have e : m + H = (m % U + H) + (m / U) * U := by
    have := Nat.div_add_mod m U
    rw [Nat.mul_comm] at this
    omega
  rw [e, Nat.add_mul_div_right _ _ U_pos, Nat.add_comm]
  congr 1
  split
  · exact Nat.div_eq_of_lt_le (by omega) (by omega)
  · exact Nat.div_eq_of_lt (by omega)
theorem mod_rung (r : Nat) : ∃ d, mg d = mg r % U := by
  obtain ⟨c, k, hc, hm⟩ : ∃ c k, c < 2 ^ 53 ∧ mg r = c * 2 ^ k := by
    by_cases h : r < 2 ^ 52
    · exact ⟨r, 0, by omega, by rw [mg_small h, Nat.pow_zero, Nat.mul_one]⟩
    · exact ⟨2 ^ 52 + r % 2 ^ 52, _, by omega, mg_big (by omega)⟩
  have split : ∀ u j, u = 2 ^ j → (k ≤ j → u = 2 ^ (j - k) * 2 ^ k) ∧ (j ≤ k → 2 ^ k = 2 ^ (k - j) * u) := fun u j hu => by
    subst hu
    exact ⟨fun h => pow_split j k h, fun h => pow_split k j h⟩
  obtain ⟨s1, s2⟩ := split U 1074 U_eq
  by_cases hk : k ≤ 1074
  · obtain ⟨d, hd⟩ := rung_of (c % 2 ^ (1074 - k)) k (Nat.lt_of_le_of_lt (Nat.mod_le _ _) hc)
    exact ⟨d, by rw [hd, hm, s1 hk, Nat.mul_mod_mul_right]⟩
  · exact ⟨0, by rw [hm, s2 (by omega), ← Nat.mul_assoc, Nat.mul_mod_left]; exact mg_small (by decide)⟩
theorem most_aux (m u h l k : Nat) (hm : m = 2147483647 * 2 ^ 22 * 2 ^ l) (hh : h = 2 ^ k) (hu : u = 2 * h) (hk : k = 22 + l) : m = 1073741823 * u + h := by
  subst hm hu
  rw [Nat.mul_assoc, ← Nat.pow_add, ← hk, ← hh]
  omega
theorem most_mg : mg 4742290407616937984 = 1073741823 * U + H := by
  have h := mg_big (r := 4742290407616937984) (by decide)
  rw [show 2 ^ 52 + 4742290407616937984 % 2 ^ 52 = 2147483647 * 2 ^ 22 by decide, show 4742290407616937984 / 2 ^ 52 - 1 = 1051 by decide] at h
  exact most_aux _ U H 1051 1073 h H_eq U_H.1 rfl
theorem V_most : V 4742290407616937984 = ((1073741823 * U + H : Nat) : Int) := by
  rw [V_pos _ (by decide), most_mg]
theorem V_nmost : V 13965662444471713792 = -((1073741823 * U + H : Nat) : Int) := by
  rw [V_is, show (13965662444471713792 / 2 ^ 63 % 2 == 1) = true by decide, if_pos rfl, show 13965662444471713792 % 2 ^ 63 = 4742290407616937984 by decide, most_mg]
theorem toInt_U (b : Nat) (hb : b % 2 ^ 63 < INF) : (double.read b).toInt .zero = some (sgn (b / 2 ^ 63 % 2 == 1) (mg (b % 2 ^ 63) / U)) := by
  have h := toInt_V b hb
  rw [V_is] at h
  rw [h]
  unfold sgn
  rw [U_eq]
  generalize mg (b % 2 ^ 63) = m
  cases (b / 2 ^ 63 % 2 == 1)
  · rw [if_neg (by decide), if_neg (by decide), tdiv_two m 1074]
  · rw [if_pos rfl, if_pos rfl, Int.neg_tdiv, tdiv_two m 1074]
theorem toInt_val (b : Nat) (hb : b % 2 ^ 63 < INF) (hle : mg (b % 2 ^ 63) / U ≤ 1073741823) : floatToIntVal .f64 b .i64 = some (sgn (b / 2 ^ 63 % 2 == 1) (mg (b % 2 ^ 63) / U)) := by
  unfold floatToIntVal
  rw [show FloatKind.f64.decode b = double.read b from rfl, toInt_U b hb]
  dsimp only
  rw [if_pos]
  have e1 : IntKind.i64.min = -9223372036854775808 := by decide
  have e2 : IntKind.i64.max = 9223372036854775807 := by decide
  rw [e1, e2]
  unfold sgn
  generalize mg (b % 2 ^ 63) / U = q at *
  cases (b / 2 ^ 63 % 2 == 1)
  · rw [if_neg (by decide)]; omega
  · rw [if_pos rfl]; omega
/-- The reference's near, at a float that is not too great: what is asked on the way. -/
theorem ref_ok_facts (b : Nat) (hb : b % 2 ^ 63 < INF) (hq : half (mg (b % 2 ^ 63)) ≤ 1073741823) :
    ∃ n0 D, floatToIntVal .f64 b .i64 = some n0 ∧ -1073741824 ≤ n0 ∧ n0 ≤ 1073741824 ∧ double.sub b (floatOfInt .f64 n0) = some D ∧
      FloatKind.f64.format.order b 4742290407616937984 = some .lt ∧ FloatKind.f64.format.order b 13965662444471713792 = some .gt ∧
      ((FloatKind.f64.format.order D 4602678819172646912 = some .lt ∧ FloatKind.f64.format.order D 13826050856027422720 = some .gt ∧ sgn (b / 2 ^ 63 % 2 == 1) (half (mg (b % 2 ^ 63))) = n0) ∨
       ((FloatKind.f64.format.order D 4602678819172646912 = some .gt ∨ FloatKind.f64.format.order D 4602678819172646912 = some .eq) ∧ FloatKind.f64.format.order D 13826050856027422720 = some .gt ∧ sgn (b / 2 ^ 63 % 2 == 1) (half (mg (b % 2 ^ 63))) = n0 + 1) ∨
       (FloatKind.f64.format.order D 4602678819172646912 = some .lt ∧ (FloatKind.f64.format.order D 13826050856027422720 = some .lt ∨ FloatKind.f64.format.order D 13826050856027422720 = some .eq) ∧ sgn (b / 2 ^ 63 % 2 == 1) (half (mg (b % 2 ^ 63))) = n0 - 1)) := by
  have hu := U_H
  have hV := V_is b
  have hhalf := half_parts (mg (b % 2 ^ 63))
  have hlt : mg (b % 2 ^ 63) % U < U := Nat.mod_lt _ U_pos
  have hdm := Nat.div_add_mod (mg (b % 2 ^ 63)) U
  rw [Nat.mul_comm] at hdm
  obtain ⟨d, hd⟩ := mod_rung (b % 2 ^ 63)
  have hqle : mg (b % 2 ^ 63) / U ≤ 1073741823 := by rw [hhalf] at hq; omega
  have hti := toInt_val b hb hqle
  have hmq : mg (b % 2 ^ 63) + H < 1073741824 * U := by
    rw [half_eq] at hq
    exact (Nat.div_lt_iff_lt_mul U_pos).1 (by omega)
  generalize hs : (b / 2 ^ 63 % 2 == 1) = s at *
  generalize hm : mg (b % 2 ^ 63) = m at *
  generalize half m = hf at *
  obtain ⟨hF, hVF⟩ := V_sgn s (m / U) hqle
  generalize m / U = q at *
  generalize m % U = x at *
  have hdI : d < INF := by
    rcases Nat.lt_or_ge d INF with h1 | h1
    · exact h1
    · have h2 := mg_le h1
      have h3 := mg_big_inf 1 (by decide)
      rw [Nat.one_mul] at h3
      omega
  have hdiff : V b - V (floatOfInt .f64 (sgn s q)) = if s then -(x : Int) else x := by
    rw [hV, hVF]
    cases s
    · rw [if_neg (by decide), if_neg (by decide), if_neg (by decide)]; omega
    · rw [if_pos rfl, if_pos rfl, if_pos rfl]; omega
  obtain ⟨s', hD, hVD⟩ := sub_fin b _ d hb hF (by rw [hdiff, hd]; cases s <;> simp) hdI
  obtain ⟨_, w2, _⟩ := word_parts s' d (Nat.lt_trans hdI inf_lt)
  have hDI : double.word s' d % 2 ^ 63 < INF := by rw [w2]; exact hdI
  rw [hdiff] at hVD
  generalize double.word s' d = D at *
  have c1 : 4602678819172646912 % 2 ^ 63 < INF := by decide
  have c2 : 13826050856027422720 % 2 ^ 63 < INF := by decide
  have c3 : 4742290407616937984 % 2 ^ 63 < INF := by decide
  have c4 : 13965662444471713792 % 2 ^ 63 < INF := by decide
  have e1 := V_half
  have e2 := V_nhalf
  have e3 := V_most
  have e4 := V_nmost
  refine ⟨sgn s q, D, hti, ?_, ?_, hD, order_lt _ _ hb c3 ?_, order_gt _ _ hb c4 ?_, ?_⟩
  · unfold sgn; cases s
    · rw [if_neg (by decide)]; omega
    · rw [if_pos rfl]; omega
  · unfold sgn; cases s
    · rw [if_neg (by decide)]; omega
    · rw [if_pos rfl]; omega
  · rw [hV, e3]; cases s
    · rw [if_neg (by decide)]; omega
    · rw [if_pos rfl]; omega
  · rw [hV, e4]; cases s
    · rw [if_neg (by decide)]; omega
    · rw [if_pos rfl]; omega
  · by_cases hx : H ≤ x
    · rw [if_pos hx] at hhalf
      cases s
      · rw [if_neg (by decide)] at hVD
        refine .inr (.inl ⟨?_, order_gt _ _ hDI c2 (by omega), by unfold sgn; rw [if_neg (by decide), if_neg (by decide)]; omega⟩)
        by_cases he : x = H
        · exact .inr (order_eq _ _ hDI c1 (by omega))
        · exact .inl (order_gt _ _ hDI c1 (by omega))
      · rw [if_pos rfl] at hVD
        refine .inr (.inr ⟨order_lt _ _ hDI c1 (by omega), ?_, by unfold sgn; rw [if_pos rfl, if_pos rfl]; omega⟩)
        by_cases he : x = H
        · exact .inr (order_eq _ _ hDI c2 (by omega))
        · exact .inl (order_lt _ _ hDI c2 (by omega))
    · rw [if_neg hx, Nat.add_zero] at hhalf
      refine .inl ⟨order_lt _ _ hDI c1 ?_, order_gt _ _ hDI c2 ?_, by rw [hhalf]⟩
      · cases s
        · rw [if_neg (by decide)] at hVD; omega
        · rw [if_pos rfl] at hVD; omega
      · cases s
        · rw [if_neg (by decide)] at hVD; omega
        · rw [if_pos rfl] at hVD; omega
theorem ref_over_facts (b : Nat) (hk : (b % 2 ^ 63 < INF ∧ ¬ half (mg (b % 2 ^ 63)) ≤ 1073741823) ∨ b % 2 ^ 63 = INF) :
    (FloatKind.f64.format.order b 4742290407616937984 = some .gt ∨ FloatKind.f64.format.order b 4742290407616937984 = some .eq) ∨
      (FloatKind.f64.format.order b 4742290407616937984 = some .lt ∧ (FloatKind.f64.format.order b 13965662444471713792 = some .lt ∨ FloatKind.f64.format.order b 13965662444471713792 = some .eq)) := by
  have c3 : 4742290407616937984 % 2 ^ 63 < INF := by decide
  have c4 : 13965662444471713792 % 2 ^ 63 < INF := by decide
  rcases hk with ⟨hb, hq⟩ | hi
  · have hu := U_H
    have hV := V_is b
    have e3 := V_most
    have e4 := V_nmost
    have hge : 1073741823 * U + H ≤ mg (b % 2 ^ 63) := by
      rw [half_eq] at hq
      have h1 := (Nat.le_div_iff_mul_le U_pos (x := 1073741824) (y := mg (b % 2 ^ 63) + H)).1 (by omega)
      omega
    generalize (b / 2 ^ 63 % 2 == 1) = s at *
    cases s
    · rw [if_neg (by decide)] at hV
      by_cases he : mg (b % 2 ^ 63) = 1073741823 * U + H
      · exact .inl (.inr (order_eq _ _ hb c3 (by omega)))
      · exact .inl (.inl (order_gt _ _ hb c3 (by omega)))
    · rw [if_pos rfl] at hV
      refine .inr ⟨order_lt _ _ hb c3 (by omega), ?_⟩
      by_cases he : mg (b % 2 ^ 63) = 1073741823 * U + H
      · exact .inr (order_eq _ _ hb c4 (by omega))
      · exact .inl (order_lt _ _ hb c4 (by omega))
  · rw [order_inf _ _ hi c3, order_inf _ _ hi c4]
    cases (b / 2 ^ 63 % 2 == 1)
    · exact .inl (.inl rfl)
    · exact .inr ⟨rfl, .inl rfl⟩
end Go.Proofs.YtkkadhhmdgbpiaaGreatDoor.FL
namespace Go.Proofs.YtkkadhhmdgbpiaaGreatDoor.P
open Go.RowKit Go.Proofs.YtkkadhhmdgbpiaaGreatDoorW.PrintWords Go.Proofs.YtkkadhhmdgbpiaaGreatDoorW.PrintLast Go.Proofs.YtkkadhhmdgbpiaaGreatDoorW.PrintMore
set_option linter.unusedVariables false
set_option linter.unusedSimpArgs false
attribute [local go_sem] max2_int min2_int max_two min_two max_three min_three max_four min_four
theorem sub_most (t : TypeId) (w : World) : (binOp .sub t (.float .f64 0) (.float .f64 4742290407616937984)).run Tryz.prog w = .ok (.float .f64 13965662444471713792) w :=
  run_float_arith w .sub t .f64 _ _ _ (show Ieee.double.sub 0 4742290407616937984 = some 13965662444471713792 by decide +kernel)
set_option maxRecDepth 100000 in
set_option maxHeartbeats 4000000 in
/-- The reference's near answers as the code's. -/
theorem refnear_calls (b : Nat) (hb : b < 2 ^ 64) (w : World) : Calls Tryz.prog 19 #[.float .f64 b] w fun e w' => e = .returned (.tuple #[.int .i64 (nearB b).1, .int .i64 (nearB b).2]) ∧ Drawn0 w w' := by
  have hsm := sub_most
  have over : (b % 2 ^ 63 < FL.INF ∧ ¬ FL.half (FL.mg (b % 2 ^ 63)) ≤ 1073741823) ∨ b % 2 ^ 63 = FL.INF → Calls Tryz.prog 19 #[.float .f64 b] w fun e w' => e = .returned (.tuple #[.int .i64 0, .int .i64 2]) ∧ Drawn0 w w' := fun hk => by
    have ho := FL.order_same b (by rcases hk with ⟨h, _⟩ | h; exact .inl h; exact .inr h)
    have hf := FL.ref_over_facts b hk
    clear hk hb
    rcases hf with (h | h) | ⟨h, h' | h'⟩
    all_goals
      go_enter Tryz.func19, Tryz.ntmps19
      go_wp2
      go_ret2
      exact ⟨rfl, by repeat (first | exact Drawn0.refl _ | apply Drawn0.step)⟩
  rcases FL.kinds b with h | h | h
  · by_cases hq : FL.half (FL.mg (b % 2 ^ 63)) ≤ 1073741823
    · rw [(FL.near_fin b hb h).1, FL.nearQ_ok _ _ hq]
      obtain ⟨n0, D, hti, hn1, hn2, hs, o1, o2, hO⟩ := FL.ref_ok_facts b h hq
      have ho := FL.order_same b (.inl h)
      have hconv : ∀ w, (convert 22 3 (.float .f64 b)).run Tryz.prog w = .ok (.int .i64 n0) w := fun w => run_convert_float_int w _ _ _ _ _ _ (by kernel_rfl) (by kernel_rfl) hti
      have hconv2 : ∀ w, (convert 3 22 (.int .i64 n0)).run Tryz.prog w = .ok (.float .f64 (floatOfInt .f64 n0)) w := fun w => run_convert_int_float w _ _ _ _ _ (by kernel_rfl) (by kernel_rfl)
      have hsub : ∀ t w, (binOp .sub t (.float .f64 b) (.float .f64 (floatOfInt .f64 n0))).run Tryz.prog w = .ok (.float .f64 D) w := fun t w => run_float_arith w .sub t .f64 _ _ _ hs
      have w1 : wrap64 (n0 + 1) = n0 + 1 := wrap64_small (by omega) (by omega)
      have w2 : wrap64 (n0 - 1) = n0 - 1 := wrap64_small (by omega) (by omega)
      generalize FL.sgn (b / 2 ^ 63 % 2 == 1) (FL.half (FL.mg (b % 2 ^ 63))) = R at *
      generalize floatOfInt .f64 n0 = F at *
      clear hti hs h hq hb over
      rcases hO with ⟨p1, p2, rfl⟩ | ⟨p1 | p1, p2, rfl⟩ | ⟨p1, p2 | p2, rfl⟩
      all_goals
        go_enter Tryz.func19, Tryz.ntmps19
        go_wp2
        go_ret2
        exact ⟨by first | rfl | (rw [w1]) | (rw [w2]), by repeat (first | exact Drawn0.refl _ | apply Drawn0.step)⟩
    · rw [(FL.near_fin b hb h).1, FL.nearQ_no _ _ hq]
      exact over (.inl ⟨h, hq⟩)
  · rw [(FL.near_inf b hb h).1]
    exact over (.inr h)
  · rw [(FL.near_nan b hb h).1]
    have ho := FL.order_nan b h
    clear hb h over
    go_enter Tryz.func19, Tryz.ntmps19
    go_wp2
    go_ret2
    exact ⟨rfl, by repeat (first | exact Drawn0.refl _ | apply Drawn0.step)⟩
theorem refnear_nan (x y : Nat) (w0 w : World) : Calls Tryz.prog 19 #[.float .f64 (nanW x y w0)] w fun e w' => e = .returned (.tuple #[.int .i64 0, .int .i64 3]) ∧ Drawn0 w w' := by
  obtain ⟨h1, h2⟩ := nanW_is x y w0
  have := refnear_calls (nanW x y w0) h1 w
  rw [(FL.near_nan _ h1 h2).1] at this
  exact this
set_option maxHeartbeats 1000000 in
theorem refof_calls (b : Nat) (w : World) : Calls Tryz.prog 5 #[.float .f64 b] w fun e w' => e = .returned (.tuple #[.int .i64 (prodB b 4679240012837945344).1, .int .i64 (prodB b 4679240012837945344).2]) ∧ Drawn0 w w' := by
  cases hm : Ieee.double.mul b 4679240012837945344 with
  | none =>
    have hr : prodB b 4679240012837945344 = (0, 3) := by unfold prodB; rw [hm]
    rw [hr]
    have hmul := fun t w => run_mul_nan t b 4679240012837945344 hm w
    clear hr hm
    go_enter Tryz.func5, Tryz.ntmps5
    go_wp2_with (go_at_call 19; refine (refnear_nan _ _ _ _).mono ?_; rintro e w1 ⟨rfl, hd⟩)
    go_ret2
    exact ⟨rfl, d0t (by repeat (first | exact Drawn0.refl _ | apply Drawn0.step)) hd⟩
  | some p =>
    have hr : prodB b 4679240012837945344 = nearB p := by unfold prodB; rw [hm]
    rw [hr]
    have hmul : ∀ t w, (binOp .mul t (.float .f64 b) (.float .f64 4679240012837945344)).run Tryz.prog w = .ok (.float .f64 p) w := fun t w => run_float_arith w .mul t .f64 _ _ _ hm
    have hN := fun w => refnear_calls p (mul_lt hm) w
    have HN := Lib.hid hN
    clear hN hm hr
    generalize (nearB p).1 = r1 at *
    generalize (nearB p).2 = r2 at *
    go_enter Tryz.func5, Tryz.ntmps5
    go_wp2_with (go_at_call 19; refine (HN.out _).mono ?_; rintro e w1 ⟨rfl, hd⟩)
    go_ret2
    exact ⟨rfl, hd⟩
theorem len_calls (a : Int) (w : World) : Calls Tryz.prog 21 #[.int .i64 a] w fun e w' => e = .returned (.bool (lenB a)) ∧ Drawn0 w w' := vinculumref01_Len.calls a _ w (ref_len a)
set_option maxHeartbeats 1000000 in
theorem reffloat_calls (a : Int) (w : World) (hf : lenB a = true → floatOfInt .f64 a % 2 ^ 63 < FL.INF) :
    Calls Tryz.prog 7 #[.int .i64 a] w fun e w' => e = .returned (.tuple #[.float .f64 (if lenB a then floatB a else 0), .int .i64 (if lenB a then 0 else 1)]) ∧ Drawn0 w w' := by
  have hi := fun w => len_calls a w
  cases hl : lenB a
  · rw [hl] at hi
    have HI := Lib.hid hi
    simp only [Bool.false_eq_true, if_false]
    clear hf hl hi
    go_enter Tryz.func7, Tryz.ntmps7
    go_wp2_with (go_at_call 21; refine (HI.out _).mono ?_; rintro e w1 ⟨rfl, hd⟩)
    go_ret2
    exact ⟨rfl, hd⟩
  · rw [hl] at hi
    have HI := Lib.hid hi
    obtain ⟨r, hr⟩ := div_some _ (hf hl)
    have hfb : floatB a = r := by unfold floatB; rw [hr]; rfl
    rw [hfb]
    simp only [if_true]
    have hdiv : ∀ t w, (binOp .quo t (.float .f64 (floatOfInt .f64 a)) (.float .f64 4679240012837945344)).run Tryz.prog w = .ok (.float .f64 r) w := fun t w => run_float_arith w .quo t .f64 _ _ _ hr
    have hconv : ∀ w, (convert 3 22 (.int .i64 a)).run Tryz.prog w = .ok (.float .f64 (floatOfInt .f64 a)) w := fun w => run_convert_int_float w _ _ _ _ _ (by kernel_rfl) (by kernel_rfl)
    generalize floatOfInt .f64 a = F at *
    clear hf hl hr hfb hi
    go_enter Tryz.func7, Tryz.ntmps7
    go_wp2_with (go_at_call 21; refine (HI.out _).mono ?_; rintro e w1 ⟨rfl, hd⟩)
    go_ret2
    exact ⟨rfl, hd⟩
set_option maxHeartbeats 1000000 in
theorem refscale_calls (a : Int) (b : Nat) (w : World) : Calls Tryz.prog 9 #[.int .i64 a, .float .f64 b] w fun e w' => e = .returned (.tuple #[.int .i64 (scaleB a b).1, .int .i64 (scaleB a b).2]) ∧ Drawn0 w w' := by
  have hi := fun w => len_calls a w
  unfold scaleB
  cases hl : lenB a
  · rw [hl] at hi
    have HI := Lib.hid hi
    simp only [Bool.false_eq_true, if_false]
    clear hl hi
    go_enter Tryz.func9, Tryz.ntmps9
    go_wp2_with (go_at_call 21; refine (HI.out _).mono ?_; rintro e w1 ⟨rfl, hd⟩)
    go_ret2
    exact ⟨rfl, hd⟩
  · rw [hl] at hi
    have HI := Lib.hid hi
    simp only [if_true]
    have hconv : ∀ w, (convert 3 22 (.int .i64 a)).run Tryz.prog w = .ok (.float .f64 (floatOfInt .f64 a)) w := fun w => run_convert_int_float w _ _ _ _ _ (by kernel_rfl) (by kernel_rfl)
    generalize floatOfInt .f64 a = F at *
    clear hl hi
    cases hm : Ieee.double.mul F b with
    | none =>
      have hr : prodB F b = (0, 3) := by unfold prodB; rw [hm]
      rw [hr]
      have hmul := fun t w => run_mul_nan t F b hm w
      clear hr hm
      go_enter Tryz.func9, Tryz.ntmps9
      go_wp2_with (first
        | (go_at_call 21; refine (HI.out _).mono ?_; rintro e w1 ⟨rfl, hd⟩)
        | (go_at_call 19; refine (refnear_nan _ _ _ _).mono ?_; rintro e w2 ⟨rfl, hd2⟩))
      go_ret2
      exact ⟨rfl, d0t hd (d0t (by repeat (first | exact Drawn0.refl _ | apply Drawn0.step)) hd2)⟩
    | some p =>
      have hr : prodB F b = nearB p := by unfold prodB; rw [hm]
      rw [hr]
      have hmul : ∀ t w, (binOp .mul t (.float .f64 F) (.float .f64 b)).run Tryz.prog w = .ok (.float .f64 p) w := fun t w => run_float_arith w .mul t .f64 _ _ _ hm
      have hN := fun w => refnear_calls p (mul_lt hm) w
      have HN := Lib.hid hN
      clear hN hm hr
      generalize (nearB p).1 = r1 at *
      generalize (nearB p).2 = r2 at *
      go_enter Tryz.func9, Tryz.ntmps9
      go_wp2_with (first
        | (go_at_call 21; refine (HI.out _).mono ?_; rintro e w1 ⟨rfl, hd⟩)
        | (go_at_call 19; refine (HN.out _).mono ?_; rintro e w2 ⟨rfl, hd2⟩))
      go_ret2
      exact ⟨rfl, d0t hd hd2⟩
end Go.Proofs.YtkkadhhmdgbpiaaGreatDoor.P
