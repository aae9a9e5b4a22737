/- DimenDoes, walked. -/
import Derived.Test.YtkkadhhmdgbpiaaGreatDoorDimTold
import Derived.Test.YtkkadhhmdgbpiaaGreatDoorRef02f
namespace Go.Proofs.YtkkadhhmdgbpiaaGreatDoor.P
open Go.RowKit Go.Proofs.YtkkadhhmdgbpiaaGreatDoorW.PrintWords Go.Proofs.YtkkadhhmdgbpiaaGreatDoorW.PrintLast Go.Proofs.YtkkadhhmdgbpiaaGreatDoorW.PrintMore
set_option linter.unusedVariables false
set_option linter.unusedSimpArgs false
attribute [local go_sem] max2_int min2_int max_two min_two max_three min_three max_four min_four
set_option maxRecDepth 100000 in
set_option maxHeartbeats 8000000 in
theorem does_calls (f : Nat) (a : Int) (s : ByteArray) (w : World) (ht : DimTabs w) : Calls Tryz.prog 3 #[.float .f64 f, .int .i64 a, .string s] w fun e w' => e = .returned (.bool true) ∧ Below w.heap.size w w' := by
  by_cases hs : (200 : Int) < (s.size : Int)
  · clear ht
    go_enter Tryz.func3, Tryz.ntmps3
    go_wp2
    go_ret
    exact ⟨rfl, Drawn0.below (by repeat (first | exact Drawn0.refl _ | apply Drawn0.step))⟩
  · have hs2 : s.size ≤ 200 := by omega
    have hfin : lenB a = true → floatOfInt .f64 a % 2 ^ 63 < FL.INF := fun h => by
      have h' : -1073741823 ≤ a ∧ a ≤ 1073741823 := by unfold lenB at h; simpa using h
      exact (FL.ofInt_parts a (by omega)).2.1
    have h7 : ∀ w1, Below w.heap.size w w1 → Calls Tryz.prog 14 #[] w1 fun e w' => e = .returned (.bool true) ∧ Below w.heap.size w w' := fun w1 hb => (told_calls w1 (ht.below hb)).mono fun e w2 h => ⟨h.1, hb.trans (h.2.mono hb.size)⟩
    have hO : ∀ w1, Below w.heap.size w w1 → Calls Tryz.prog 4 #[.float .f64 f] w1 fun en w' => en = .returned (.tuple #[.int .i64 (prodB f 4679240012837945344).1, .int .i64 (prodB f 4679240012837945344).2]) ∧ Below w.heap.size w w' := fun w1 hb => (of_calls f w1).mono fun en w2 h => ⟨h.1, hb.trans (h.2.mono hb.size)⟩
    have hO2 : ∀ w1, Below w.heap.size w w1 → Calls Tryz.prog 5 #[.float .f64 f] w1 fun en w' => en = .returned (.tuple #[.int .i64 (prodB f 4679240012837945344).1, .int .i64 (prodB f 4679240012837945344).2]) ∧ Below w.heap.size w w' := fun w1 hb => (refof_calls f w1).mono fun en w2 h => ⟨h.1, hb.trans (h.2.below.mono hb.size)⟩
    have hF : ∀ w1, Below w.heap.size w w1 → Calls Tryz.prog 6 #[.int .i64 a] w1 fun e w' => e = .returned (.tuple #[.float .f64 (if lenB a then floatB a else 0), .int .i64 (if lenB a then 0 else 1)]) ∧ Below w.heap.size w w' := fun w1 hb => (float_calls a w1 hfin).mono fun e w2 h => ⟨h.1, hb.trans (h.2.mono hb.size)⟩
    have hF2 : ∀ w1, Below w.heap.size w w1 → Calls Tryz.prog 7 #[.int .i64 a] w1 fun e w' => e = .returned (.tuple #[.float .f64 (if lenB a then floatB a else 0), .int .i64 (if lenB a then 0 else 1)]) ∧ Below w.heap.size w w' := fun w1 hb => (reffloat_calls a w1 hfin).mono fun e w2 h => ⟨h.1, hb.trans (h.2.below.mono hb.size)⟩
    have hS : ∀ w1, Below w.heap.size w w1 → Calls Tryz.prog 8 #[.int .i64 a, .float .f64 f] w1 fun e w' => e = .returned (.tuple #[.int .i64 (scaleB a f).1, .int .i64 (scaleB a f).2]) ∧ Below w.heap.size w w' := fun w1 hb => (scale_calls a f w1).mono fun e w2 h => ⟨h.1, hb.trans (h.2.mono hb.size)⟩
    have hS2 : ∀ w1, Below w.heap.size w w1 → Calls Tryz.prog 9 #[.int .i64 a, .float .f64 f] w1 fun e w' => e = .returned (.tuple #[.int .i64 (scaleB a f).1, .int .i64 (scaleB a f).2]) ∧ Below w.heap.size w w' := fun w1 hb => (refscale_calls a f w1).mono fun e w2 h => ⟨h.1, hb.trans (h.2.below.mono hb.size)⟩
    have hT : ∀ w1, Below w.heap.size w w1 → Calls Tryz.prog 10 #[.int .i64 a] w1 fun e w' => e = .returned (.tuple #[.string (textE a).1, .int .i64 (textE a).2]) ∧ Below w.heap.size w w' := fun w1 hb => (Text_calls a w1 (ht.below hb)).mono fun e w2 h => ⟨h.1, hb.trans (h.2.mono hb.size)⟩
    obtain ⟨kt, hkt⟩ := Ev.rounds (ref_text a)
    have hT2 : ∀ w1, Below w.heap.size w w1 → Calls Tryz.prog 11 #[.int .i64 a] w1 fun e w' => e = .returned (.tuple #[.string (textE a).1, .int .i64 (textE a).2]) ∧ Below w.heap.size w w' := fun w1 hb => (vinculumref02_Text.calls kt a _ _ w1 hkt).mono fun e w2 h => ⟨h.1, hb.trans (h.2.mono hb.size)⟩
    have hP : ∀ w1, Below w.heap.size w w1 → Calls Tryz.prog 12 #[.string s] w1 fun e w' => e = .returned (.tuple #[.int .i64 (parseE s).1, .int .i64 (parseE s).2]) ∧ Below w.heap.size w w' := fun w1 hb => (parse_calls s w1 (ht.below hb) (by omega)).mono fun e w2 h => ⟨h.1, hb.trans (h.2.mono hb.size)⟩
    obtain ⟨kp, hkp⟩ := Ev.rounds (ref_parse s hs2)
    have hP2 : ∀ w1, Below w.heap.size w w1 → Calls Tryz.prog 13 #[.string s] w1 fun e w' => e = .returned (.tuple #[.int .i64 (parseE s).1, .int .i64 (parseE s).2]) ∧ Below w.heap.size w w' := fun w1 hb => (vinculumref02_Parse.calls kp s _ _ w1 hkp).mono fun e w2 h => ⟨h.1, hb.trans (h.2.below.mono hb.size)⟩
    have h8 := fun w1 => same_calls (if lenB a then floatB a else 0) (if lenB a then floatB a else 0) w1
    rw [beq_self_eq_true] at h8
    clear hkt hkp hfin ht hs2
    generalize (prodB f 4679240012837945344).1 = r1 at *
    generalize (prodB f 4679240012837945344).2 = r2 at *
    generalize (if lenB a then floatB a else 0) = r3 at *
    generalize (if lenB a then (0 : Int) else 1) = r4 at *
    generalize (scaleB a f).1 = r5 at *
    generalize (scaleB a f).2 = r6 at *
    generalize (textE a).1 = r7 at *
    generalize (textE a).2 = r8 at *
    generalize (parseE s).1 = r9 at *
    generalize (parseE s).2 = r10 at *
    have HO := Lib.hid hO
    have HO2 := Lib.hid hO2
    have HF := Lib.hid hF
    have HF2 := Lib.hid hF2
    have HS := Lib.hid hS
    have HS2 := Lib.hid hS2
    have HT := Lib.hid hT
    have HT2 := Lib.hid hT2
    have HP := Lib.hid hP
    have HP2 := Lib.hid hP2
    have H7 := Lib.hid h7
    have H8 := Lib.hid h8
    have hb : Below w.heap.size w w := Below.refl _ _
    clear hO hO2 hF hF2 hS hS2 hT hT2 hP hP2 h7 h8
    go_enter Tryz.func3, Tryz.ntmps3
    go_wp2_with (first
      | (go_at_call 4; with_reducible refine (HO.out _ hb).mono ?_; rintro e w1 ⟨rfl, hb⟩)
      | (go_at_call 5; with_reducible refine (HO2.out _ hb).mono ?_; rintro e w1 ⟨rfl, hb⟩)
      | (go_at_call 6; with_reducible refine (HF.out _ hb).mono ?_; rintro e w1 ⟨rfl, hb⟩)
      | (go_at_call 7; with_reducible refine (HF2.out _ hb).mono ?_; rintro e w1 ⟨rfl, hb⟩)
      | (go_at_call 8; with_reducible refine (HS.out _ hb).mono ?_; rintro e w1 ⟨rfl, hb⟩)
      | (go_at_call 9; with_reducible refine (HS2.out _ hb).mono ?_; rintro e w1 ⟨rfl, hb⟩)
      | (go_at_call 10; with_reducible refine (HT.out _ hb).mono ?_; rintro e w1 ⟨rfl, hb⟩)
      | (go_at_call 11; with_reducible refine (HT2.out _ hb).mono ?_; rintro e w1 ⟨rfl, hb⟩)
      | (go_at_call 12; with_reducible refine (HP.out _ hb).mono ?_; rintro e w1 ⟨rfl, hb⟩)
      | (go_at_call 13; with_reducible refine (HP2.out _ hb).mono ?_; rintro e w1 ⟨rfl, hb⟩)
      | (go_at_call 14; with_reducible refine (H7.out _ hb).mono ?_; rintro e w1 ⟨rfl, hb⟩)
      | (go_at_call 15; with_reducible refine (H8.out _).mono ?_; rintro e w1 ⟨rfl, hd⟩; replace hb := hb.trans (hd.below.mono hb.size)))
    go_ret
    exact ⟨rfl, hb⟩
end Go.Proofs.YtkkadhhmdgbpiaaGreatDoor.P
