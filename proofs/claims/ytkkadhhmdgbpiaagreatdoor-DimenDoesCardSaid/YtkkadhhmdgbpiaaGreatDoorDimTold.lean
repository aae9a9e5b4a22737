/- dimen.Parse; the laws' small floats; told. -/
import Derived.Test.YtkkadhhmdgbpiaaGreatDoorDimParse1
namespace Go.Proofs.YtkkadhhmdgbpiaaGreatDoor.P
open Go.RowKit Go.Proofs.YtkkadhhmdgbpiaaGreatDoorW.PrintWords Go.Proofs.YtkkadhhmdgbpiaaGreatDoorW.PrintLast Go.Proofs.YtkkadhhmdgbpiaaGreatDoorW.PrintMore
set_option linter.unusedVariables false
set_option linter.unusedSimpArgs false
attribute [local go_sem] max2_int min2_int max_two min_two max_three min_three max_four min_four
theorem parse_zero (s : ByteArray) : (parseE s).2 ≠ 0 → (parseE s).1 = 0 := by
  unfold parseE
  dsimp only
  repeat' split
  all_goals (intro h; first | rfl | exact absurd rfl h)
set_option maxHeartbeats 1000000 in
theorem parse_calls (s : ByteArray) (w : World) (ht : DimTabs w) (hs : s.size ≤ 1000) :
    Calls Tryz.prog 12 #[.string s] w fun e w' => e = .returned (.tuple #[.int .i64 (parseE s).1, .int .i64 (parseE s).2]) ∧ Below w.heap.size w w' := by
  have hmf : ∀ (fn : Fn) (first cap : Array Value) (w : World), (Instr.makeFunc fn first cap).run Tryz.prog w = .ok (.func fn first cap) w := fun _ _ _ _ => rfl
  have hc := fun (w1 : World) (g : Nat) (hb1 : Below w.heap.size w w1) (h1 : w1.cell? ⟨g, 0, none⟩ = some (.string s)) => caught_calls 28 #[.pointer (some ⟨g, 0, none⟩)] (fun args w => by kernel_rfl) (parseE s).1 (parseE s).2 (parse_zero s) w1
    (fun W hB hsz => parse1_calls s g W (ht.below (hb1.trans (hB.mono hb1.size))) hs ((hB.cell (World.block_lt_of_cell? _ _ h1)).trans h1))
  have HC := Lib.hid hc
  clear hc ht
  generalize (parseE s).1 = r1 at *
  generalize (parseE s).2 = r2 at *
  go_enter Tryz.func12, Tryz.ntmps12
  go_wp2_with (go_at_call 16; refine (HC.out _ w.heap.size ((Below.refl w.heap.size w).alloc (Nat.le_refl _) _) (by simp [go_sem])).mono ?_; rintro e w1 ⟨rfl, hb⟩)
  go_ret2
  exact ⟨rfl, ((Below.refl w.heap.size w).alloc (Nat.le_refl _) _).trans (hb.mono (by simp; try omega))⟩
theorem nan_calls (w : World) : Calls Tryz.prog 37 #[] w fun e w' => e = .returned (.float .f64 9221120237041090561) ∧ Drawn0 w w' := by
  go_enter Tryz.func37, Tryz.ntmps37
  go_wp2
  go_ret
  exact ⟨rfl, by repeat (first | exact Drawn0.refl _ | apply Drawn0.step)⟩
theorem same_calls (x y : Nat) (w : World) : Calls Tryz.prog 15 #[.float .f64 x, .float .f64 y] w fun e w' => e = .returned (.bool (x == y)) ∧ Drawn0 w w' := by
  cases h : (x == y)
  · have h2 : ((x : Int) == (y : Int)) = false := by
      rw [beq_eq_false_iff_ne] at h ⊢; omega
    have h3 : decide (x = y) = false := by rw [beq_eq_false_iff_ne] at h; exact decide_eq_false h
    go_enter Tryz.func15, Tryz.ntmps15
    go_wp2
    go_ret
    exact ⟨by first | rfl | (simp [h, h2]; done), by repeat (first | exact Drawn0.refl _ | apply Drawn0.step)⟩
  · obtain rfl := beq_iff_eq.mp h
    go_enter Tryz.func15, Tryz.ntmps15
    go_wp2
    go_ret
    exact ⟨by first | rfl | (simp; done), by repeat (first | exact Drawn0.refl _ | apply Drawn0.step)⟩
-- the closed values
theorem of_half : prodB 4602678819172646912 4679240012837945344 = (32768, 0) := by decide +kernel
theorem of_small : prodB 13755392620465711345 4679240012837945344 = (-1, 0) := by decide +kernel
theorem of_nan : prodB 9221120237041090561 4679240012837945344 = (0, 3) := by decide +kernel
theorem text_one : textE 65536 = (⟨#[49, 46, 48, 112, 116]⟩, 0) := by
  have : textN 65536 = [49, 46, 48, 112, 116] := by decide +kernel
  unfold textE
  rw [show lenB 65536 = true by decide, if_pos rfl, if_neg (by decide), show (65536 : Int).natAbs = 65536 from rfl, this]
theorem text_neg : textE (-1) = (⟨#[45, 48, 46, 48, 48, 48, 48, 50, 112, 116]⟩, 0) := by
  have : textN 1 = [48, 46, 48, 48, 48, 48, 50, 112, 116] := by decide +kernel
  unfold textE
  rw [show lenB (-1) = true by decide, if_pos rfl, if_pos (by decide), show (-1 : Int).natAbs = 1 from rfl, this]
theorem parse_tenth : parseE ⟨#[48, 46, 49, 112, 116]⟩ = (6554, 0) := by decide +kernel
set_option maxHeartbeats 2000000 in
/-- told: the document's rows hold. -/
theorem told_calls (w : World) (ht : DimTabs w) : Calls Tryz.prog 14 #[] w fun e w' => e = .returned (.bool true) ∧ Below w.heap.size w w' := by
  have hO : ∀ b w1, Below w.heap.size w w1 → Calls Tryz.prog 4 #[.float .f64 b] w1 fun e w' => e = .returned (.tuple #[.int .i64 (prodB b 4679240012837945344).1, .int .i64 (prodB b 4679240012837945344).2]) ∧ Below w.heap.size w w' := fun b w1 hb => (of_calls b w1).mono fun e w2 h => ⟨h.1, hb.trans (h.2.mono hb.size)⟩
  have h1 := hO 4602678819172646912
  rw [of_half] at h1
  have h2 := hO 13755392620465711345
  rw [of_small] at h2
  have h3 := hO 9221120237041090561
  rw [of_nan] at h3
  have h4 : ∀ w1, Below w.heap.size w w1 → Calls Tryz.prog 10 #[.int .i64 65536] w1 fun e w' => e = .returned (.tuple #[.string ⟨#[49, 46, 48, 112, 116]⟩, .int .i64 0]) ∧ Below w.heap.size w w' := fun w1 hb => (Text_calls 65536 w1 (ht.below hb)).mono fun e w2 h => ⟨by rw [h.1, text_one], hb.trans (h.2.mono hb.size)⟩
  have h5 : ∀ w1, Below w.heap.size w w1 → Calls Tryz.prog 10 #[.int .i64 (-1)] w1 fun e w' => e = .returned (.tuple #[.string ⟨#[45, 48, 46, 48, 48, 48, 48, 50, 112, 116]⟩, .int .i64 0]) ∧ Below w.heap.size w w' := fun w1 hb => (Text_calls (-1) w1 (ht.below hb)).mono fun e w2 h => ⟨by rw [h.1, text_neg], hb.trans (h.2.mono hb.size)⟩
  have h6 : ∀ w1, Below w.heap.size w w1 → Calls Tryz.prog 12 #[.string ⟨#[48, 46, 49, 112, 116]⟩] w1 fun e w' => e = .returned (.tuple #[.int .i64 6554, .int .i64 0]) ∧ Below w.heap.size w w' := fun w1 hb => (parse_calls ⟨#[48, 46, 49, 112, 116]⟩ w1 (ht.below hb) (by decide)).mono fun e w2 h => ⟨by rw [h.1, parse_tenth], hb.trans (h.2.mono hb.size)⟩
  dsimp only at h1 h2 h3
  have H1 := Lib.hid h1
  have H2 := Lib.hid h2
  have H3 := Lib.hid h3
  have H4 := Lib.hid h4
  have H5 := Lib.hid h5
  have H6 := Lib.hid h6
  have hb : Below w.heap.size w w := Below.refl _ _
  clear h1 h2 h3 h4 h5 h6 hO ht
  go_enter Tryz.func14, Tryz.ntmps14
  go_wp2_with (first
    | (go_at_call 4; (first | with_reducible refine (H1.out _ (by first | exact hb | exact Drawn0.below (by repeat (first | exact Drawn0.refl _ | apply Drawn0.step)))).mono ?_ | with_reducible refine (H2.out _ hb).mono ?_ | with_reducible refine (H3.out _ hb).mono ?_); rintro e w1 ⟨rfl, hb⟩)
    | (go_at_call 10; (first | with_reducible refine (H4.out _ hb).mono ?_ | with_reducible refine (H5.out _ hb).mono ?_); rintro e w1 ⟨rfl, hb⟩)
    | (go_at_call 12; with_reducible refine (H6.out _ hb).mono ?_; rintro e w1 ⟨rfl, hb⟩)
    | (go_at_call 37; refine (nan_calls _).mono ?_; rintro e w1 ⟨rfl, hd⟩; replace hb := hb.trans (hd.below.mono hb.size)))
  go_ret
  exact ⟨rfl, hb⟩
end Go.Proofs.YtkkadhhmdgbpiaaGreatDoor.P
