/- Each theorem here says that a call of one Go function ends with what the plain function of that name answers (printed by a program of this session); a law's row says that the law returns true for every input. No condition. -/
import Derived.Test.YtfeodnceegkmjaaPx0
import Derived.Test.YtfeodnceegkmjaaPx2
import Derived.Test.YtfeodnceegkmjaaPx4
namespace Go.Proofs.Ytfeodnceegkmjaa.P
open Go.RowKit Go.Proofs.YtfeodnceegkmjaaW.PrintWords Go.Proofs.YtfeodnceegkmjaaW.PrintLast Go.Proofs.YtfeodnceegkmjaaW.PrintMore
attribute [local go_sem] max2_int min2_int max_two min_two max_three min_three max_four min_four   -- for this text's walks alone
set_option linter.unusedVariables false
set_option linter.unusedSimpArgs false

/-! ### vinculumref05_Put: function 10 -/
def vinculumref05_Put.j0 : Nat → Int → Int → Int → Int → Int → Int → Bool → Option (ByteArray × ByteArray × ByteArray × Int)
  | 0, _, _, _, _, _, _, _ => none
  | k + 1, x6, x122000, x122001, x122002, x122003, x122004, x122005 => (vinculumref03_Noughts.f k 12).bind fun t123 => ((vinculumref03_Bytes.f k 1594834165 4).bind fun t124 => (if t123.size + t124.size ≤ 9223372036854775807 then ((vinculumref03_Noughts.f k 2).bind fun t125 => (if (t123 ++ t124).size + t125.size ≤ 9223372036854775807 then ((vinculumref03_Bytes.f k x122000 2).bind fun t126 => (if ((t123 ++ t124) ++ t125).size + t126.size ≤ 9223372036854775807 then ((vinculumref03_Noughts.f k 30).bind fun t127 => (if (((t123 ++ t124) ++ t125) ++ t126).size + t127.size ≤ 9223372036854775807 then ((vinculumref03_Bytes.f k x6 2).bind fun t128 => (if ((((t123 ++ t124) ++ t125) ++ t126) ++ t127).size + t128.size ≤ 9223372036854775807 then ((vinculumref03_Noughts.f k 2).bind fun t129 => (if (((((t123 ++ t124) ++ t125) ++ t126) ++ t127) ++ t128).size + t129.size ≤ 9223372036854775807 then ((vinculumref03_Noughts.f k 4).bind fun t130 => ((vinculumref03_Bytes.f k x122003 2).bind fun t131 => (if t130.size + t131.size ≤ 9223372036854775807 then ((vinculumref03_Bytes.f k x122004 2).bind fun t132 => (if (t130 ++ t131).size + t132.size ≤ 9223372036854775807 then ((vinculumref03_Noughts.f k 26).bind fun t133 => (if ((t130 ++ t131) ++ t132).size + t133.size ≤ 9223372036854775807 then ((vinculumref03_Bytes.f k x122002 2).bind fun t134 => (if (((t130 ++ t131) ++ t132) ++ t133).size + t134.size ≤ 9223372036854775807 then ((vinculumref03_Noughts.f k 4).bind fun t135 => ((vinculumref03_Bytes.f k x122001 2).bind fun t136 => (if t135.size + t136.size ≤ 9223372036854775807 then (some ((((((t123 ++ t124) ++ t125) ++ t126) ++ t127) ++ t128) ++ t129, t135 ++ t136, (((t130 ++ t131) ++ t132) ++ t133) ++ t134, 0)) else (none)))) else (none))) else (none))) else (none))) else (none)))) else (none))) else (none))) else (none))) else (none))) else (none))) else (none)))
def vinculumref05_Put.f (k : Nat) (a0_0 : Int) (a0_1 : Int) (a0_2 : Int) (a0_3 : Int) (a0_4 : Int) (a0_5 : Bool) : Option (ByteArray × ByteArray × ByteArray × Int) := (vinculumref05_Is.f a0_0 a0_1 a0_2 a0_3 a0_4 a0_5).bind fun t122 => (if t122 = true then (if a0_5 = true then (vinculumref05_Put.j0 k 1 a0_0 a0_1 a0_2 a0_3 a0_4 a0_5) else (vinculumref05_Put.j0 k 0 a0_0 a0_1 a0_2 a0_3 a0_4 a0_5)) else (some ((⟨#[]⟩ : ByteArray), (⟨#[]⟩ : ByteArray), (⟨#[]⟩ : ByteArray), 1)))
theorem vinculumref05_Put.mono_l : ∀ k, (∀ y0 y1 y2 y3 y4 y5 y6, LeO (vinculumref05_Put.j0 k y0 y1 y2 y3 y4 y5 y6) (vinculumref05_Put.j0 (k + 1) y0 y1 y2 y3 y4 y5 y6))
  | 0 => fun _ _ _ _ _ _ _ r h => by simp [vinculumref05_Put.j0] at h
  | k + 1 => by
    have ih0 := vinculumref05_Put.mono_l k
    · intro y0 y1 y2 y3 y4 y5 y6
      unfold vinculumref05_Put.j0
      repeat' first
      | (with_reducible exact ih0 _ _ _ _ _ _ _)
      | (with_reducible exact vinculumref03_Bytes.mono _ _ _)
      | (with_reducible exact vinculumref03_Noughts.mono _ _)
      | (with_reducible exact LeO.refl _)
      | (with_reducible exact LeO.none _)
      | (with_reducible refine LeO.ite ?_ ?_)
      | (with_reducible refine LeO.bind ?_ (fun _ => ?_))
      | exact ih0 _ _ _ _ _ _ _
      | exact vinculumref03_Bytes.mono _ _ _
      | exact vinculumref03_Noughts.mono _ _
      | exact LeO.none _
      | refine LeO.ite ?_ ?_
      | refine LeO.bind ?_ (fun _ => ?_)
theorem vinculumref05_Put.mono : ∀ a0 a1 a2 a3 a4 a5 k, LeO (vinculumref05_Put.f k a0 a1 a2 a3 a4 a5) (vinculumref05_Put.f (k + 1) a0 a1 a2 a3 a4 a5) := by
  intro a0 a1 a2 a3 a4 a5 k
  have ih0 := vinculumref05_Put.mono_l k
  unfold vinculumref05_Put.f
  repeat' first
      | (with_reducible exact ih0 _ _ _ _ _ _ _)
      | (with_reducible exact vinculumref03_Bytes.mono _ _ _)
      | (with_reducible exact vinculumref03_Noughts.mono _ _)
      | (with_reducible exact LeO.refl _)
      | (with_reducible exact LeO.none _)
      | (with_reducible refine LeO.ite ?_ ?_)
      | (with_reducible refine LeO.bind ?_ (fun _ => ?_))
      | exact ih0 _ _ _ _ _ _ _
      | exact vinculumref03_Bytes.mono _ _ _
      | exact vinculumref03_Noughts.mono _ _
      | exact LeO.none _
      | refine LeO.ite ?_ ?_
      | refine LeO.bind ?_ (fun _ => ?_)
def vinculumref05_Put.T6 : Bool × List (List Nat × List Nat) := (true, [([], []), ([0], []), ([0, 1], [0, 1]), ([1], []), ([2, 3], [2, 3]), ([], []), ([5], [5]), ([6, 3], [6]), ([4, 7], [4, 7]), ([7], []), ([8, 9], [8, 9]), ([], []), ([11, 9], [11]), ([10, 12], [10, 12]), ([12], []), ([13, 14], [13, 14]), ([15, 14, 0, 1, 2, 3, 4, 5, 6, 7, 8, 9, 10, 11, 12, 13, 14, 15], [15])])
def vinculumref05_Put.B6 : List Nat := [0, 1, 3, 3, 15, 0, 32, 107, 255, 235, 1023, 0, 2795, 8191, 6891, 32767, 65535]
theorem vinculumref05_Put.tab6 : rtab .any (opsOf Try.f10 6) = vinculumref05_Put.T6 := by kernel_rfl
theorem vinculumref05_Put.bits6 : waitsOk vinculumref05_Put.T6.2 vinculumref05_Put.B6 = true := by kernel_rfl
def vinculumref05_Put.T7 : Bool × List (List Nat × List Nat) := (true, [([], []), ([], []), ([1], [1]), ([2, 0], [2]), ([0, 3], [0, 3]), ([], []), ([5], [5]), ([6, 3], [6]), ([4, 7], [4, 7]), ([7], []), ([8, 9], [8, 9]), ([], []), ([11], [11]), ([12, 9], [12]), ([10, 13], [10, 13]), ([14, 13, 0, 1, 2, 3, 4, 5, 6, 7, 8, 9, 10, 11, 12, 13, 14], [14])])
def vinculumref05_Put.B7 : List Nat := [0, 0, 2, 7, 15, 0, 32, 111, 255, 239, 1023, 0, 2048, 6895, 16383, 32767]
theorem vinculumref05_Put.tab7 : rtab .any (opsOf Try.f10 7) = vinculumref05_Put.T7 := by kernel_rfl
theorem vinculumref05_Put.bits7 : waitsOk vinculumref05_Put.T7.2 vinculumref05_Put.B7 = true := by kernel_rfl
def vinculumref05_Put.T8 : Bool × List (List Nat × List Nat) := (true, [([], []), ([], []), ([], []), ([2], [2]), ([3, 1], [3]), ([1, 4], [1, 4]), ([], []), ([0, 4, 0], [0]), ([5, 7, 0, 1, 2, 3, 4, 5, 7], [5]), ([6, 8, 0, 1, 2, 3, 4, 5, 6, 7, 8], [6]), ([9, 0, 1, 2, 3, 4, 5, 6, 7, 8, 9], [])])
def vinculumref05_Put.B8 : List Nat := [0, 0, 0, 4, 14, 30, 0, 31, 191, 511, 1023]
theorem vinculumref05_Put.tab8 : rtab .any (opsOf Try.f10 8) = vinculumref05_Put.T8 := by kernel_rfl
theorem vinculumref05_Put.bits8 : waitsOk vinculumref05_Put.T8.2 vinculumref05_Put.B8 = true := by kernel_rfl
set_option maxHeartbeats 8000000 in
set_option maxRecDepth 100000 in
theorem vinculumref05_Put.calls (k : Nat) (a0_0 : Int) (a0_1 : Int) (a0_2 : Int) (a0_3 : Int) (a0_4 : Int) (a0_5 : Bool) (r1 : ByteArray) (r2 : ByteArray) (r3 : ByteArray) (r4 : Int) (w : World) (h : vinculumref05_Put.f k a0_0 a0_1 a0_2 a0_3 a0_4 a0_5 = some (r1, r2, r3, r4)) :
    Calls Try.prog 10 #[.agg #[.int .i64 a0_0, .int .i64 a0_1, .int .i64 a0_2, .int .i64 a0_3, .int .i64 a0_4, .bool a0_5]] w fun e w' => e = .returned (.tuple #[.string r1, .string r2, .string r3, .int .i64 r4]) ∧ Below w.heap.size w w' := by
  have hu23 := Try.underlying23
  have HB := Aside0.mk (Below.refl w.heap.size w)
  have H : ((vinculumref05_Is.f a0_0 a0_1 a0_2 a0_3 a0_4 a0_5).bind fun t122 => (if t122 = true then (if a0_5 = true then (vinculumref05_Put.j0 k 1 a0_0 a0_1 a0_2 a0_3 a0_4 a0_5) else (vinculumref05_Put.j0 k 0 a0_0 a0_1 a0_2 a0_3 a0_4 a0_5)) else (some ((⟨#[]⟩ : ByteArray), (⟨#[]⟩ : ByteArray), (⟨#[]⟩ : ByteArray), 1)))) = some (r1, r2, r3, r4) := h
  clear h
  replace H := Option.bind_eq_some_iff.mp H
  obtain ⟨t122, A20, H⟩ := H
  replace H : (if t122 = true then (if a0_5 = true then (vinculumref05_Put.j0 k 1 a0_0 a0_1 a0_2 a0_3 a0_4 a0_5) else (vinculumref05_Put.j0 k 0 a0_0 a0_1 a0_2 a0_3 a0_4 a0_5)) else (some ((⟨#[]⟩ : ByteArray), (⟨#[]⟩ : ByteArray), (⟨#[]⟩ : ByteArray), 1))) = some (r1, r2, r3, r4) := H
  have A2 := Aside0.mk A20
  clear A20
  by_cases c3 : t122 = true
  · subst c3
    have H1 : (if a0_5 = true then (vinculumref05_Put.j0 k 1 a0_0 a0_1 a0_2 a0_3 a0_4 a0_5) else (vinculumref05_Put.j0 k 0 a0_0 a0_1 a0_2 a0_3 a0_4 a0_5)) = some (r1, r2, r3, r4) := by rw [if_pos rfl] at H; exact H
    clear H
    have H := H1
    clear H1
    have HC4 := Aside0.mk H
    clear H
    go_enter Try.func10, Try.ntmps10
    go_upto_if 13 with (first | ((with_reducible refine gate_dst (N := 1) rfl ?_); refine box_event ?hg (N := 1) ?hd (cs := #[.int .i64 a0_0, .int .i64 a0_1, .int .i64 a0_2, .int .i64 a0_3, .int .i64 a0_4, .bool a0_5]) (t := 23) ?hr ?_; (case hd => rfl); (case hg => rfl); (case hr => first | (go_simp; done) | (go_simp; rfl)); intro gb121 hg w5 hbox hb; have n0_ := Aside0.mk (below_step (by repeat (first | (with_reducible first | exact HB.out | apply below_alloc | apply pw_below_drewN | apply below_drew1) | exact HB.out)) hb); have n1_ := Aside0.mk (hbox); have n2_ := Aside0.mk ((by rw [hg]; exact (below_size (by repeat (first | (with_reducible first | exact HB.out | apply below_alloc | apply pw_below_drewN | apply below_drew1) | exact HB.out))) : w.heap.size ≤ gb121)); have n3_ := Aside0.mk ((by rw [hg]; exact (below_size (by repeat (first | (with_reducible first | exact HB.out | apply below_alloc | apply pw_below_drewN | apply below_drew1) | exact HB.out))) : w.heap.size ≤ gb121)); clear HB; have HB := n0_; have BK121 := n1_; have GW121 := n2_; have GE121 := n3_; clear n0_ n1_ n2_ n3_; clear hb hbox hg; have hcz6_0 : w5.cell? ⟨gb121, 0, none⟩ = some (.int .i64 a0_0) := (blk_cell BK121.out 0).trans rfl; have hcz6_1 : w5.cell? ⟨gb121, 1, none⟩ = some (.int .i64 a0_1) := (blk_cell BK121.out 1).trans rfl; have hcz6_2 : w5.cell? ⟨gb121, 2, none⟩ = some (.int .i64 a0_2) := (blk_cell BK121.out 2).trans rfl; have hcz6_3 : w5.cell? ⟨gb121, 3, none⟩ = some (.int .i64 a0_3) := (blk_cell BK121.out 3).trans rfl; have hcz6_4 : w5.cell? ⟨gb121, 4, none⟩ = some (.int .i64 a0_4) := (blk_cell BK121.out 4).trans rfl; have hcz6_5 : w5.cell? ⟨gb121, 5, none⟩ = some (.bool a0_5) := (blk_cell BK121.out 5).trans rfl; have hfz6_0 := blk_frozen BK121.out 0; have hfz6_1 := blk_frozen BK121.out 1; have hfz6_2 := blk_frozen BK121.out 2; have hfz6_3 := blk_frozen BK121.out 3; have hfz6_4 := blk_frozen BK121.out 4; have hfz6_5 := blk_frozen BK121.out 5) | ((with_reducible refine gate_callee (f := 15) rfl ?_); refine goesL_ (some 10) rfl rfl Try.func15 (by kernel_rfl) rfl #[.agg #[.int .i64 a0_0, .int .i64 a0_1, .int .i64 a0_2, .int .i64 a0_3, .int .i64 a0_4, .bool a0_5]] rfl (by (try simp only [List.map_toArray, List.map_cons, List.map_nil]); first | done | rfl | (simp only [List.length_drop, List.length_take]; rfl)) ?_; (with_reducible refine (vinculumref05_Is.calls a0_0 a0_1 a0_2 a0_3 a0_4 a0_5 true _ A2.out).mono ?_); rintro e w7 ⟨rfl, hb⟩; refine ⟨_, rfl, ?_⟩; have n0_ := Aside0.mk (blk_below (g := gb121) (o := .cells #[.int .i64 a0_0, .int .i64 a0_1, .int .i64 a0_2, .int .i64 a0_3, .int .i64 a0_4, .bool a0_5] 23 (0, 0)) (by (with_reducible repeat (first | refine blk_drewN ?_ _ | refine blk_drew ?_ | refine blk_alloc ?_ _)); exact BK121.out) hb); have n1_ := Aside0.mk (below_step (by repeat (first | (with_reducible first | exact HB.out | apply below_alloc | apply pw_below_drewN | apply below_drew1 | refine below_set ?_ GE121.out) | exact HB.out)) hb); clear BK121; clear HB; have BK121 := n0_; have HB := n1_; clear n0_ n1_; (try clear hb); (try clear hb2); (try clear hk); (try clear hi); have hcz8_0 : w7.cell? ⟨gb121, 0, none⟩ = some (.int .i64 a0_0) := (blk_cell BK121.out 0).trans rfl; have hcz8_1 : w7.cell? ⟨gb121, 1, none⟩ = some (.int .i64 a0_1) := (blk_cell BK121.out 1).trans rfl; have hcz8_2 : w7.cell? ⟨gb121, 2, none⟩ = some (.int .i64 a0_2) := (blk_cell BK121.out 2).trans rfl; have hcz8_3 : w7.cell? ⟨gb121, 3, none⟩ = some (.int .i64 a0_3) := (blk_cell BK121.out 3).trans rfl; have hcz8_4 : w7.cell? ⟨gb121, 4, none⟩ = some (.int .i64 a0_4) := (blk_cell BK121.out 4).trans rfl; have hcz8_5 : w7.cell? ⟨gb121, 5, none⟩ = some (.bool a0_5) := (blk_cell BK121.out 5).trans rfl; have hfz8_0 := blk_frozen BK121.out 0; have hfz8_1 := blk_frozen BK121.out 1; have hfz8_2 := blk_frozen BK121.out 2; have hfz8_3 := blk_frozen BK121.out 3; have hfz8_4 := blk_frozen BK121.out 4; have hfz8_5 := blk_frozen BK121.out 5))
    (try simp only [Act.put, List.setIfInBounds_toArray, List.set_cons_zero, List.set_cons_succ])
    go_cut [6] (fun v6 wc => ∃ (kq : Nat) (x6_3 : Int), v6 = .int .i64 x6_3 ∧ Aside0 (vinculumref05_Put.j0 kq x6_3 a0_0 a0_1 a0_2 a0_3 a0_4 a0_5 = some (r1, r2, r3, r4)) ∧ Aside0 (kq ≤ k) ∧ Aside0 (wc.heap[gb121]? = some (.cells #[.int .i64 a0_0, .int .i64 a0_1, .int .i64 a0_2, .int .i64 a0_3, .int .i64 a0_4, .bool a0_5] 23 (0, 0))) ∧ Aside0 (Below w.heap.size w wc))
    case first =>
      have H := HC4.out
      clear HC4
      by_cases c9 : a0_5 = true
      · subst c9
        have H1 : (vinculumref05_Put.j0 k 1 a0_0 a0_1 a0_2 a0_3 a0_4 true) = some (r1, r2, r3, r4) := by rw [if_pos rfl] at H; exact H
        clear H
        have H := H1
        clear H1
        have H' := Aside0.mk H
        clear H
        go_wp2
        go_meet
        case rel => exact ⟨_, (1), (by first | rfl | (simp; done) | (simp [*]; done)), H', ⟨by first | omega | exact Nat.le_refl _⟩, ⟨by (with_reducible repeat (first | refine blk_drewN ?_ _ | refine blk_drew ?_ | refine blk_alloc ?_ _)); exact BK121.out⟩, ⟨by repeat (first | (with_reducible first | exact HB.out | apply below_alloc | apply pw_below_drewN | apply below_drew1 | refine below_set ?_ GE121.out) | exact HB.out)⟩⟩
      · replace c9 := Bool.eq_false_iff.mpr c9
        subst c9
        have H1 : (vinculumref05_Put.j0 k 0 a0_0 a0_1 a0_2 a0_3 a0_4 false) = some (r1, r2, r3, r4) := by rw [if_neg (show ¬ (false = true) by decide)] at H; exact H
        clear H
        have H := H1
        clear H1
        have H' := Aside0.mk H
        clear H
        go_wp2
        go_meet
        case rel => exact ⟨_, (0), (by first | rfl | (simp; done) | (simp [*]; done)), H', ⟨by first | omega | exact Nat.le_refl _⟩, ⟨by (with_reducible repeat (first | refine blk_drewN ?_ _ | refine blk_drew ?_ | refine blk_alloc ?_ _)); exact BK121.out⟩, ⟨by repeat (first | (with_reducible first | exact HB.out | apply below_alloc | apply pw_below_drewN | apply below_drew1 | refine below_set ?_ GE121.out) | exact HB.out)⟩⟩
    case rest =>
      clear HC4
      try clear c1
      try clear p2
      try clear c3
      try clear c9
      try clear hcz6_0
      try clear hcz6_1
      try clear hcz6_2
      try clear hcz6_3
      try clear hcz6_4
      try clear hcz6_5
      try clear hcz8_0
      try clear hcz8_1
      try clear hcz8_2
      try clear hcz8_3
      try clear hcz8_4
      try clear hcz8_5
      try clear hfz6_0
      try clear hfz6_1
      try clear hfz6_2
      try clear hfz6_3
      try clear hfz6_4
      try clear hfz6_5
      try clear hfz8_0
      try clear hfz8_1
      try clear hfz8_2
      try clear hfz8_3
      try clear hfz8_4
      try clear hfz8_5
      obtain ⟨kq, x6_3, rfl, HA, HJ3, BK121, HB⟩ := hcut
      cases kq with
      | zero => exact absurd HA.out (by simp [vinculumref05_Put.j0])
      | succ kj3 =>
        have H := HA.out
        clear HA
        simp only [vinculumref05_Put.j0] at H
        replace H := Option.bind_eq_some_iff.mp H
        obtain ⟨t123, A100, H⟩ := H
        replace H : ((vinculumref03_Bytes.f kj3 1594834165 4).bind fun t124 => (if t123.size + t124.size ≤ 9223372036854775807 then ((vinculumref03_Noughts.f kj3 2).bind fun t125 => (if (t123 ++ t124).size + t125.size ≤ 9223372036854775807 then ((vinculumref03_Bytes.f kj3 a0_0 2).bind fun t126 => (if ((t123 ++ t124) ++ t125).size + t126.size ≤ 9223372036854775807 then ((vinculumref03_Noughts.f kj3 30).bind fun t127 => (if (((t123 ++ t124) ++ t125) ++ t126).size + t127.size ≤ 9223372036854775807 then ((vinculumref03_Bytes.f kj3 x6_3 2).bind fun t128 => (if ((((t123 ++ t124) ++ t125) ++ t126) ++ t127).size + t128.size ≤ 9223372036854775807 then ((vinculumref03_Noughts.f kj3 2).bind fun t129 => (if (((((t123 ++ t124) ++ t125) ++ t126) ++ t127) ++ t128).size + t129.size ≤ 9223372036854775807 then ((vinculumref03_Noughts.f kj3 4).bind fun t130 => ((vinculumref03_Bytes.f kj3 a0_3 2).bind fun t131 => (if t130.size + t131.size ≤ 9223372036854775807 then ((vinculumref03_Bytes.f kj3 a0_4 2).bind fun t132 => (if (t130 ++ t131).size + t132.size ≤ 9223372036854775807 then ((vinculumref03_Noughts.f kj3 26).bind fun t133 => (if ((t130 ++ t131) ++ t132).size + t133.size ≤ 9223372036854775807 then ((vinculumref03_Bytes.f kj3 a0_2 2).bind fun t134 => (if (((t130 ++ t131) ++ t132) ++ t133).size + t134.size ≤ 9223372036854775807 then ((vinculumref03_Noughts.f kj3 4).bind fun t135 => ((vinculumref03_Bytes.f kj3 a0_1 2).bind fun t136 => (if t135.size + t136.size ≤ 9223372036854775807 then (some ((((((t123 ++ t124) ++ t125) ++ t126) ++ t127) ++ t128) ++ t129, t135 ++ t136, (((t130 ++ t131) ++ t132) ++ t133) ++ t134, 0)) else (none)))) else (none))) else (none))) else (none))) else (none)))) else (none))) else (none))) else (none))) else (none))) else (none))) else (none))) = some (r1, r2, r3, r4) := H
        have A10 := Aside0.mk A100
        clear A100
        replace H := Option.bind_eq_some_iff.mp H
        obtain ⟨t124, A110, H⟩ := H
        replace H : (if t123.size + t124.size ≤ 9223372036854775807 then ((vinculumref03_Noughts.f kj3 2).bind fun t125 => (if (t123 ++ t124).size + t125.size ≤ 9223372036854775807 then ((vinculumref03_Bytes.f kj3 a0_0 2).bind fun t126 => (if ((t123 ++ t124) ++ t125).size + t126.size ≤ 9223372036854775807 then ((vinculumref03_Noughts.f kj3 30).bind fun t127 => (if (((t123 ++ t124) ++ t125) ++ t126).size + t127.size ≤ 9223372036854775807 then ((vinculumref03_Bytes.f kj3 x6_3 2).bind fun t128 => (if ((((t123 ++ t124) ++ t125) ++ t126) ++ t127).size + t128.size ≤ 9223372036854775807 then ((vinculumref03_Noughts.f kj3 2).bind fun t129 => (if (((((t123 ++ t124) ++ t125) ++ t126) ++ t127) ++ t128).size + t129.size ≤ 9223372036854775807 then ((vinculumref03_Noughts.f kj3 4).bind fun t130 => ((vinculumref03_Bytes.f kj3 a0_3 2).bind fun t131 => (if t130.size + t131.size ≤ 9223372036854775807 then ((vinculumref03_Bytes.f kj3 a0_4 2).bind fun t132 => (if (t130 ++ t131).size + t132.size ≤ 9223372036854775807 then ((vinculumref03_Noughts.f kj3 26).bind fun t133 => (if ((t130 ++ t131) ++ t132).size + t133.size ≤ 9223372036854775807 then ((vinculumref03_Bytes.f kj3 a0_2 2).bind fun t134 => (if (((t130 ++ t131) ++ t132) ++ t133).size + t134.size ≤ 9223372036854775807 then ((vinculumref03_Noughts.f kj3 4).bind fun t135 => ((vinculumref03_Bytes.f kj3 a0_1 2).bind fun t136 => (if t135.size + t136.size ≤ 9223372036854775807 then (some ((((((t123 ++ t124) ++ t125) ++ t126) ++ t127) ++ t128) ++ t129, t135 ++ t136, (((t130 ++ t131) ++ t132) ++ t133) ++ t134, 0)) else (none)))) else (none))) else (none))) else (none))) else (none)))) else (none))) else (none))) else (none))) else (none))) else (none))) else (none)) = some (r1, r2, r3, r4) := H
        have A11 := Aside0.mk A110
        clear A110
        by_cases c12 : t123.size + t124.size ≤ 9223372036854775807
        · rw [if_pos c12] at H
          have c12b0 := eq_true c12
          have c12b1 : decide (t123.size + t124.size ≤ 9223372036854775807) = true := decide_eq_true c12
          try have c12b2 : (9223372036854775807 < t123.size + t124.size) = False := eq_false (Nat.not_lt.2 c12)
          replace H := Option.bind_eq_some_iff.mp H
          obtain ⟨t125, A130, H⟩ := H
          replace H : (if (t123 ++ t124).size + t125.size ≤ 9223372036854775807 then ((vinculumref03_Bytes.f kj3 a0_0 2).bind fun t126 => (if ((t123 ++ t124) ++ t125).size + t126.size ≤ 9223372036854775807 then ((vinculumref03_Noughts.f kj3 30).bind fun t127 => (if (((t123 ++ t124) ++ t125) ++ t126).size + t127.size ≤ 9223372036854775807 then ((vinculumref03_Bytes.f kj3 x6_3 2).bind fun t128 => (if ((((t123 ++ t124) ++ t125) ++ t126) ++ t127).size + t128.size ≤ 9223372036854775807 then ((vinculumref03_Noughts.f kj3 2).bind fun t129 => (if (((((t123 ++ t124) ++ t125) ++ t126) ++ t127) ++ t128).size + t129.size ≤ 9223372036854775807 then ((vinculumref03_Noughts.f kj3 4).bind fun t130 => ((vinculumref03_Bytes.f kj3 a0_3 2).bind fun t131 => (if t130.size + t131.size ≤ 9223372036854775807 then ((vinculumref03_Bytes.f kj3 a0_4 2).bind fun t132 => (if (t130 ++ t131).size + t132.size ≤ 9223372036854775807 then ((vinculumref03_Noughts.f kj3 26).bind fun t133 => (if ((t130 ++ t131) ++ t132).size + t133.size ≤ 9223372036854775807 then ((vinculumref03_Bytes.f kj3 a0_2 2).bind fun t134 => (if (((t130 ++ t131) ++ t132) ++ t133).size + t134.size ≤ 9223372036854775807 then ((vinculumref03_Noughts.f kj3 4).bind fun t135 => ((vinculumref03_Bytes.f kj3 a0_1 2).bind fun t136 => (if t135.size + t136.size ≤ 9223372036854775807 then (some ((((((t123 ++ t124) ++ t125) ++ t126) ++ t127) ++ t128) ++ t129, t135 ++ t136, (((t130 ++ t131) ++ t132) ++ t133) ++ t134, 0)) else (none)))) else (none))) else (none))) else (none))) else (none)))) else (none))) else (none))) else (none))) else (none))) else (none)) = some (r1, r2, r3, r4) := H
          have A13 := Aside0.mk A130
          clear A130
          by_cases c14 : (t123 ++ t124).size + t125.size ≤ 9223372036854775807
          · rw [if_pos c14] at H
            have c14b0 := eq_true c14
            have c14b1 : decide ((t123 ++ t124).size + t125.size ≤ 9223372036854775807) = true := decide_eq_true c14
            try have c14b2 : (9223372036854775807 < (t123 ++ t124).size + t125.size) = False := eq_false (Nat.not_lt.2 c14)
            try (have c14b3 := c14; simp only [ByteArray.size_append] at c14b3; replace c14b3 := eq_true c14b3)
            try (have c14b4 := c14; simp only [ByteArray.size_append] at c14b4; replace c14b4 := eq_false (Nat.not_lt.2 c14b4))
            replace H := Option.bind_eq_some_iff.mp H
            obtain ⟨t126, A150, H⟩ := H
            replace H : (if ((t123 ++ t124) ++ t125).size + t126.size ≤ 9223372036854775807 then ((vinculumref03_Noughts.f kj3 30).bind fun t127 => (if (((t123 ++ t124) ++ t125) ++ t126).size + t127.size ≤ 9223372036854775807 then ((vinculumref03_Bytes.f kj3 x6_3 2).bind fun t128 => (if ((((t123 ++ t124) ++ t125) ++ t126) ++ t127).size + t128.size ≤ 9223372036854775807 then ((vinculumref03_Noughts.f kj3 2).bind fun t129 => (if (((((t123 ++ t124) ++ t125) ++ t126) ++ t127) ++ t128).size + t129.size ≤ 9223372036854775807 then ((vinculumref03_Noughts.f kj3 4).bind fun t130 => ((vinculumref03_Bytes.f kj3 a0_3 2).bind fun t131 => (if t130.size + t131.size ≤ 9223372036854775807 then ((vinculumref03_Bytes.f kj3 a0_4 2).bind fun t132 => (if (t130 ++ t131).size + t132.size ≤ 9223372036854775807 then ((vinculumref03_Noughts.f kj3 26).bind fun t133 => (if ((t130 ++ t131) ++ t132).size + t133.size ≤ 9223372036854775807 then ((vinculumref03_Bytes.f kj3 a0_2 2).bind fun t134 => (if (((t130 ++ t131) ++ t132) ++ t133).size + t134.size ≤ 9223372036854775807 then ((vinculumref03_Noughts.f kj3 4).bind fun t135 => ((vinculumref03_Bytes.f kj3 a0_1 2).bind fun t136 => (if t135.size + t136.size ≤ 9223372036854775807 then (some ((((((t123 ++ t124) ++ t125) ++ t126) ++ t127) ++ t128) ++ t129, t135 ++ t136, (((t130 ++ t131) ++ t132) ++ t133) ++ t134, 0)) else (none)))) else (none))) else (none))) else (none))) else (none)))) else (none))) else (none))) else (none))) else (none)) = some (r1, r2, r3, r4) := H
            have A15 := Aside0.mk A150
            clear A150
            by_cases c16 : ((t123 ++ t124) ++ t125).size + t126.size ≤ 9223372036854775807
            · rw [if_pos c16] at H
              have c16b0 := eq_true c16
              have c16b1 : decide (((t123 ++ t124) ++ t125).size + t126.size ≤ 9223372036854775807) = true := decide_eq_true c16
              try have c16b2 : (9223372036854775807 < ((t123 ++ t124) ++ t125).size + t126.size) = False := eq_false (Nat.not_lt.2 c16)
              try (have c16b3 := c16; simp only [ByteArray.size_append] at c16b3; replace c16b3 := eq_true c16b3)
              try (have c16b4 := c16; simp only [ByteArray.size_append] at c16b4; replace c16b4 := eq_false (Nat.not_lt.2 c16b4))
              replace H := Option.bind_eq_some_iff.mp H
              obtain ⟨t127, A170, H⟩ := H
              replace H : (if (((t123 ++ t124) ++ t125) ++ t126).size + t127.size ≤ 9223372036854775807 then ((vinculumref03_Bytes.f kj3 x6_3 2).bind fun t128 => (if ((((t123 ++ t124) ++ t125) ++ t126) ++ t127).size + t128.size ≤ 9223372036854775807 then ((vinculumref03_Noughts.f kj3 2).bind fun t129 => (if (((((t123 ++ t124) ++ t125) ++ t126) ++ t127) ++ t128).size + t129.size ≤ 9223372036854775807 then ((vinculumref03_Noughts.f kj3 4).bind fun t130 => ((vinculumref03_Bytes.f kj3 a0_3 2).bind fun t131 => (if t130.size + t131.size ≤ 9223372036854775807 then ((vinculumref03_Bytes.f kj3 a0_4 2).bind fun t132 => (if (t130 ++ t131).size + t132.size ≤ 9223372036854775807 then ((vinculumref03_Noughts.f kj3 26).bind fun t133 => (if ((t130 ++ t131) ++ t132).size + t133.size ≤ 9223372036854775807 then ((vinculumref03_Bytes.f kj3 a0_2 2).bind fun t134 => (if (((t130 ++ t131) ++ t132) ++ t133).size + t134.size ≤ 9223372036854775807 then ((vinculumref03_Noughts.f kj3 4).bind fun t135 => ((vinculumref03_Bytes.f kj3 a0_1 2).bind fun t136 => (if t135.size + t136.size ≤ 9223372036854775807 then (some ((((((t123 ++ t124) ++ t125) ++ t126) ++ t127) ++ t128) ++ t129, t135 ++ t136, (((t130 ++ t131) ++ t132) ++ t133) ++ t134, 0)) else (none)))) else (none))) else (none))) else (none))) else (none)))) else (none))) else (none))) else (none)) = some (r1, r2, r3, r4) := H
              have A17 := Aside0.mk A170
              clear A170
              by_cases c18 : (((t123 ++ t124) ++ t125) ++ t126).size + t127.size ≤ 9223372036854775807
              · rw [if_pos c18] at H
                have c18b0 := eq_true c18
                have c18b1 : decide ((((t123 ++ t124) ++ t125) ++ t126).size + t127.size ≤ 9223372036854775807) = true := decide_eq_true c18
                try have c18b2 : (9223372036854775807 < (((t123 ++ t124) ++ t125) ++ t126).size + t127.size) = False := eq_false (Nat.not_lt.2 c18)
                try (have c18b3 := c18; simp only [ByteArray.size_append] at c18b3; replace c18b3 := eq_true c18b3)
                try (have c18b4 := c18; simp only [ByteArray.size_append] at c18b4; replace c18b4 := eq_false (Nat.not_lt.2 c18b4))
                replace H := Option.bind_eq_some_iff.mp H
                obtain ⟨t128, A190, H⟩ := H
                replace H : (if ((((t123 ++ t124) ++ t125) ++ t126) ++ t127).size + t128.size ≤ 9223372036854775807 then ((vinculumref03_Noughts.f kj3 2).bind fun t129 => (if (((((t123 ++ t124) ++ t125) ++ t126) ++ t127) ++ t128).size + t129.size ≤ 9223372036854775807 then ((vinculumref03_Noughts.f kj3 4).bind fun t130 => ((vinculumref03_Bytes.f kj3 a0_3 2).bind fun t131 => (if t130.size + t131.size ≤ 9223372036854775807 then ((vinculumref03_Bytes.f kj3 a0_4 2).bind fun t132 => (if (t130 ++ t131).size + t132.size ≤ 9223372036854775807 then ((vinculumref03_Noughts.f kj3 26).bind fun t133 => (if ((t130 ++ t131) ++ t132).size + t133.size ≤ 9223372036854775807 then ((vinculumref03_Bytes.f kj3 a0_2 2).bind fun t134 => (if (((t130 ++ t131) ++ t132) ++ t133).size + t134.size ≤ 9223372036854775807 then ((vinculumref03_Noughts.f kj3 4).bind fun t135 => ((vinculumref03_Bytes.f kj3 a0_1 2).bind fun t136 => (if t135.size + t136.size ≤ 9223372036854775807 then (some ((((((t123 ++ t124) ++ t125) ++ t126) ++ t127) ++ t128) ++ t129, t135 ++ t136, (((t130 ++ t131) ++ t132) ++ t133) ++ t134, 0)) else (none)))) else (none))) else (none))) else (none))) else (none)))) else (none))) else (none)) = some (r1, r2, r3, r4) := H
                have A19 := Aside0.mk A190
                clear A190
                by_cases c20 : ((((t123 ++ t124) ++ t125) ++ t126) ++ t127).size + t128.size ≤ 9223372036854775807
                · rw [if_pos c20] at H
                  have c20b0 := eq_true c20
                  have c20b1 : decide (((((t123 ++ t124) ++ t125) ++ t126) ++ t127).size + t128.size ≤ 9223372036854775807) = true := decide_eq_true c20
                  try have c20b2 : (9223372036854775807 < ((((t123 ++ t124) ++ t125) ++ t126) ++ t127).size + t128.size) = False := eq_false (Nat.not_lt.2 c20)
                  try (have c20b3 := c20; simp only [ByteArray.size_append] at c20b3; replace c20b3 := eq_true c20b3)
                  try (have c20b4 := c20; simp only [ByteArray.size_append] at c20b4; replace c20b4 := eq_false (Nat.not_lt.2 c20b4))
                  replace H := Option.bind_eq_some_iff.mp H
                  obtain ⟨t129, A210, H⟩ := H
                  replace H : (if (((((t123 ++ t124) ++ t125) ++ t126) ++ t127) ++ t128).size + t129.size ≤ 9223372036854775807 then ((vinculumref03_Noughts.f kj3 4).bind fun t130 => ((vinculumref03_Bytes.f kj3 a0_3 2).bind fun t131 => (if t130.size + t131.size ≤ 9223372036854775807 then ((vinculumref03_Bytes.f kj3 a0_4 2).bind fun t132 => (if (t130 ++ t131).size + t132.size ≤ 9223372036854775807 then ((vinculumref03_Noughts.f kj3 26).bind fun t133 => (if ((t130 ++ t131) ++ t132).size + t133.size ≤ 9223372036854775807 then ((vinculumref03_Bytes.f kj3 a0_2 2).bind fun t134 => (if (((t130 ++ t131) ++ t132) ++ t133).size + t134.size ≤ 9223372036854775807 then ((vinculumref03_Noughts.f kj3 4).bind fun t135 => ((vinculumref03_Bytes.f kj3 a0_1 2).bind fun t136 => (if t135.size + t136.size ≤ 9223372036854775807 then (some ((((((t123 ++ t124) ++ t125) ++ t126) ++ t127) ++ t128) ++ t129, t135 ++ t136, (((t130 ++ t131) ++ t132) ++ t133) ++ t134, 0)) else (none)))) else (none))) else (none))) else (none))) else (none)))) else (none)) = some (r1, r2, r3, r4) := H
                  have A21 := Aside0.mk A210
                  clear A210
                  by_cases c22 : (((((t123 ++ t124) ++ t125) ++ t126) ++ t127) ++ t128).size + t129.size ≤ 9223372036854775807
                  · rw [if_pos c22] at H
                    have c22b0 := eq_true c22
                    have c22b1 : decide ((((((t123 ++ t124) ++ t125) ++ t126) ++ t127) ++ t128).size + t129.size ≤ 9223372036854775807) = true := decide_eq_true c22
                    try have c22b2 : (9223372036854775807 < (((((t123 ++ t124) ++ t125) ++ t126) ++ t127) ++ t128).size + t129.size) = False := eq_false (Nat.not_lt.2 c22)
                    try (have c22b3 := c22; simp only [ByteArray.size_append] at c22b3; replace c22b3 := eq_true c22b3)
                    try (have c22b4 := c22; simp only [ByteArray.size_append] at c22b4; replace c22b4 := eq_false (Nat.not_lt.2 c22b4))
                    replace H := Option.bind_eq_some_iff.mp H
                    obtain ⟨t130, A230, H⟩ := H
                    replace H : ((vinculumref03_Bytes.f kj3 a0_3 2).bind fun t131 => (if t130.size + t131.size ≤ 9223372036854775807 then ((vinculumref03_Bytes.f kj3 a0_4 2).bind fun t132 => (if (t130 ++ t131).size + t132.size ≤ 9223372036854775807 then ((vinculumref03_Noughts.f kj3 26).bind fun t133 => (if ((t130 ++ t131) ++ t132).size + t133.size ≤ 9223372036854775807 then ((vinculumref03_Bytes.f kj3 a0_2 2).bind fun t134 => (if (((t130 ++ t131) ++ t132) ++ t133).size + t134.size ≤ 9223372036854775807 then ((vinculumref03_Noughts.f kj3 4).bind fun t135 => ((vinculumref03_Bytes.f kj3 a0_1 2).bind fun t136 => (if t135.size + t136.size ≤ 9223372036854775807 then (some ((((((t123 ++ t124) ++ t125) ++ t126) ++ t127) ++ t128) ++ t129, t135 ++ t136, (((t130 ++ t131) ++ t132) ++ t133) ++ t134, 0)) else (none)))) else (none))) else (none))) else (none))) else (none))) = some (r1, r2, r3, r4) := H
                    have A23 := Aside0.mk A230
                    clear A230
                    replace H := Option.bind_eq_some_iff.mp H
                    obtain ⟨t131, A240, H⟩ := H
                    replace H : (if t130.size + t131.size ≤ 9223372036854775807 then ((vinculumref03_Bytes.f kj3 a0_4 2).bind fun t132 => (if (t130 ++ t131).size + t132.size ≤ 9223372036854775807 then ((vinculumref03_Noughts.f kj3 26).bind fun t133 => (if ((t130 ++ t131) ++ t132).size + t133.size ≤ 9223372036854775807 then ((vinculumref03_Bytes.f kj3 a0_2 2).bind fun t134 => (if (((t130 ++ t131) ++ t132) ++ t133).size + t134.size ≤ 9223372036854775807 then ((vinculumref03_Noughts.f kj3 4).bind fun t135 => ((vinculumref03_Bytes.f kj3 a0_1 2).bind fun t136 => (if t135.size + t136.size ≤ 9223372036854775807 then (some ((((((t123 ++ t124) ++ t125) ++ t126) ++ t127) ++ t128) ++ t129, t135 ++ t136, (((t130 ++ t131) ++ t132) ++ t133) ++ t134, 0)) else (none)))) else (none))) else (none))) else (none))) else (none)) = some (r1, r2, r3, r4) := H
                    have A24 := Aside0.mk A240
                    clear A240
                    by_cases c25 : t130.size + t131.size ≤ 9223372036854775807
                    · rw [if_pos c25] at H
                      have c25b0 := eq_true c25
                      have c25b1 : decide (t130.size + t131.size ≤ 9223372036854775807) = true := decide_eq_true c25
                      try have c25b2 : (9223372036854775807 < t130.size + t131.size) = False := eq_false (Nat.not_lt.2 c25)
                      replace H := Option.bind_eq_some_iff.mp H
                      obtain ⟨t132, A260, H⟩ := H
                      replace H : (if (t130 ++ t131).size + t132.size ≤ 9223372036854775807 then ((vinculumref03_Noughts.f kj3 26).bind fun t133 => (if ((t130 ++ t131) ++ t132).size + t133.size ≤ 9223372036854775807 then ((vinculumref03_Bytes.f kj3 a0_2 2).bind fun t134 => (if (((t130 ++ t131) ++ t132) ++ t133).size + t134.size ≤ 9223372036854775807 then ((vinculumref03_Noughts.f kj3 4).bind fun t135 => ((vinculumref03_Bytes.f kj3 a0_1 2).bind fun t136 => (if t135.size + t136.size ≤ 9223372036854775807 then (some ((((((t123 ++ t124) ++ t125) ++ t126) ++ t127) ++ t128) ++ t129, t135 ++ t136, (((t130 ++ t131) ++ t132) ++ t133) ++ t134, 0)) else (none)))) else (none))) else (none))) else (none)) = some (r1, r2, r3, r4) := H
                      have A26 := Aside0.mk A260
                      clear A260
                      by_cases c27 : (t130 ++ t131).size + t132.size ≤ 9223372036854775807
                      · rw [if_pos c27] at H
                        have c27b0 := eq_true c27
                        have c27b1 : decide ((t130 ++ t131).size + t132.size ≤ 9223372036854775807) = true := decide_eq_true c27
                        try have c27b2 : (9223372036854775807 < (t130 ++ t131).size + t132.size) = False := eq_false (Nat.not_lt.2 c27)
                        try (have c27b3 := c27; simp only [ByteArray.size_append] at c27b3; replace c27b3 := eq_true c27b3)
                        try (have c27b4 := c27; simp only [ByteArray.size_append] at c27b4; replace c27b4 := eq_false (Nat.not_lt.2 c27b4))
                        replace H := Option.bind_eq_some_iff.mp H
                        obtain ⟨t133, A280, H⟩ := H
                        replace H : (if ((t130 ++ t131) ++ t132).size + t133.size ≤ 9223372036854775807 then ((vinculumref03_Bytes.f kj3 a0_2 2).bind fun t134 => (if (((t130 ++ t131) ++ t132) ++ t133).size + t134.size ≤ 9223372036854775807 then ((vinculumref03_Noughts.f kj3 4).bind fun t135 => ((vinculumref03_Bytes.f kj3 a0_1 2).bind fun t136 => (if t135.size + t136.size ≤ 9223372036854775807 then (some ((((((t123 ++ t124) ++ t125) ++ t126) ++ t127) ++ t128) ++ t129, t135 ++ t136, (((t130 ++ t131) ++ t132) ++ t133) ++ t134, 0)) else (none)))) else (none))) else (none)) = some (r1, r2, r3, r4) := H
                        have A28 := Aside0.mk A280
                        clear A280
                        by_cases c29 : ((t130 ++ t131) ++ t132).size + t133.size ≤ 9223372036854775807
                        · rw [if_pos c29] at H
                          have c29b0 := eq_true c29
                          have c29b1 : decide (((t130 ++ t131) ++ t132).size + t133.size ≤ 9223372036854775807) = true := decide_eq_true c29
                          try have c29b2 : (9223372036854775807 < ((t130 ++ t131) ++ t132).size + t133.size) = False := eq_false (Nat.not_lt.2 c29)
                          try (have c29b3 := c29; simp only [ByteArray.size_append] at c29b3; replace c29b3 := eq_true c29b3)
                          try (have c29b4 := c29; simp only [ByteArray.size_append] at c29b4; replace c29b4 := eq_false (Nat.not_lt.2 c29b4))
                          replace H := Option.bind_eq_some_iff.mp H
                          obtain ⟨t134, A300, H⟩ := H
                          replace H : (if (((t130 ++ t131) ++ t132) ++ t133).size + t134.size ≤ 9223372036854775807 then ((vinculumref03_Noughts.f kj3 4).bind fun t135 => ((vinculumref03_Bytes.f kj3 a0_1 2).bind fun t136 => (if t135.size + t136.size ≤ 9223372036854775807 then (some ((((((t123 ++ t124) ++ t125) ++ t126) ++ t127) ++ t128) ++ t129, t135 ++ t136, (((t130 ++ t131) ++ t132) ++ t133) ++ t134, 0)) else (none)))) else (none)) = some (r1, r2, r3, r4) := H
                          have A30 := Aside0.mk A300
                          clear A300
                          by_cases c31 : (((t130 ++ t131) ++ t132) ++ t133).size + t134.size ≤ 9223372036854775807
                          · rw [if_pos c31] at H
                            have c31b0 := eq_true c31
                            have c31b1 : decide ((((t130 ++ t131) ++ t132) ++ t133).size + t134.size ≤ 9223372036854775807) = true := decide_eq_true c31
                            try have c31b2 : (9223372036854775807 < (((t130 ++ t131) ++ t132) ++ t133).size + t134.size) = False := eq_false (Nat.not_lt.2 c31)
                            try (have c31b3 := c31; simp only [ByteArray.size_append] at c31b3; replace c31b3 := eq_true c31b3)
                            try (have c31b4 := c31; simp only [ByteArray.size_append] at c31b4; replace c31b4 := eq_false (Nat.not_lt.2 c31b4))
                            replace H := Option.bind_eq_some_iff.mp H
                            obtain ⟨t135, A320, H⟩ := H
                            replace H : ((vinculumref03_Bytes.f kj3 a0_1 2).bind fun t136 => (if t135.size + t136.size ≤ 9223372036854775807 then (some ((((((t123 ++ t124) ++ t125) ++ t126) ++ t127) ++ t128) ++ t129, t135 ++ t136, (((t130 ++ t131) ++ t132) ++ t133) ++ t134, 0)) else (none))) = some (r1, r2, r3, r4) := H
                            have A32 := Aside0.mk A320
                            clear A320
                            replace H := Option.bind_eq_some_iff.mp H
                            obtain ⟨t136, A330, H⟩ := H
                            replace H : (if t135.size + t136.size ≤ 9223372036854775807 then (some ((((((t123 ++ t124) ++ t125) ++ t126) ++ t127) ++ t128) ++ t129, t135 ++ t136, (((t130 ++ t131) ++ t132) ++ t133) ++ t134, 0)) else (none)) = some (r1, r2, r3, r4) := H
                            have A33 := Aside0.mk A330
                            clear A330
                            by_cases c34 : t135.size + t136.size ≤ 9223372036854775807
                            · rw [if_pos c34] at H
                              have c34b0 := eq_true c34
                              have c34b1 : decide (t135.size + t136.size ≤ 9223372036854775807) = true := decide_eq_true c34
                              try have c34b2 : (9223372036854775807 < t135.size + t136.size) = False := eq_false (Nat.not_lt.2 c34)
                              simp only [Option.some.injEq, Prod.mk.injEq] at H
                              obtain ⟨rfl, rfl, rfl, rfl⟩ := H
                              try go_wp2
                              have n0_ := Aside0.mk (blk_drew BK121.out)
                              have n1_ := Aside0.mk (below_drew1 HB.out)
                              clear BK121
                              clear HB
                              have BK121 := n0_
                              have HB := n1_
                              clear n0_ n1_
                              refine start_ (n := 17) (S := fun w' => w'.cell? ⟨gb121, 0, none⟩ = some (.int .i64 a0_0) ∧ w'.cell? ⟨gb121, 1, none⟩ = some (.int .i64 a0_1) ∧ w'.cell? ⟨gb121, 2, none⟩ = some (.int .i64 a0_2) ∧ w'.cell? ⟨gb121, 3, none⟩ = some (.int .i64 a0_3) ∧ w'.cell? ⟨gb121, 4, none⟩ = some (.int .i64 a0_4) ∧ w'.cell? ⟨gb121, 5, none⟩ = some (.bool a0_5)) (ds := []) #[false, false, false, false, false, false, false, false, false, false, false, false, false, false, false, false, false] (by kernel_rfl) rfl rfl ⟨(blk_cell BK121.out 0).trans rfl, (blk_cell BK121.out 1).trans rfl, (blk_cell BK121.out 2).trans rfl, (blk_cell BK121.out 3).trans rfl, (blk_cell BK121.out 4).trans rfl, (blk_cell BK121.out 5).trans rfl⟩ (fun hHeld => ?_); refine with_tabW vinculumref05_Put.tab6 vinculumref05_Put.bits6 (fun HT_ HW_ => ?_)
                              generalize wc.drew = w35 at BK121 HB hHeld ⊢
                              refine pure_ (i := 5) (N := some 19) (v := ?_) (a' := ?_) #[false, false, false, false, false, true, false, false, false, false, false, false, false, false, false, false, false] rfl rfl (any_of HT_.out (by kernel_rfl)) (fun _ _ _ h => h) (Or.inl ⟨by rfl, ?_⟩) ?_ ?_
                              rotate_left
                              · intro w'
                                go_simp
                                with_reducible rfl
                              rotate_left
                              · simp only [Act.put, List.setIfInBounds_toArray, List.set_cons_zero, List.set_cons_succ, i64_w, i32_w]
                                rfl
                              refine pure_ (i := 11) (N := some 25) (v := ?_) (a' := ?_) #[false, false, false, false, false, true, false, false, false, false, false, true, false, false, false, false, false] rfl rfl (any_of HT_.out (by kernel_rfl)) (fun _ _ _ h => h) (Or.inl ⟨by rfl, ?_⟩) ?_ ?_
                              rotate_left
                              · intro w'
                                go_simp
                                with_reducible rfl
                              rotate_left
                              · simp only [Act.put, List.setIfInBounds_toArray, List.set_cons_zero, List.set_cons_succ, i64_w, i32_w]
                                rfl
                              refine take_ (i := 6) (N := some 20) (v := ?_) (a' := ?_) #[false, false, false, false, false, true, true, false, false, false, false, true, false, false, false, false, false] rfl rfl (take_ofW HT_.out HW_.out (by kernel_rfl)) (fun _ _ _ h => h) (Or.inl ⟨by rfl, ?_⟩) hHeld ?_ ?_
                              rotate_left
                              · rintro w' ⟨s0, s1, s2, s3, s4, s5⟩
                                go_simp
                                with_reducible rfl
                              rotate_left
                              · simp only [Act.put, List.setIfInBounds_toArray, List.set_cons_zero, List.set_cons_succ, i64_w, i32_w]
                                rfl
                              refine one_ (i := 0) (N := some 14) #[true, false, false, false, false, true, true, false, false, false, false, true, false, false, false, false, false] rfl rfl (one_of HT_.out (by kernel_rfl)) (by decide) (fun K hK => ?_)
                              refine goes_ Try.func21 (by kernel_rfl) rfl #[.int .i64 12] (by rfl) rfl rfl (by (try simp only [List.map_toArray, List.map_cons, List.map_nil]); first | done | rfl | (simp only [List.length_drop, List.length_take]; rfl)) ?_
                              with_reducible refine (vinculumref03_Noughts.calls kj3 12 t123 _ A10.out).mono ?_
                              rintro e w' ⟨rfl, ⟨nd, rfl⟩⟩
                              refine ⟨_, rfl, ?_⟩
                              refine hK.out _ _ ⟨(blk_cell BK121.out 0).trans rfl, (blk_cell BK121.out 1).trans rfl, (blk_cell BK121.out 2).trans rfl, (blk_cell BK121.out 3).trans rfl, (blk_cell BK121.out 4).trans rfl, (blk_cell BK121.out 5).trans rfl⟩ (fun hHeld => ?_)
                              clear hK K
                              refine norm_ (a' := ?_) ?_ ?_
                              rotate_left
                              · show Act.put _ (some 14) _ = _
                                simp only [Act.put, List.setIfInBounds_toArray, List.set_cons_zero, List.set_cons_succ, i64_w, i32_w]
                                rfl
                              refine one_ (i := 1) (N := some 15) #[true, true, false, false, false, true, true, false, false, false, false, true, false, false, false, false, false] rfl rfl (one_of HT_.out (by kernel_rfl)) (by decide) (fun K hK => ?_)
                              refine goes_ Try.func22 (by kernel_rfl) rfl #[.int .i64 1594834165, .int .i64 4] (by rfl) rfl rfl (by (try simp only [List.map_toArray, List.map_cons, List.map_nil]); first | done | rfl | (simp only [List.length_drop, List.length_take]; rfl)) ?_
                              with_reducible refine (vinculumref03_Bytes.calls kj3 1594834165 4 t124 _ A11.out).mono ?_
                              rintro e w36 ⟨rfl, hb⟩
                              refine ⟨_, rfl, ?_⟩
                              have n0_ := Aside0.mk (blk_below (g := gb121) (o := .cells #[.int .i64 a0_0, .int .i64 a0_1, .int .i64 a0_2, .int .i64 a0_3, .int .i64 a0_4, .bool a0_5] 23 (0, 0)) (by (with_reducible repeat (first | refine blk_drewN ?_ _ | refine blk_drew ?_ | refine blk_alloc ?_ _)); exact BK121.out) hb)
                              have n1_ := Aside0.mk (below_step (by repeat (first | (with_reducible first | exact HB.out | apply below_alloc | apply pw_below_drewN | apply below_drew1 | refine below_set ?_ GE121.out) | exact HB.out)) hb)
                              clear BK121
                              clear HB
                              have BK121 := n0_
                              have HB := n1_
                              clear n0_ n1_
                              (try clear hb)
                              (try clear hb2)
                              (try clear hk)
                              (try clear hi)
                              refine hK.out _ _ ⟨(blk_cell BK121.out 0).trans rfl, (blk_cell BK121.out 1).trans rfl, (blk_cell BK121.out 2).trans rfl, (blk_cell BK121.out 3).trans rfl, (blk_cell BK121.out 4).trans rfl, (blk_cell BK121.out 5).trans rfl⟩ (fun hHeld => ?_)
                              clear hK K
                              refine norm_ (a' := ?_) ?_ ?_
                              rotate_left
                              · show Act.put _ (some 15) _ = _
                                simp only [Act.put, List.setIfInBounds_toArray, List.set_cons_zero, List.set_cons_succ, i64_w, i32_w]
                                rfl
                              refine pure_ (i := 2) (N := some 16) (v := ?_) (a' := ?_) #[true, true, true, false, false, true, true, false, false, false, false, true, false, false, false, false, false] rfl rfl (any_of HT_.out (by kernel_rfl)) (fun _ _ _ h => h) (Or.inl ⟨by rfl, ?_⟩) ?_ ?_
                              rotate_left
                              · intro w'
                                go_simp
                                with_reducible rfl
                              rotate_left
                              · simp only [Act.put, List.setIfInBounds_toArray, List.set_cons_zero, List.set_cons_succ, i64_w, i32_w]
                                rfl
                              refine one_ (i := 3) (N := some 17) #[true, true, true, true, false, true, true, false, false, false, false, true, false, false, false, false, false] rfl rfl (one_of HT_.out (by kernel_rfl)) (by decide) (fun K hK => ?_)
                              refine goes_ Try.func21 (by kernel_rfl) rfl #[.int .i64 2] (by rfl) rfl rfl (by (try simp only [List.map_toArray, List.map_cons, List.map_nil]); first | done | rfl | (simp only [List.length_drop, List.length_take]; rfl)) ?_
                              with_reducible refine (vinculumref03_Noughts.calls kj3 2 t125 _ A13.out).mono ?_
                              rintro e w' ⟨rfl, ⟨nd, rfl⟩⟩
                              refine ⟨_, rfl, ?_⟩
                              refine hK.out _ _ ⟨(blk_cell BK121.out 0).trans rfl, (blk_cell BK121.out 1).trans rfl, (blk_cell BK121.out 2).trans rfl, (blk_cell BK121.out 3).trans rfl, (blk_cell BK121.out 4).trans rfl, (blk_cell BK121.out 5).trans rfl⟩ (fun hHeld => ?_)
                              clear hK K
                              refine norm_ (a' := ?_) ?_ ?_
                              rotate_left
                              · show Act.put _ (some 17) _ = _
                                simp only [Act.put, List.setIfInBounds_toArray, List.set_cons_zero, List.set_cons_succ, i64_w, i32_w]
                                rfl
                              refine pure_ (i := 4) (N := some 18) (v := ?_) (a' := ?_) #[true, true, true, true, true, true, true, false, false, false, false, true, false, false, false, false, false] rfl rfl (any_of HT_.out (by kernel_rfl)) (fun _ _ _ h => h) (Or.inl ⟨by rfl, ?_⟩) ?_ ?_
                              rotate_left
                              · intro w'
                                go_simp
                                with_reducible rfl
                              rotate_left
                              · simp only [Act.put, List.setIfInBounds_toArray, List.set_cons_zero, List.set_cons_succ, i64_w, i32_w]
                                rfl
                              refine one_ (i := 7) (N := some 21) #[true, true, true, true, true, true, true, true, false, false, false, true, false, false, false, false, false] rfl rfl (one_of HT_.out (by kernel_rfl)) (by decide) (fun K hK => ?_)
                              refine goes_ Try.func22 (by kernel_rfl) rfl #[.int .i64 a0_0, .int .i64 2] (by rfl) rfl rfl (by (try simp only [List.map_toArray, List.map_cons, List.map_nil]); first | done | rfl | (simp only [List.length_drop, List.length_take]; rfl)) ?_
                              with_reducible refine (vinculumref03_Bytes.calls kj3 a0_0 2 t126 _ A15.out).mono ?_
                              rintro e w37 ⟨rfl, hb⟩
                              refine ⟨_, rfl, ?_⟩
                              have n0_ := Aside0.mk (blk_below (g := gb121) (o := .cells #[.int .i64 a0_0, .int .i64 a0_1, .int .i64 a0_2, .int .i64 a0_3, .int .i64 a0_4, .bool a0_5] 23 (0, 0)) (by (with_reducible repeat (first | refine blk_drewN ?_ _ | refine blk_drew ?_ | refine blk_alloc ?_ _)); exact BK121.out) hb)
                              have n1_ := Aside0.mk (below_step (by repeat (first | (with_reducible first | exact HB.out | apply below_alloc | apply pw_below_drewN | apply below_drew1 | refine below_set ?_ GE121.out) | exact HB.out)) hb)
                              clear BK121
                              clear HB
                              have BK121 := n0_
                              have HB := n1_
                              clear n0_ n1_
                              (try clear hb)
                              (try clear hb2)
                              (try clear hk)
                              (try clear hi)
                              refine hK.out _ _ ⟨(blk_cell BK121.out 0).trans rfl, (blk_cell BK121.out 1).trans rfl, (blk_cell BK121.out 2).trans rfl, (blk_cell BK121.out 3).trans rfl, (blk_cell BK121.out 4).trans rfl, (blk_cell BK121.out 5).trans rfl⟩ (fun hHeld => ?_)
                              clear hK K
                              refine norm_ (a' := ?_) ?_ ?_
                              rotate_left
                              · show Act.put _ (some 21) _ = _
                                simp only [Act.put, List.setIfInBounds_toArray, List.set_cons_zero, List.set_cons_succ, i64_w, i32_w]
                                rfl
                              refine pure_ (i := 8) (N := some 22) (v := ?_) (a' := ?_) #[true, true, true, true, true, true, true, true, true, false, false, true, false, false, false, false, false] rfl rfl (any_of HT_.out (by kernel_rfl)) (fun _ _ _ h => h) (Or.inl ⟨by rfl, ?_⟩) ?_ ?_
                              rotate_left
                              · intro w'
                                go_simp
                                with_reducible rfl
                              rotate_left
                              · simp only [Act.put, List.setIfInBounds_toArray, List.set_cons_zero, List.set_cons_succ, i64_w, i32_w]
                                rfl
                              refine one_ (i := 9) (N := some 23) #[true, true, true, true, true, true, true, true, true, true, false, true, false, false, false, false, false] rfl rfl (one_of HT_.out (by kernel_rfl)) (by decide) (fun K hK => ?_)
                              refine goes_ Try.func21 (by kernel_rfl) rfl #[.int .i64 30] (by rfl) rfl rfl (by (try simp only [List.map_toArray, List.map_cons, List.map_nil]); first | done | rfl | (simp only [List.length_drop, List.length_take]; rfl)) ?_
                              with_reducible refine (vinculumref03_Noughts.calls kj3 30 t127 _ A17.out).mono ?_
                              rintro e w' ⟨rfl, ⟨nd, rfl⟩⟩
                              refine ⟨_, rfl, ?_⟩
                              refine hK.out _ _ ⟨(blk_cell BK121.out 0).trans rfl, (blk_cell BK121.out 1).trans rfl, (blk_cell BK121.out 2).trans rfl, (blk_cell BK121.out 3).trans rfl, (blk_cell BK121.out 4).trans rfl, (blk_cell BK121.out 5).trans rfl⟩ (fun hHeld => ?_)
                              clear hK K
                              refine norm_ (a' := ?_) ?_ ?_
                              rotate_left
                              · show Act.put _ (some 23) _ = _
                                simp only [Act.put, List.setIfInBounds_toArray, List.set_cons_zero, List.set_cons_succ, i64_w, i32_w]
                                rfl
                              refine pure_ (i := 10) (N := some 24) (v := ?_) (a' := ?_) #[true, true, true, true, true, true, true, true, true, true, true, true, false, false, false, false, false] rfl rfl (any_of HT_.out (by kernel_rfl)) (fun _ _ _ h => h) (Or.inl ⟨by rfl, ?_⟩) ?_ ?_
                              rotate_left
                              · intro w'
                                go_simp
                                with_reducible rfl
                              rotate_left
                              · simp only [Act.put, List.setIfInBounds_toArray, List.set_cons_zero, List.set_cons_succ, i64_w, i32_w]
                                rfl
                              refine one_ (i := 12) (N := some 26) #[true, true, true, true, true, true, true, true, true, true, true, true, true, false, false, false, false] rfl rfl (one_of HT_.out (by kernel_rfl)) (by decide) (fun K hK => ?_)
                              refine goes_ Try.func22 (by kernel_rfl) rfl #[.int .i64 x6_3, .int .i64 2] (by rfl) rfl rfl (by (try simp only [List.map_toArray, List.map_cons, List.map_nil]); first | done | rfl | (simp only [List.length_drop, List.length_take]; rfl)) ?_
                              with_reducible refine (vinculumref03_Bytes.calls kj3 x6_3 2 t128 _ A19.out).mono ?_
                              rintro e w38 ⟨rfl, hb⟩
                              refine ⟨_, rfl, ?_⟩
                              have n0_ := Aside0.mk (blk_below (g := gb121) (o := .cells #[.int .i64 a0_0, .int .i64 a0_1, .int .i64 a0_2, .int .i64 a0_3, .int .i64 a0_4, .bool a0_5] 23 (0, 0)) (by (with_reducible repeat (first | refine blk_drewN ?_ _ | refine blk_drew ?_ | refine blk_alloc ?_ _)); exact BK121.out) hb)
                              have n1_ := Aside0.mk (below_step (by repeat (first | (with_reducible first | exact HB.out | apply below_alloc | apply pw_below_drewN | apply below_drew1 | refine below_set ?_ GE121.out) | exact HB.out)) hb)
                              clear BK121
                              clear HB
                              have BK121 := n0_
                              have HB := n1_
                              clear n0_ n1_
                              (try clear hb)
                              (try clear hb2)
                              (try clear hk)
                              (try clear hi)
                              refine hK.out _ _ ⟨(blk_cell BK121.out 0).trans rfl, (blk_cell BK121.out 1).trans rfl, (blk_cell BK121.out 2).trans rfl, (blk_cell BK121.out 3).trans rfl, (blk_cell BK121.out 4).trans rfl, (blk_cell BK121.out 5).trans rfl⟩ (fun hHeld => ?_)
                              clear hK K
                              refine norm_ (a' := ?_) ?_ ?_
                              rotate_left
                              · show Act.put _ (some 26) _ = _
                                simp only [Act.put, List.setIfInBounds_toArray, List.set_cons_zero, List.set_cons_succ, i64_w, i32_w]
                                rfl
                              refine pure_ (i := 13) (N := some 27) (v := ?_) (a' := ?_) #[true, true, true, true, true, true, true, true, true, true, true, true, true, true, false, false, false] rfl rfl (any_of HT_.out (by kernel_rfl)) (fun _ _ _ h => h) (Or.inl ⟨by rfl, ?_⟩) ?_ ?_
                              rotate_left
                              · intro w'
                                go_simp
                                with_reducible rfl
                              rotate_left
                              · simp only [Act.put, List.setIfInBounds_toArray, List.set_cons_zero, List.set_cons_succ, i64_w, i32_w]
                                rfl
                              refine one_ (i := 14) (N := some 28) #[true, true, true, true, true, true, true, true, true, true, true, true, true, true, true, false, false] rfl rfl (one_of HT_.out (by kernel_rfl)) (by decide) (fun K hK => ?_)
                              refine goes_ Try.func21 (by kernel_rfl) rfl #[.int .i64 2] (by rfl) rfl rfl (by (try simp only [List.map_toArray, List.map_cons, List.map_nil]); first | done | rfl | (simp only [List.length_drop, List.length_take]; rfl)) ?_
                              with_reducible refine (vinculumref03_Noughts.calls kj3 2 t129 _ A21.out).mono ?_
                              rintro e w' ⟨rfl, ⟨nd, rfl⟩⟩
                              refine ⟨_, rfl, ?_⟩
                              refine hK.out _ _ ⟨(blk_cell BK121.out 0).trans rfl, (blk_cell BK121.out 1).trans rfl, (blk_cell BK121.out 2).trans rfl, (blk_cell BK121.out 3).trans rfl, (blk_cell BK121.out 4).trans rfl, (blk_cell BK121.out 5).trans rfl⟩ (fun hHeld => ?_)
                              clear hK K
                              refine norm_ (a' := ?_) ?_ ?_
                              rotate_left
                              · show Act.put _ (some 28) _ = _
                                simp only [Act.put, List.setIfInBounds_toArray, List.set_cons_zero, List.set_cons_succ, i64_w, i32_w]
                                rfl
                              refine pure_ (i := 15) (N := some 29) (v := ?_) (a' := ?_) #[true, true, true, true, true, true, true, true, true, true, true, true, true, true, true, true, false] rfl rfl (any_of HT_.out (by kernel_rfl)) (fun _ _ _ h => h) (Or.inl ⟨by rfl, ?_⟩) ?_ ?_
                              rotate_left
                              · intro w'
                                go_simp
                                with_reducible rfl
                              rotate_left
                              · simp only [Act.put, List.setIfInBounds_toArray, List.set_cons_zero, List.set_cons_succ, i64_w, i32_w]
                                rfl
                              refine pure_ (i := 16) (N := some 7) (v := ?_) (a' := ?_) #[true, true, true, true, true, true, true, true, true, true, true, true, true, true, true, true, true] rfl rfl (any_of HT_.out (by kernel_rfl)) (fun _ _ _ h => h) (Or.inl ⟨by rfl, ?_⟩) ?_ ?_
                              rotate_left
                              · intro w'
                                go_simp
                                with_reducible rfl
                              rotate_left
                              · simp only [Act.put, List.setIfInBounds_toArray, List.set_cons_zero, List.set_cons_succ, i64_w, i32_w]
                                rfl
                              refine done_ (done_of HT_.out (by kernel_rfl)) ?_
                              try go_wp2
                              (try (rw [drewN_self w38]; generalize hq_ : World.drewN w38 _ = w38; have n0_ : Aside0 (w38.heap[gb121]? = some (.cells #[.int .i64 a0_0, .int .i64 a0_1, .int .i64 a0_2, .int .i64 a0_3, .int .i64 a0_4, .bool a0_5] 23 (0, 0))) := ⟨by rw [← hq_]; exact (by (with_reducible repeat (first | refine blk_drewN ?_ _ | refine blk_drew ?_ | refine blk_alloc ?_ _)); exact BK121.out)⟩; have n1_ : Aside0 (Below w.heap.size w w38) := ⟨by rw [← hq_]; exact (by repeat (first | (with_reducible first | exact HB.out | apply below_alloc | apply pw_below_drewN | apply below_drew1 | refine below_set ?_ GE121.out) | exact HB.out))⟩; clear BK121 HB hq_; have BK121 := n0_; have HB := n1_; clear n0_ n1_))
                              have n0_ := Aside0.mk (blk_drew BK121.out)
                              have n1_ := Aside0.mk (below_drew1 HB.out)
                              clear BK121
                              clear HB
                              have BK121 := n0_
                              have HB := n1_
                              clear n0_ n1_
                              refine start_ (n := 16) (S := fun w' => w'.cell? ⟨gb121, 0, none⟩ = some (.int .i64 a0_0) ∧ w'.cell? ⟨gb121, 1, none⟩ = some (.int .i64 a0_1) ∧ w'.cell? ⟨gb121, 2, none⟩ = some (.int .i64 a0_2) ∧ w'.cell? ⟨gb121, 3, none⟩ = some (.int .i64 a0_3) ∧ w'.cell? ⟨gb121, 4, none⟩ = some (.int .i64 a0_4) ∧ w'.cell? ⟨gb121, 5, none⟩ = some (.bool a0_5)) (ds := []) #[false, false, false, false, false, false, false, false, false, false, false, false, false, false, false, false] (by kernel_rfl) rfl rfl ⟨(blk_cell BK121.out 0).trans rfl, (blk_cell BK121.out 1).trans rfl, (blk_cell BK121.out 2).trans rfl, (blk_cell BK121.out 3).trans rfl, (blk_cell BK121.out 4).trans rfl, (blk_cell BK121.out 5).trans rfl⟩ (fun hHeld => ?_); refine with_tabW vinculumref05_Put.tab7 vinculumref05_Put.bits7 (fun HT_ HW_ => ?_)
                              generalize w38.drew = w39 at BK121 HB hHeld ⊢
                              refine pure_ (i := 1) (N := some 31) (v := ?_) (a' := ?_) #[false, true, false, false, false, false, false, false, false, false, false, false, false, false, false, false] rfl rfl (any_of HT_.out (by kernel_rfl)) (fun _ _ _ h => h) (Or.inl ⟨by rfl, ?_⟩) ?_ ?_
                              rotate_left
                              · intro w'
                                go_simp
                                with_reducible rfl
                              rotate_left
                              · simp only [Act.put, List.setIfInBounds_toArray, List.set_cons_zero, List.set_cons_succ, i64_w, i32_w]
                                rfl
                              refine pure_ (i := 5) (N := some 35) (v := ?_) (a' := ?_) #[false, true, false, false, false, true, false, false, false, false, false, false, false, false, false, false] rfl rfl (any_of HT_.out (by kernel_rfl)) (fun _ _ _ h => h) (Or.inl ⟨by rfl, ?_⟩) ?_ ?_
                              rotate_left
                              · intro w'
                                go_simp
                                with_reducible rfl
                              rotate_left
                              · simp only [Act.put, List.setIfInBounds_toArray, List.set_cons_zero, List.set_cons_succ, i64_w, i32_w]
                                rfl
                              refine pure_ (i := 11) (N := some 41) (v := ?_) (a' := ?_) #[false, true, false, false, false, true, false, false, false, false, false, true, false, false, false, false] rfl rfl (any_of HT_.out (by kernel_rfl)) (fun _ _ _ h => h) (Or.inl ⟨by rfl, ?_⟩) ?_ ?_
                              rotate_left
                              · intro w'
                                go_simp
                                with_reducible rfl
                              rotate_left
                              · simp only [Act.put, List.setIfInBounds_toArray, List.set_cons_zero, List.set_cons_succ, i64_w, i32_w]
                                rfl
                              refine take_ (i := 2) (N := some 32) (v := ?_) (a' := ?_) #[false, true, true, false, false, true, false, false, false, false, false, true, false, false, false, false] rfl rfl (take_ofW HT_.out HW_.out (by kernel_rfl)) (fun _ _ _ h => h) (Or.inl ⟨by rfl, ?_⟩) hHeld ?_ ?_
                              rotate_left
                              · rintro w' ⟨s0, s1, s2, s3, s4, s5⟩
                                go_simp
                                with_reducible rfl
                              rotate_left
                              · simp only [Act.put, List.setIfInBounds_toArray, List.set_cons_zero, List.set_cons_succ, i64_w, i32_w]
                                rfl
                              refine take_ (i := 6) (N := some 36) (v := ?_) (a' := ?_) #[false, true, true, false, false, true, true, false, false, false, false, true, false, false, false, false] rfl rfl (take_ofW HT_.out HW_.out (by kernel_rfl)) (fun _ _ _ h => h) (Or.inl ⟨by rfl, ?_⟩) hHeld ?_ ?_
                              rotate_left
                              · rintro w' ⟨s0, s1, s2, s3, s4, s5⟩
                                go_simp
                                with_reducible rfl
                              rotate_left
                              · simp only [Act.put, List.setIfInBounds_toArray, List.set_cons_zero, List.set_cons_succ, i64_w, i32_w]
                                rfl
                              refine take_ (i := 12) (N := some 42) (v := ?_) (a' := ?_) #[false, true, true, false, false, true, true, false, false, false, false, true, true, false, false, false] rfl rfl (take_ofW HT_.out HW_.out (by kernel_rfl)) (fun _ _ _ h => h) (Or.inl ⟨by rfl, ?_⟩) hHeld ?_ ?_
                              rotate_left
                              · rintro w' ⟨s0, s1, s2, s3, s4, s5⟩
                                go_simp
                                with_reducible rfl
                              rotate_left
                              · simp only [Act.put, List.setIfInBounds_toArray, List.set_cons_zero, List.set_cons_succ, i64_w, i32_w]
                                rfl
                              refine one_ (i := 0) (N := some 30) #[true, true, true, false, false, true, true, false, false, false, false, true, true, false, false, false] rfl rfl (one_of HT_.out (by kernel_rfl)) (by decide) (fun K hK => ?_)
                              refine goes_ Try.func21 (by kernel_rfl) rfl #[.int .i64 4] (by rfl) rfl rfl (by (try simp only [List.map_toArray, List.map_cons, List.map_nil]); first | done | rfl | (simp only [List.length_drop, List.length_take]; rfl)) ?_
                              with_reducible refine (vinculumref03_Noughts.calls kj3 4 t130 _ A23.out).mono ?_
                              rintro e w' ⟨rfl, ⟨nd, rfl⟩⟩
                              refine ⟨_, rfl, ?_⟩
                              refine hK.out _ _ ⟨(blk_cell BK121.out 0).trans rfl, (blk_cell BK121.out 1).trans rfl, (blk_cell BK121.out 2).trans rfl, (blk_cell BK121.out 3).trans rfl, (blk_cell BK121.out 4).trans rfl, (blk_cell BK121.out 5).trans rfl⟩ (fun hHeld => ?_)
                              clear hK K
                              refine norm_ (a' := ?_) ?_ ?_
                              rotate_left
                              · show Act.put _ (some 30) _ = _
                                simp only [Act.put, List.setIfInBounds_toArray, List.set_cons_zero, List.set_cons_succ, i64_w, i32_w]
                                rfl
                              refine one_ (i := 3) (N := some 33) #[true, true, true, true, false, true, true, false, false, false, false, true, true, false, false, false] rfl rfl (one_of HT_.out (by kernel_rfl)) (by decide) (fun K hK => ?_)
                              refine goes_ Try.func22 (by kernel_rfl) rfl #[.int .i64 a0_3, .int .i64 2] (by rfl) rfl rfl (by (try simp only [List.map_toArray, List.map_cons, List.map_nil]); first | done | rfl | (simp only [List.length_drop, List.length_take]; rfl)) ?_
                              with_reducible refine (vinculumref03_Bytes.calls kj3 a0_3 2 t131 _ A24.out).mono ?_
                              rintro e w40 ⟨rfl, hb⟩
                              refine ⟨_, rfl, ?_⟩
                              have n0_ := Aside0.mk (blk_below (g := gb121) (o := .cells #[.int .i64 a0_0, .int .i64 a0_1, .int .i64 a0_2, .int .i64 a0_3, .int .i64 a0_4, .bool a0_5] 23 (0, 0)) (by (with_reducible repeat (first | refine blk_drewN ?_ _ | refine blk_drew ?_ | refine blk_alloc ?_ _)); exact BK121.out) hb)
                              have n1_ := Aside0.mk (below_step (by repeat (first | (with_reducible first | exact HB.out | apply below_alloc | apply pw_below_drewN | apply below_drew1 | refine below_set ?_ GE121.out) | exact HB.out)) hb)
                              clear BK121
                              clear HB
                              have BK121 := n0_
                              have HB := n1_
                              clear n0_ n1_
                              (try clear hb)
                              (try clear hb2)
                              (try clear hk)
                              (try clear hi)
                              refine hK.out _ _ ⟨(blk_cell BK121.out 0).trans rfl, (blk_cell BK121.out 1).trans rfl, (blk_cell BK121.out 2).trans rfl, (blk_cell BK121.out 3).trans rfl, (blk_cell BK121.out 4).trans rfl, (blk_cell BK121.out 5).trans rfl⟩ (fun hHeld => ?_)
                              clear hK K
                              refine norm_ (a' := ?_) ?_ ?_
                              rotate_left
                              · show Act.put _ (some 33) _ = _
                                simp only [Act.put, List.setIfInBounds_toArray, List.set_cons_zero, List.set_cons_succ, i64_w, i32_w]
                                rfl
                              refine pure_ (i := 4) (N := some 34) (v := ?_) (a' := ?_) #[true, true, true, true, true, true, true, false, false, false, false, true, true, false, false, false] rfl rfl (any_of HT_.out (by kernel_rfl)) (fun _ _ _ h => h) (Or.inl ⟨by rfl, ?_⟩) ?_ ?_
                              rotate_left
                              · intro w'
                                go_simp
                                with_reducible rfl
                              rotate_left
                              · simp only [Act.put, List.setIfInBounds_toArray, List.set_cons_zero, List.set_cons_succ, i64_w, i32_w]
                                rfl
                              refine one_ (i := 7) (N := some 37) #[true, true, true, true, true, true, true, true, false, false, false, true, true, false, false, false] rfl rfl (one_of HT_.out (by kernel_rfl)) (by decide) (fun K hK => ?_)
                              refine goes_ Try.func22 (by kernel_rfl) rfl #[.int .i64 a0_4, .int .i64 2] (by rfl) rfl rfl (by (try simp only [List.map_toArray, List.map_cons, List.map_nil]); first | done | rfl | (simp only [List.length_drop, List.length_take]; rfl)) ?_
                              with_reducible refine (vinculumref03_Bytes.calls kj3 a0_4 2 t132 _ A26.out).mono ?_
                              rintro e w41 ⟨rfl, hb⟩
                              refine ⟨_, rfl, ?_⟩
                              have n0_ := Aside0.mk (blk_below (g := gb121) (o := .cells #[.int .i64 a0_0, .int .i64 a0_1, .int .i64 a0_2, .int .i64 a0_3, .int .i64 a0_4, .bool a0_5] 23 (0, 0)) (by (with_reducible repeat (first | refine blk_drewN ?_ _ | refine blk_drew ?_ | refine blk_alloc ?_ _)); exact BK121.out) hb)
                              have n1_ := Aside0.mk (below_step (by repeat (first | (with_reducible first | exact HB.out | apply below_alloc | apply pw_below_drewN | apply below_drew1 | refine below_set ?_ GE121.out) | exact HB.out)) hb)
                              clear BK121
                              clear HB
                              have BK121 := n0_
                              have HB := n1_
                              clear n0_ n1_
                              (try clear hb)
                              (try clear hb2)
                              (try clear hk)
                              (try clear hi)
                              refine hK.out _ _ ⟨(blk_cell BK121.out 0).trans rfl, (blk_cell BK121.out 1).trans rfl, (blk_cell BK121.out 2).trans rfl, (blk_cell BK121.out 3).trans rfl, (blk_cell BK121.out 4).trans rfl, (blk_cell BK121.out 5).trans rfl⟩ (fun hHeld => ?_)
                              clear hK K
                              refine norm_ (a' := ?_) ?_ ?_
                              rotate_left
                              · show Act.put _ (some 37) _ = _
                                simp only [Act.put, List.setIfInBounds_toArray, List.set_cons_zero, List.set_cons_succ, i64_w, i32_w]
                                rfl
                              refine pure_ (i := 8) (N := some 38) (v := ?_) (a' := ?_) #[true, true, true, true, true, true, true, true, true, false, false, true, true, false, false, false] rfl rfl (any_of HT_.out (by kernel_rfl)) (fun _ _ _ h => h) (Or.inl ⟨by rfl, ?_⟩) ?_ ?_
                              rotate_left
                              · intro w'
                                go_simp
                                with_reducible rfl
                              rotate_left
                              · simp only [Act.put, List.setIfInBounds_toArray, List.set_cons_zero, List.set_cons_succ, i64_w, i32_w]
                                rfl
                              refine one_ (i := 9) (N := some 39) #[true, true, true, true, true, true, true, true, true, true, false, true, true, false, false, false] rfl rfl (one_of HT_.out (by kernel_rfl)) (by decide) (fun K hK => ?_)
                              refine goes_ Try.func21 (by kernel_rfl) rfl #[.int .i64 26] (by rfl) rfl rfl (by (try simp only [List.map_toArray, List.map_cons, List.map_nil]); first | done | rfl | (simp only [List.length_drop, List.length_take]; rfl)) ?_
                              with_reducible refine (vinculumref03_Noughts.calls kj3 26 t133 _ A28.out).mono ?_
                              rintro e w' ⟨rfl, ⟨nd, rfl⟩⟩
                              refine ⟨_, rfl, ?_⟩
                              refine hK.out _ _ ⟨(blk_cell BK121.out 0).trans rfl, (blk_cell BK121.out 1).trans rfl, (blk_cell BK121.out 2).trans rfl, (blk_cell BK121.out 3).trans rfl, (blk_cell BK121.out 4).trans rfl, (blk_cell BK121.out 5).trans rfl⟩ (fun hHeld => ?_)
                              clear hK K
                              refine norm_ (a' := ?_) ?_ ?_
                              rotate_left
                              · show Act.put _ (some 39) _ = _
                                simp only [Act.put, List.setIfInBounds_toArray, List.set_cons_zero, List.set_cons_succ, i64_w, i32_w]
                                rfl
                              refine pure_ (i := 10) (N := some 40) (v := ?_) (a' := ?_) #[true, true, true, true, true, true, true, true, true, true, true, true, true, false, false, false] rfl rfl (any_of HT_.out (by kernel_rfl)) (fun _ _ _ h => h) (Or.inl ⟨by rfl, ?_⟩) ?_ ?_
                              rotate_left
                              · intro w'
                                go_simp
                                with_reducible rfl
                              rotate_left
                              · simp only [Act.put, List.setIfInBounds_toArray, List.set_cons_zero, List.set_cons_succ, i64_w, i32_w]
                                rfl
                              refine one_ (i := 13) (N := some 43) #[true, true, true, true, true, true, true, true, true, true, true, true, true, true, false, false] rfl rfl (one_of HT_.out (by kernel_rfl)) (by decide) (fun K hK => ?_)
                              refine goes_ Try.func22 (by kernel_rfl) rfl #[.int .i64 a0_2, .int .i64 2] (by rfl) rfl rfl (by (try simp only [List.map_toArray, List.map_cons, List.map_nil]); first | done | rfl | (simp only [List.length_drop, List.length_take]; rfl)) ?_
                              with_reducible refine (vinculumref03_Bytes.calls kj3 a0_2 2 t134 _ A30.out).mono ?_
                              rintro e w42 ⟨rfl, hb⟩
                              refine ⟨_, rfl, ?_⟩
                              have n0_ := Aside0.mk (blk_below (g := gb121) (o := .cells #[.int .i64 a0_0, .int .i64 a0_1, .int .i64 a0_2, .int .i64 a0_3, .int .i64 a0_4, .bool a0_5] 23 (0, 0)) (by (with_reducible repeat (first | refine blk_drewN ?_ _ | refine blk_drew ?_ | refine blk_alloc ?_ _)); exact BK121.out) hb)
                              have n1_ := Aside0.mk (below_step (by repeat (first | (with_reducible first | exact HB.out | apply below_alloc | apply pw_below_drewN | apply below_drew1 | refine below_set ?_ GE121.out) | exact HB.out)) hb)
                              clear BK121
                              clear HB
                              have BK121 := n0_
                              have HB := n1_
                              clear n0_ n1_
                              (try clear hb)
                              (try clear hb2)
                              (try clear hk)
                              (try clear hi)
                              refine hK.out _ _ ⟨(blk_cell BK121.out 0).trans rfl, (blk_cell BK121.out 1).trans rfl, (blk_cell BK121.out 2).trans rfl, (blk_cell BK121.out 3).trans rfl, (blk_cell BK121.out 4).trans rfl, (blk_cell BK121.out 5).trans rfl⟩ (fun hHeld => ?_)
                              clear hK K
                              refine norm_ (a' := ?_) ?_ ?_
                              rotate_left
                              · show Act.put _ (some 43) _ = _
                                simp only [Act.put, List.setIfInBounds_toArray, List.set_cons_zero, List.set_cons_succ, i64_w, i32_w]
                                rfl
                              refine pure_ (i := 14) (N := some 44) (v := ?_) (a' := ?_) #[true, true, true, true, true, true, true, true, true, true, true, true, true, true, true, false] rfl rfl (any_of HT_.out (by kernel_rfl)) (fun _ _ _ h => h) (Or.inl ⟨by rfl, ?_⟩) ?_ ?_
                              rotate_left
                              · intro w'
                                go_simp
                                with_reducible rfl
                              rotate_left
                              · simp only [Act.put, List.setIfInBounds_toArray, List.set_cons_zero, List.set_cons_succ, i64_w, i32_w]
                                rfl
                              refine pure_ (i := 15) (N := some 8) (v := ?_) (a' := ?_) #[true, true, true, true, true, true, true, true, true, true, true, true, true, true, true, true] rfl rfl (any_of HT_.out (by kernel_rfl)) (fun _ _ _ h => h) (Or.inl ⟨by rfl, ?_⟩) ?_ ?_
                              rotate_left
                              · intro w'
                                go_simp
                                with_reducible rfl
                              rotate_left
                              · simp only [Act.put, List.setIfInBounds_toArray, List.set_cons_zero, List.set_cons_succ, i64_w, i32_w]
                                rfl
                              refine done_ (done_of HT_.out (by kernel_rfl)) ?_
                              try go_wp2
                              have n0_ := Aside0.mk (blk_drew BK121.out)
                              have n1_ := Aside0.mk (below_drew1 HB.out)
                              clear BK121
                              clear HB
                              have BK121 := n0_
                              have HB := n1_
                              clear n0_ n1_
                              refine start_ (n := 11) (S := fun w' => w'.cell? ⟨gb121, 0, none⟩ = some (.int .i64 a0_0) ∧ w'.cell? ⟨gb121, 1, none⟩ = some (.int .i64 a0_1) ∧ w'.cell? ⟨gb121, 2, none⟩ = some (.int .i64 a0_2) ∧ w'.cell? ⟨gb121, 3, none⟩ = some (.int .i64 a0_3) ∧ w'.cell? ⟨gb121, 4, none⟩ = some (.int .i64 a0_4) ∧ w'.cell? ⟨gb121, 5, none⟩ = some (.bool a0_5)) (ds := []) #[false, false, false, false, false, false, false, false, false, false, false] (by kernel_rfl) rfl rfl ⟨(blk_cell BK121.out 0).trans rfl, (blk_cell BK121.out 1).trans rfl, (blk_cell BK121.out 2).trans rfl, (blk_cell BK121.out 3).trans rfl, (blk_cell BK121.out 4).trans rfl, (blk_cell BK121.out 5).trans rfl⟩ (fun hHeld => ?_); refine with_tabW vinculumref05_Put.tab8 vinculumref05_Put.bits8 (fun HT_ HW_ => ?_)
                              generalize w42.drew = w43 at BK121 HB hHeld ⊢
                              refine pure_ (i := 0) (N := some 45) (v := ?_) (a' := ?_) #[true, false, false, false, false, false, false, false, false, false, false] rfl rfl (any_of HT_.out (by kernel_rfl)) (fun _ _ _ h => h) (Or.inl ⟨by rfl, ?_⟩) ?_ ?_
                              rotate_left
                              · intro w'
                                go_simp
                                with_reducible rfl
                              rotate_left
                              · simp only [Act.put, List.setIfInBounds_toArray, List.set_cons_zero, List.set_cons_succ, i64_w, i32_w]
                                rfl
                              refine pure_ (i := 2) (N := some 47) (v := ?_) (a' := ?_) #[true, false, true, false, false, false, false, false, false, false, false] rfl rfl (any_of HT_.out (by kernel_rfl)) (fun _ _ _ h => h) (Or.inl ⟨by rfl, ?_⟩) ?_ ?_
                              rotate_left
                              · intro w'
                                go_simp
                                with_reducible rfl
                              rotate_left
                              · simp only [Act.put, List.setIfInBounds_toArray, List.set_cons_zero, List.set_cons_succ, i64_w, i32_w]
                                rfl
                              refine pure_ (i := 6) (N := some 51) (v := ?_) (a' := ?_) #[true, false, true, false, false, false, true, false, false, false, false] rfl rfl (any_of HT_.out (by kernel_rfl)) (fun _ _ _ h => h) (Or.inl ⟨by rfl, ?_⟩) ?_ ?_
                              rotate_left
                              · intro w'
                                go_simp
                                with_reducible rfl
                              rotate_left
                              · simp only [Act.put, List.setIfInBounds_toArray, List.set_cons_zero, List.set_cons_succ, i64_w, i32_w]
                                rfl
                              refine take_ (i := 3) (N := some 48) (v := ?_) (a' := ?_) #[true, false, true, true, false, false, true, false, false, false, false] rfl rfl (take_ofW HT_.out HW_.out (by kernel_rfl)) (fun _ _ _ h => h) (Or.inl ⟨by rfl, ?_⟩) hHeld ?_ ?_
                              rotate_left
                              · rintro w' ⟨s0, s1, s2, s3, s4, s5⟩
                                go_simp
                                with_reducible rfl
                              rotate_left
                              · simp only [Act.put, List.setIfInBounds_toArray, List.set_cons_zero, List.set_cons_succ, i64_w, i32_w]
                                rfl
                              refine one_ (i := 1) (N := some 46) #[true, true, true, true, false, false, true, false, false, false, false] rfl rfl (one_of HT_.out (by kernel_rfl)) (by decide) (fun K hK => ?_)
                              refine goes_ Try.func21 (by kernel_rfl) rfl #[.int .i64 4] (by rfl) rfl rfl (by (try simp only [List.map_toArray, List.map_cons, List.map_nil]); first | done | rfl | (simp only [List.length_drop, List.length_take]; rfl)) ?_
                              with_reducible refine (vinculumref03_Noughts.calls kj3 4 t135 _ A32.out).mono ?_
                              rintro e w' ⟨rfl, ⟨nd, rfl⟩⟩
                              refine ⟨_, rfl, ?_⟩
                              refine hK.out _ _ ⟨(blk_cell BK121.out 0).trans rfl, (blk_cell BK121.out 1).trans rfl, (blk_cell BK121.out 2).trans rfl, (blk_cell BK121.out 3).trans rfl, (blk_cell BK121.out 4).trans rfl, (blk_cell BK121.out 5).trans rfl⟩ (fun hHeld => ?_)
                              clear hK K
                              refine norm_ (a' := ?_) ?_ ?_
                              rotate_left
                              · show Act.put _ (some 46) _ = _
                                simp only [Act.put, List.setIfInBounds_toArray, List.set_cons_zero, List.set_cons_succ, i64_w, i32_w]
                                rfl
                              refine one_ (i := 4) (N := some 49) #[true, true, true, true, true, false, true, false, false, false, false] rfl rfl (one_of HT_.out (by kernel_rfl)) (by decide) (fun K hK => ?_)
                              refine goes_ Try.func22 (by kernel_rfl) rfl #[.int .i64 a0_1, .int .i64 2] (by rfl) rfl rfl (by (try simp only [List.map_toArray, List.map_cons, List.map_nil]); first | done | rfl | (simp only [List.length_drop, List.length_take]; rfl)) ?_
                              with_reducible refine (vinculumref03_Bytes.calls kj3 a0_1 2 t136 _ A33.out).mono ?_
                              rintro e w44 ⟨rfl, hb⟩
                              refine ⟨_, rfl, ?_⟩
                              have n0_ := Aside0.mk (blk_below (g := gb121) (o := .cells #[.int .i64 a0_0, .int .i64 a0_1, .int .i64 a0_2, .int .i64 a0_3, .int .i64 a0_4, .bool a0_5] 23 (0, 0)) (by (with_reducible repeat (first | refine blk_drewN ?_ _ | refine blk_drew ?_ | refine blk_alloc ?_ _)); exact BK121.out) hb)
                              have n1_ := Aside0.mk (below_step (by repeat (first | (with_reducible first | exact HB.out | apply below_alloc | apply pw_below_drewN | apply below_drew1 | refine below_set ?_ GE121.out) | exact HB.out)) hb)
                              clear BK121
                              clear HB
                              have BK121 := n0_
                              have HB := n1_
                              clear n0_ n1_
                              (try clear hb)
                              (try clear hb2)
                              (try clear hk)
                              (try clear hi)
                              refine hK.out _ _ ⟨(blk_cell BK121.out 0).trans rfl, (blk_cell BK121.out 1).trans rfl, (blk_cell BK121.out 2).trans rfl, (blk_cell BK121.out 3).trans rfl, (blk_cell BK121.out 4).trans rfl, (blk_cell BK121.out 5).trans rfl⟩ (fun hHeld => ?_)
                              clear hK K
                              refine norm_ (a' := ?_) ?_ ?_
                              rotate_left
                              · show Act.put _ (some 49) _ = _
                                simp only [Act.put, List.setIfInBounds_toArray, List.set_cons_zero, List.set_cons_succ, i64_w, i32_w]
                                rfl
                              refine pure_ (i := 5) (N := some 50) (v := ?_) (a' := ?_) #[true, true, true, true, true, true, true, false, false, false, false] rfl rfl (any_of HT_.out (by kernel_rfl)) (fun _ _ _ h => h) (Or.inl ⟨by rfl, ?_⟩) ?_ ?_
                              rotate_left
                              · intro w'
                                go_simp
                                with_reducible rfl
                              rotate_left
                              · simp only [Act.put, List.setIfInBounds_toArray, List.set_cons_zero, List.set_cons_succ, i64_w, i32_w]
                                rfl
                              refine pure_ (i := 7) (N := some 2) (v := ?_) (a' := ?_) #[true, true, true, true, true, true, true, true, false, false, false] rfl rfl (any_of HT_.out (by kernel_rfl)) (fun _ _ _ h => h) (Or.inl ⟨by rfl, ?_⟩) ?_ ?_
                              rotate_left
                              · intro w'
                                go_simp
                                with_reducible rfl
                              rotate_left
                              · simp only [Act.put, List.setIfInBounds_toArray, List.set_cons_zero, List.set_cons_succ, i64_w, i32_w]
                                rfl
                              refine pure_ (i := 8) (N := some 3) (v := ?_) (a' := ?_) #[true, true, true, true, true, true, true, true, true, false, false] rfl rfl (any_of HT_.out (by kernel_rfl)) (fun _ _ _ h => h) (Or.inl ⟨by rfl, ?_⟩) ?_ ?_
                              rotate_left
                              · intro w'
                                go_simp
                                with_reducible rfl
                              rotate_left
                              · simp only [Act.put, List.setIfInBounds_toArray, List.set_cons_zero, List.set_cons_succ, i64_w, i32_w]
                                rfl
                              refine pure_ (i := 9) (N := some 4) (v := ?_) (a' := ?_) #[true, true, true, true, true, true, true, true, true, true, false] rfl rfl (any_of HT_.out (by kernel_rfl)) (fun _ _ _ h => h) (Or.inl ⟨by rfl, ?_⟩) ?_ ?_
                              rotate_left
                              · intro w'
                                go_simp
                                with_reducible rfl
                              rotate_left
                              · simp only [Act.put, List.setIfInBounds_toArray, List.set_cons_zero, List.set_cons_succ, i64_w, i32_w]
                                rfl
                              refine pure_ (i := 10) (N := some 5) (v := ?_) (a' := ?_) #[true, true, true, true, true, true, true, true, true, true, true] rfl rfl (any_of HT_.out (by kernel_rfl)) (fun _ _ _ h => h) (Or.inl ⟨by rfl, ?_⟩) ?_ ?_
                              rotate_left
                              · intro w'
                                go_simp
                                with_reducible rfl
                              rotate_left
                              · simp only [Act.put, List.setIfInBounds_toArray, List.set_cons_zero, List.set_cons_succ, i64_w, i32_w]
                                rfl
                              refine done_ (done_of HT_.out (by kernel_rfl)) ?_
                              try go_wp2
                              refine bodyPost_ret (results_list (rs := [.tmp 2, .tmp 3, .tmp 4, .tmp 5]) rfl (by simp) (.tmp (.tmp (.tmp (.tmp .nil))))) rfl ?_
                              exact ⟨by first | rfl | (simp [errW_none, errW_some] <;> rfl) | (simp [*, errW_none, errW_some] <;> rfl), by repeat (first | (with_reducible first | exact HB.out | apply below_alloc | apply pw_below_drewN | apply below_drew1 | refine below_set ?_ GE121.out) | exact HB.out)⟩
                            · rw [if_neg c34] at H
                              exact absurd H (by simp)
                          · rw [if_neg c31] at H
                            exact absurd H (by simp)
                        · rw [if_neg c29] at H
                          exact absurd H (by simp)
                      · rw [if_neg c27] at H
                        exact absurd H (by simp)
                    · rw [if_neg c25] at H
                      exact absurd H (by simp)
                  · rw [if_neg c22] at H
                    exact absurd H (by simp)
                · rw [if_neg c20] at H
                  exact absurd H (by simp)
              · rw [if_neg c18] at H
                exact absurd H (by simp)
            · rw [if_neg c16] at H
              exact absurd H (by simp)
          · rw [if_neg c14] at H
            exact absurd H (by simp)
        · rw [if_neg c12] at H
          exact absurd H (by simp)
  · replace c3 := Bool.eq_false_iff.mpr c3
    subst c3
    have H1 : (some ((⟨#[]⟩ : ByteArray), (⟨#[]⟩ : ByteArray), (⟨#[]⟩ : ByteArray), 1)) = some (r1, r2, r3, r4) := by rw [if_neg (show ¬ (false = true) by decide)] at H; exact H
    clear H
    have H := H1
    clear H1
    simp only [Option.some.injEq, Prod.mk.injEq] at H
    obtain ⟨rfl, rfl, rfl, rfl⟩ := H
    go_enter Try.func10, Try.ntmps10
    go_wp2_with (first | ((with_reducible refine gate_dst (N := 1) rfl ?_); refine box_event ?hg (N := 1) ?hd (cs := #[.int .i64 a0_0, .int .i64 a0_1, .int .i64 a0_2, .int .i64 a0_3, .int .i64 a0_4, .bool a0_5]) (t := 23) ?hr ?_; (case hd => rfl); (case hg => rfl); (case hr => first | (go_simp; done) | (go_simp; rfl)); intro gb121 hg w45 hbox hb; have n0_ := Aside0.mk (below_step (by repeat (first | (with_reducible first | exact HB.out | apply below_alloc | apply pw_below_drewN | apply below_drew1) | exact HB.out)) hb); have n1_ := Aside0.mk (hbox); have n2_ := Aside0.mk ((by rw [hg]; exact (below_size (by repeat (first | (with_reducible first | exact HB.out | apply below_alloc | apply pw_below_drewN | apply below_drew1) | exact HB.out))) : w.heap.size ≤ gb121)); have n3_ := Aside0.mk ((by rw [hg]; exact (below_size (by repeat (first | (with_reducible first | exact HB.out | apply below_alloc | apply pw_below_drewN | apply below_drew1) | exact HB.out))) : w.heap.size ≤ gb121)); clear HB; have HB := n0_; have BK121 := n1_; have GW121 := n2_; have GE121 := n3_; clear n0_ n1_ n2_ n3_; clear hb hbox hg; have hcz46_0 : w45.cell? ⟨gb121, 0, none⟩ = some (.int .i64 a0_0) := (blk_cell BK121.out 0).trans rfl; have hcz46_1 : w45.cell? ⟨gb121, 1, none⟩ = some (.int .i64 a0_1) := (blk_cell BK121.out 1).trans rfl; have hcz46_2 : w45.cell? ⟨gb121, 2, none⟩ = some (.int .i64 a0_2) := (blk_cell BK121.out 2).trans rfl; have hcz46_3 : w45.cell? ⟨gb121, 3, none⟩ = some (.int .i64 a0_3) := (blk_cell BK121.out 3).trans rfl; have hcz46_4 : w45.cell? ⟨gb121, 4, none⟩ = some (.int .i64 a0_4) := (blk_cell BK121.out 4).trans rfl; have hcz46_5 : w45.cell? ⟨gb121, 5, none⟩ = some (.bool a0_5) := (blk_cell BK121.out 5).trans rfl; have hfz46_0 := blk_frozen BK121.out 0; have hfz46_1 := blk_frozen BK121.out 1; have hfz46_2 := blk_frozen BK121.out 2; have hfz46_3 := blk_frozen BK121.out 3; have hfz46_4 := blk_frozen BK121.out 4; have hfz46_5 := blk_frozen BK121.out 5) | ((with_reducible refine gate_callee (f := 15) rfl ?_); refine goesL_ (some 10) rfl rfl Try.func15 (by kernel_rfl) rfl #[.agg #[.int .i64 a0_0, .int .i64 a0_1, .int .i64 a0_2, .int .i64 a0_3, .int .i64 a0_4, .bool a0_5]] rfl (by (try simp only [List.map_toArray, List.map_cons, List.map_nil]); first | done | rfl | (simp only [List.length_drop, List.length_take]; rfl)) ?_; (with_reducible refine (vinculumref05_Is.calls a0_0 a0_1 a0_2 a0_3 a0_4 a0_5 false _ A2.out).mono ?_); rintro e w47 ⟨rfl, hb⟩; refine ⟨_, rfl, ?_⟩; have n0_ := Aside0.mk (blk_below (g := gb121) (o := .cells #[.int .i64 a0_0, .int .i64 a0_1, .int .i64 a0_2, .int .i64 a0_3, .int .i64 a0_4, .bool a0_5] 23 (0, 0)) (by (with_reducible repeat (first | refine blk_drewN ?_ _ | refine blk_drew ?_ | refine blk_alloc ?_ _)); exact BK121.out) hb); have n1_ := Aside0.mk (below_step (by repeat (first | (with_reducible first | exact HB.out | apply below_alloc | apply pw_below_drewN | apply below_drew1 | refine below_set ?_ GE121.out) | exact HB.out)) hb); clear BK121; clear HB; have BK121 := n0_; have HB := n1_; clear n0_ n1_; (try clear hb); (try clear hb2); (try clear hk); (try clear hi)))
    refine bodyPost_ret (results_list (rs := [.tmp 2, .tmp 3, .tmp 4, .tmp 5]) rfl (by simp) (.tmp (.tmp (.tmp (.tmp .nil))))) rfl ?_
    exact ⟨by first | rfl | (simp [errW_none, errW_some] <;> rfl) | (simp [*, errW_none, errW_some] <;> rfl), by repeat (first | (with_reducible first | exact HB.out | apply below_alloc | apply pw_below_drewN | apply below_drew1 | refine below_set ?_ GE121.out) | exact HB.out)⟩

end Go.Proofs.Ytfeodnceegkmjaa.P
