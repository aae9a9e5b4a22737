/- Layer 5: the law HeadDoes, walked: it returns true. -/
import Derived.Test.YtfeodnceegkmjaaRefHead
import Derived.Test.YtfeodnceegkmjaaHeaded
namespace Go.Proofs.Ytfeodnceegkmjaa.P
open Go.RowKit Go.Proofs.YtfeodnceegkmjaaW.PrintWords Go.Proofs.YtfeodnceegkmjaaW.PrintLast Go.Proofs.YtfeodnceegkmjaaW.PrintMore Go.Proofs.Ytfeodnceegkmjaa.BN
set_option linter.unusedVariables false
set_option linter.unusedSimpArgs false
attribute [local go_sem high] eqA23
set_option maxHeartbeats 16000000 in
set_option maxRecDepth 100000 in
theorem headDoes_true (a b c : ByteArray) (a0 a1 a2 a3 a4 : Int) (a5 : Bool) (n z : Int) (w : World) (ha : a.size ≤ 140737488351232) (hb : b.size ≤ 140737488351232) (hc : c.size ≤ 140737488351232) :
    Calls Try.prog 3 #[.string a, .string b, .string c, .agg #[.int .i64 a0, .int .i64 a1, .int .i64 a2, .int .i64 a3, .int .i64 a4, .bool a5], .int .i64 n, .int .i64 z] w fun e w' => e = .returned (.bool true) ∧ Below w.heap.size w w' := by
  have wr1 : IntKind.i64.wrap ((a.size : Int) + (b.size : Int)) = (a.size : Int) + (b.size : Int) := IntWalk.i64_in _ (by omega)
  have wr2 : IntKind.i64.wrap ((a.size : Int) + (b.size : Int) + (c.size : Int)) = (a.size : Int) + (b.size : Int) + (c.size : Int) := IntWalk.i64_in _ (by omega)
  by_cases h3 : (3000 : Int) < (a.size : Int) + (b.size : Int) + (c.size : Int)
  · clear ha hb hc
    go_enter Try.func3, Try.ntmps3
    go_wp2_with fail
    go_ret
    exact ⟨rfl, (Below.refl w.heap.size w).alloc (Nat.le_refl _) _⟩
  obtain ⟨⟨x1, x2, x3, x4, x5, x6, x7⟩, hx⟩ : ∃ x, getS a b c = x := ⟨_, rfl⟩
  have hg := fun w => head_Get.calls a b c x1 x2 x3 x4 x5 x6 x7 w (by unfold head_Get.f; rw [if_pos ⟨by omega, by omega, by omega⟩, hx])
  obtain ⟨k1, hk1⟩ := Ev.rounds (ref_get05 a b c)
  have hrg := fun w => vinculumref05_Get.calls k1 a b c x1 x2 x3 x4 x5 x6 x7 w (by rw [hk1, hx])
  obtain ⟨⟨p, q, r, e4⟩, hp⟩ : ∃ x, putS a0 a1 a2 a3 a4 a5 = x := ⟨_, rfl⟩
  have hpu := fun w => head_Put.calls a0 a1 a2 a3 a4 a5 p q r e4 w (by unfold head_Put.f; rw [hp])
  obtain ⟨k2, hk2⟩ := Ev.rounds (ref_put05 a0 a1 a2 a3 a4 a5)
  have hrp := fun w => vinculumref05_Put.calls k2 a0 a1 a2 a3 a4 a5 p q r e4 w (by rw [hk2, hp])
  obtain ⟨⟨v, j⟩, hu⟩ : ∃ x, unV a0 a1 a2 a3 a4 n z = x := ⟨_, rfl⟩
  have hun := fun w => head_Units.calls a0 a1 a2 a3 a4 a5 n z v j w (by rw [units_f, hu])
  obtain ⟨k3, hk3⟩ := Ev.rounds (units_ref a0 a1 a2 a3 a4 a5 n z)
  have hru := fun w => vinculumref05_Units.calls k3 a0 a1 a2 a3 a4 a5 n z v j w (by rw [hk3, hu])
  have his := fun w => head_Is.calls a0 a1 a2 a3 a4 a5 (headB a0 a1 a2 a3 a4) w (head_is_f _ _ _ _ _ _)
  have hri := fun w => vinculumref05_Is.calls a0 a1 a2 a3 a4 a5 (headB a0 a1 a2 a3 a4) w (ref_head _ _ _ _ _ _)
  generalize headB a0 a1 a2 a3 a4 = hB at his hri
  have HG := Lib.hid hg
  have HRG := Lib.hid hrg
  have HPU := Lib.hid hpu
  have HRP := Lib.hid hrp
  have HUN := Lib.hid hun
  have HRU := Lib.hid hru
  have HIS := Lib.hid his
  have HRI := Lib.hid hri
  clear hg hrg hpu hrp hun hru his hri hk1 hk2 hk3 hx hp hu ha hb hc
  go_enter Try.func3, Try.ntmps3
  go_wp2_with fail
  refine (HG.out _).mono ?_
  rintro e w1 ⟨rfl, hb⟩
  have HS1 := Lib.hid ((hb.block w.heap.size (by simp)).trans (heap_alloc_new w _))
  have HB1 := Lib.hid (((Below.refl w.heap.size w).alloc (Nat.le_refl _) _).trans (hb.mono (by simp)))
  clear hb wr1 wr2
  go_wp2_with fail
  refine (HRG.out _).mono ?_
  rintro e w2 ⟨rfl, hb⟩
  have HS2 := Lib.hid ((hb.block _ (by simp; have := nocell_lt HS1.out; omega)).trans ((heap_alloc_old _ _ (nocell_lt HS1.out)).trans HS1.out))
  have HX2 := Lib.hid ((hb.block w1.heap.size (by simp)).trans (heap_alloc_new w1 _))
  have hb4 := HB1.out.alloc HB1.out.size (.cells #[.int .i64 x1, .int .i64 x2, .int .i64 x3, .int .i64 x4, .int .i64 x5, .bool x6] 23)
  have HB2 := Lib.hid (hb4.trans (hb.mono hb4.size))
  clear hb hb4
  have hs := HS2.out
  have q0 := Joins.cell_of_block hs 0
  have q1 := Joins.cell_of_block hs 1
  have q2 := Joins.cell_of_block hs 2
  have q3 := Joins.cell_of_block hs 3
  have q4 := Joins.cell_of_block hs 4
  have q5 := Joins.cell_of_block hs 5
  simp at q0 q1 q2 q3 q4 q5
  have hlt := nocell_lt HS2.out
  clear hs HB1 HS1
  go_wp2_with fail
  refine (HPU.out _).mono ?_
  rintro e w3 ⟨rfl, hb⟩
  have hb4 := HB2.out.alloc HB2.out.size (.cells #[.int .i64 x1, .int .i64 x2, .int .i64 x3, .int .i64 x4, .int .i64 x5, .bool x6] 23)
  have HB3 := Lib.hid (hb4.trans (hb.mono hb4.size))
  have HS3 := Lib.hid ((hb.block _ (by simp; have := nocell_lt HS2.out; omega)).trans ((heap_alloc_old _ _ (nocell_lt HS2.out)).trans HS2.out))
  have HX3 := Lib.hid ((hb.block _ (by simp; have := nocell_lt HX2.out; omega)).trans ((heap_alloc_old _ _ (nocell_lt HX2.out)).trans HX2.out))
  have HY3 := Lib.hid ((hb.block w2.heap.size (by simp)).trans (heap_alloc_new w2 _))
  clear hb hb4 HB2 HS2 HX2 hlt q0 q1 q2 q3 q4 q5
  have hs := HS3.out
  have q0 := Joins.cell_of_block hs 0
  have q1 := Joins.cell_of_block hs 1
  have q2 := Joins.cell_of_block hs 2
  have q3 := Joins.cell_of_block hs 3
  have q4 := Joins.cell_of_block hs 4
  have q5 := Joins.cell_of_block hs 5
  simp at q0 q1 q2 q3 q4 q5
  clear hs
  go_wp2_with fail
  refine (HRP.out _).mono ?_
  rintro e w4 ⟨rfl, hb⟩
  have HB4 := Lib.hid (HB3.out.trans (hb.mono HB3.out.size))
  have HS4 := Lib.hid ((hb.block _ (nocell_lt HS3.out)).trans HS3.out)
  have HX4 := Lib.hid ((hb.block _ (nocell_lt HX3.out)).trans HX3.out)
  have HY4 := Lib.hid ((hb.block _ (nocell_lt HY3.out)).trans HY3.out)
  clear hb HB3 HS3 HX3 HY3 q0 q1 q2 q3 q4 q5
  have hs := HS4.out
  have q0 := Joins.cell_of_block hs 0
  have q1 := Joins.cell_of_block hs 1
  have q2 := Joins.cell_of_block hs 2
  have q3 := Joins.cell_of_block hs 3
  have q4 := Joins.cell_of_block hs 4
  have q5 := Joins.cell_of_block hs 5
  simp at q0 q1 q2 q3 q4 q5
  clear hs
  go_wp2_with fail
  refine (HUN.out _).mono ?_
  rintro e w5 ⟨rfl, hb⟩
  have HB5 := Lib.hid (HB4.out.trans (hb.mono HB4.out.size))
  have HS5 := Lib.hid ((hb.block _ (nocell_lt HS4.out)).trans HS4.out)
  have HX5 := Lib.hid ((hb.block _ (nocell_lt HX4.out)).trans HX4.out)
  have HY5 := Lib.hid ((hb.block _ (nocell_lt HY4.out)).trans HY4.out)
  clear hb HB4 HS4 HX4 HY4 q0 q1 q2 q3 q4 q5
  have hs := HS5.out
  have q0 := Joins.cell_of_block hs 0
  have q1 := Joins.cell_of_block hs 1
  have q2 := Joins.cell_of_block hs 2
  have q3 := Joins.cell_of_block hs 3
  have q4 := Joins.cell_of_block hs 4
  have q5 := Joins.cell_of_block hs 5
  simp at q0 q1 q2 q3 q4 q5
  clear hs
  go_wp2_with fail
  refine (HRU.out _).mono ?_
  rintro e w6 ⟨rfl, hb⟩
  have HB6 := Lib.hid (HB5.out.trans (hb.mono HB5.out.size))
  have HS6 := Lib.hid ((hb.block _ (nocell_lt HS5.out)).trans HS5.out)
  have HX6 := Lib.hid ((hb.block _ (nocell_lt HX5.out)).trans HX5.out)
  have HY6 := Lib.hid ((hb.block _ (nocell_lt HY5.out)).trans HY5.out)
  clear hb HB5 HS5 HX5 HY5 q0 q1 q2 q3 q4 q5
  have hkeep : ∀ w', Below w6.drew.heap.size w6.drew w' → w'.cell? ⟨w.heap.size, 0, none⟩ = some (.int .i64 a0) ∧ w'.cell? ⟨w.heap.size, 1, none⟩ = some (.int .i64 a1) ∧ w'.cell? ⟨w.heap.size, 2, none⟩ = some (.int .i64 a2) ∧ w'.cell? ⟨w.heap.size, 3, none⟩ = some (.int .i64 a3) ∧ w'.cell? ⟨w.heap.size, 4, none⟩ = some (.int .i64 a4) ∧ w'.cell? ⟨w.heap.size, 5, none⟩ = some (.bool a5) ∧ w'.cell? ⟨w1.heap.size, 0, none⟩ = some (.int .i64 x1) ∧ w'.cell? ⟨w1.heap.size, 1, none⟩ = some (.int .i64 x2) ∧ w'.cell? ⟨w1.heap.size, 2, none⟩ = some (.int .i64 x3) ∧ w'.cell? ⟨w1.heap.size, 3, none⟩ = some (.int .i64 x4) ∧ w'.cell? ⟨w1.heap.size, 4, none⟩ = some (.int .i64 x5) ∧ w'.cell? ⟨w1.heap.size, 5, none⟩ = some (.bool x6) ∧ w'.cell? ⟨w2.heap.size, 0, none⟩ = some (.int .i64 x1) ∧ w'.cell? ⟨w2.heap.size, 1, none⟩ = some (.int .i64 x2) ∧ w'.cell? ⟨w2.heap.size, 2, none⟩ = some (.int .i64 x3) ∧ w'.cell? ⟨w2.heap.size, 3, none⟩ = some (.int .i64 x4) ∧ w'.cell? ⟨w2.heap.size, 4, none⟩ = some (.int .i64 x5) ∧ w'.cell? ⟨w2.heap.size, 5, none⟩ = some (.bool x6) := fun w' h => by
    have h1 : w'.heap[w.heap.size]? = some (.cells #[.int .i64 a0, .int .i64 a1, .int .i64 a2, .int .i64 a3, .int .i64 a4, .bool a5] 23 (0, 0)) := (h.block _ (nocell_lt HS6.out)).trans HS6.out
    have h2 : w'.heap[w1.heap.size]? = some (.cells #[.int .i64 x1, .int .i64 x2, .int .i64 x3, .int .i64 x4, .int .i64 x5, .bool x6] 23 (0, 0)) := (h.block _ (nocell_lt HX6.out)).trans HX6.out
    have h3 : w'.heap[w2.heap.size]? = some (.cells #[.int .i64 x1, .int .i64 x2, .int .i64 x3, .int .i64 x4, .int .i64 x5, .bool x6] 23 (0, 0)) := (h.block _ (nocell_lt HY6.out)).trans HY6.out
    exact ⟨Joins.cell_of_block h1 0, Joins.cell_of_block h1 1, Joins.cell_of_block h1 2, Joins.cell_of_block h1 3, Joins.cell_of_block h1 4, Joins.cell_of_block h1 5, Joins.cell_of_block h2 0, Joins.cell_of_block h2 1, Joins.cell_of_block h2 2, Joins.cell_of_block h2 3, Joins.cell_of_block h2 4, Joins.cell_of_block h2 5, Joins.cell_of_block h3 0, Joins.cell_of_block h3 1, Joins.cell_of_block h3 2, Joins.cell_of_block h3 3, Joins.cell_of_block h3 4, Joins.cell_of_block h3 5⟩
  have HKEEP := Lib.hid hkeep
  obtain ⟨k0, k1, k2, k3, k4, k5, k6, k7, k8, k9, k10, k11, k12, k13, k14, k15, k16, k17⟩ := hkeep w6.drew (Below.refl _ _)
  have g0 : ∀ b o, w6.drew.cell? ⟨b, o, none⟩ = w6.cell? ⟨b, o, none⟩ := fun _ _ => rfl
  rw [g0] at k0 k1 k2 k3 k4 k5 k6 k7 k8 k9 k10 k11 k12 k13 k14 k15 k16 k17
  have HB := Lib.hid (below_drew HB6.out)
  have HD := Lib.hid (Below.refl w6.drew.heap.size w6.drew)
  clear hkeep g0 HB6 HS6 HX6 HY6
  go_wp2_with fail
  go_region_held3 (fun w' => w'.cell? ⟨w.heap.size, 0, none⟩ = some (.int .i64 a0) ∧ w'.cell? ⟨w.heap.size, 1, none⟩ = some (.int .i64 a1) ∧ w'.cell? ⟨w.heap.size, 2, none⟩ = some (.int .i64 a2) ∧ w'.cell? ⟨w.heap.size, 3, none⟩ = some (.int .i64 a3) ∧ w'.cell? ⟨w.heap.size, 4, none⟩ = some (.int .i64 a4) ∧ w'.cell? ⟨w.heap.size, 5, none⟩ = some (.bool a5) ∧ w'.cell? ⟨w1.heap.size, 0, none⟩ = some (.int .i64 x1) ∧ w'.cell? ⟨w1.heap.size, 1, none⟩ = some (.int .i64 x2) ∧ w'.cell? ⟨w1.heap.size, 2, none⟩ = some (.int .i64 x3) ∧ w'.cell? ⟨w1.heap.size, 3, none⟩ = some (.int .i64 x4) ∧ w'.cell? ⟨w1.heap.size, 4, none⟩ = some (.int .i64 x5) ∧ w'.cell? ⟨w1.heap.size, 5, none⟩ = some (.bool x6) ∧ w'.cell? ⟨w2.heap.size, 0, none⟩ = some (.int .i64 x1) ∧ w'.cell? ⟨w2.heap.size, 1, none⟩ = some (.int .i64 x2) ∧ w'.cell? ⟨w2.heap.size, 2, none⟩ = some (.int .i64 x3) ∧ w'.cell? ⟨w2.heap.size, 3, none⟩ = some (.int .i64 x4) ∧ w'.cell? ⟨w2.heap.size, 4, none⟩ = some (.int .i64 x5) ∧ w'.cell? ⟨w2.heap.size, 5, none⟩ = some (.bool x6)) (go_keep)
    (first
      | (go_at_call 13; refine (headed_true _).mono ?_; rintro e w7 ⟨rfl, hb⟩; have HB7 := Lib.hid (HB.out.trans (hb.mono HB.out.size)); have HD7 := Lib.hid (HD.out.trans (hb.mono HD.out.size)); have hk := HKEEP.out _ HD7.out; clear hb; obtain ⟨l0, l1, l2, l3, l4, l5, l6, l7, l8, l9, l10, l11, l12, l13, l14, l15, l16, l17⟩ := hk)
      | (go_at_call 14; refine (HIS.out _).mono ?_; rintro e w8 ⟨rfl, hb⟩; have HB8 := Lib.hid (HB7.out.trans (hb.mono HB7.out.size)); have HD8 := Lib.hid (HD7.out.trans (hb.mono HD7.out.size)); have hk := HKEEP.out _ HD8.out; clear hb; obtain ⟨m0, m1, m2, m3, m4, m5, m6, m7, m8, m9, m10, m11, m12, m13, m14, m15, m16, m17⟩ := hk)
      | (go_at_call 15; refine (HRI.out _).mono ?_; rintro e w9 ⟨rfl, hb⟩; have HB9 := Lib.hid (HB8.out.trans (hb.mono HB8.out.size)); have HD9 := Lib.hid (HD8.out.trans (hb.mono HD8.out.size)); have hk := HKEEP.out _ HD9.out; clear hb; obtain ⟨n0, n1, n2, n3, n4, n5, n6, n7, n8, n9, n10, n11, n12, n13, n14, n15, n16, n17⟩ := hk))
  all_goals
    go_wp2_with fail
    go_ret
    exact ⟨rfl, HB9.out⟩
end Go.Proofs.Ytfeodnceegkmjaa.P
