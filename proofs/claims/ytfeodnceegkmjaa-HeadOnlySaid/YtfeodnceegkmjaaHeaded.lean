/- The fixed example of layer 5: it is told. No condition. -/
import Derived.Test.YtfeodnceegkmjaaHeadSpec
import Derived.Test.YtfeodnceegkmjaaPx1
import Derived.Test.YtfeodnceegkmjaaPx8
namespace Go.Proofs.Ytfeodnceegkmjaa.P
open Go.RowKit Go.Proofs.YtfeodnceegkmjaaW.PrintWords Go.Proofs.YtfeodnceegkmjaaW.PrintLast Go.Proofs.YtfeodnceegkmjaaW.PrintMore Go.Proofs.Ytfeodnceegkmjaa.BN
set_option linter.unusedVariables false
set_option linter.unusedSimpArgs false
attribute [local go_sem high] eqA23
def vinculumlaw05_headed.f : Option Bool := some true
theorem x_put (w : World) : ∃ SA SB SC : ByteArray, (SA.size = 54 ∧ SB.size = 6 ∧ SC.size = 36) ∧ getS SA SB SC = (1000, 3, 2, 800, -200, true, 0) ∧
    ∀ w, Calls Try.prog 9 #[.agg #[.int .i64 1000, .int .i64 3, .int .i64 2, .int .i64 800, .int .i64 (-200), .bool true]] w fun e w' => e = .returned (.tuple #[.string SA, .string SB, .string SC, .int .i64 0]) ∧ Below w.heap.size w w' :=
  ⟨⟨(hdA 1000 true).toArray⟩, ⟨(hdB 3).toArray⟩, ⟨(hdC 2 800 (-200)).toArray⟩, ⟨by rw [size_eq, bytesl_mk, hdA_len], by rw [size_eq, bytesl_mk, hdB_len], by rw [size_eq, bytesl_mk, hdC_len]⟩,
    get_put 1000 3 2 800 (-200) true (by decide) _ _ _ [] [] [] (by rw [bytesl_mk, List.append_nil]) (by rw [bytesl_mk, List.append_nil]) (by rw [bytesl_mk, List.append_nil]), fun w => put_good 1000 3 2 800 (-200) true w (by decide)⟩
set_option maxHeartbeats 8000000 in
set_option maxRecDepth 100000 in
theorem headed_true (w : World) : Calls Try.prog 13 #[] w fun e w' => e = .returned (.bool true) ∧ Below w.heap.size w w' := by
  obtain ⟨SA, SB, SC, ⟨sa, sb, sc⟩, hg, hp⟩ := x_put w
  have hg1 := fun w => head_Get.calls SA SB SC 1000 3 2 800 (-200) true 0 w (by unfold head_Get.f; rw [if_pos (by omega), hg])
  have hg2 := fun w => head_Get.calls SA SB ⟨#[]⟩ 0 0 0 0 0 false 4 w (by unfold head_Get.f; rw [if_pos ⟨by omega, by omega, by decide⟩]; unfold getS; rw [if_pos (.inr (.inr (by decide)))]; rfl)
  have hp2 := fun w => put_bad 0 0 0 0 0 false w (by decide)
  have hu := fun w => head_Units.calls 1000 3 2 800 (-200) true 500 655360 327680 0 w (by decide +kernel)
  have hi1 := fun w => head_Is.calls 1000 3 2 800 (-200) true true w (by decide)
  have hi2 := fun w => head_Is.calls 0 0 0 0 0 false false w (by decide)
  have z1 : ((SA.size : Int) == 54) = true := by rw [sa]; rfl
  have z2 : ((SB.size : Int) == 6) = true := by rw [sb]; rfl
  have z3 : ((SC.size : Int) == 36) = true := by rw [sc]; rfl
  have HP := Lib.hid hp
  have HG1 := Lib.hid hg1
  have HG2 := Lib.hid hg2
  have HP2 := Lib.hid hp2
  have HU := Lib.hid hu
  have HI1 := Lib.hid hi1
  have HI2 := Lib.hid hi2
  clear hp hg1 hg2 hp2 hu hi1 hi2 sa sb sc hg
  go_enter Try.func13, Try.ntmps13
  go_wp2_with fail
  refine (HP.out _).mono ?_
  rintro e w1 ⟨rfl, hb⟩
  have hs1 := (hb.block w.heap.size (by simp)).trans (heap_alloc_new w _)
  have HS1 := Lib.hid hs1
  have HB1 := Lib.hid (((Below.refl w.heap.size w).alloc (Nat.le_refl _) _).trans (hb.mono (by simp)))
  clear hb hs1
  go_wp2_with fail
  refine (HG1.out _).mono ?_
  rintro e w2 ⟨rfl, hb⟩
  have HB2 := Lib.hid (HB1.out.trans (hb.mono HB1.out.size))
  have HS2 := Lib.hid ((hb.block _ (nocell_lt HS1.out)).trans HS1.out)
  clear hb
  go_wp2_with fail
  refine (HG2.out _).mono ?_
  rintro e w3 ⟨rfl, hb⟩
  have HB3 := Lib.hid ((HB2.out.alloc HB2.out.size _).trans (hb.mono (Nat.le_trans HB2.out.size (by simp))))
  have HS3 := Lib.hid ((hb.block _ (by simp; have := nocell_lt HS2.out; omega)).trans ((heap_alloc_old _ _ (nocell_lt HS2.out)).trans HS2.out))
  have HG3 := Lib.hid ((hb.block w2.heap.size (by simp)).trans (heap_alloc_new w2 _))
  clear hb
  go_wp2_with fail
  refine (HP2.out _).mono ?_
  rintro e w4 ⟨rfl, hb⟩
  have hb4 := HB3.out.alloc HB3.out.size (.cells #[.int .i64 0, .int .i64 0, .int .i64 0, .int .i64 0, .int .i64 0, .bool false] 23)
  have HB4 := Lib.hid (hb4.trans (hb.mono hb4.size))
  have HS4 := Lib.hid ((hb.block _ (by simp; have := nocell_lt HS3.out; omega)).trans ((heap_alloc_old _ _ (nocell_lt HS3.out)).trans HS3.out))
  have HG4 := Lib.hid ((hb.block _ (by simp; have := nocell_lt HG3.out; omega)).trans ((heap_alloc_old _ _ (nocell_lt HG3.out)).trans HG3.out))
  clear hb hb4 HB3 HS3 HG3
  have hs := HS4.out
  have q0 := Joins.cell_of_block hs 0
  have q1 := Joins.cell_of_block hs 1
  have q2 := Joins.cell_of_block hs 2
  have q3 := Joins.cell_of_block hs 3
  have q4 := Joins.cell_of_block hs 4
  have q5 := Joins.cell_of_block hs 5
  simp at q0 q1 q2 q3 q4 q5
  clear hs
  go_wp2_with fail
  refine (HU.out _).mono ?_
  rintro e w5 ⟨rfl, hb⟩
  have HB5 := Lib.hid (HB4.out.trans (hb.mono HB4.out.size))
  have HS5 := Lib.hid ((hb.block _ (nocell_lt HS4.out)).trans HS4.out)
  have HG5 := Lib.hid ((hb.block _ (nocell_lt HG4.out)).trans HG4.out)
  clear hb q0 q1 q2 q3 q4 q5 HB4 HS4 HG4
  have hs := HS5.out
  have q0 := Joins.cell_of_block hs 0
  have q1 := Joins.cell_of_block hs 1
  have q2 := Joins.cell_of_block hs 2
  have q3 := Joins.cell_of_block hs 3
  have q4 := Joins.cell_of_block hs 4
  have q5 := Joins.cell_of_block hs 5
  have hg := HG5.out
  have r0 := Joins.cell_of_block hg 0
  have r1 := Joins.cell_of_block hg 1
  have r2 := Joins.cell_of_block hg 2
  have r3 := Joins.cell_of_block hg 3
  have r4 := Joins.cell_of_block hg 4
  have r5 := Joins.cell_of_block hg 5
  simp at q0 q1 q2 q3 q4 q5 r0 r1 r2 r3 r4 r5
  clear hs hg
  go_wp2_with fail
  refine (HI1.out _).mono ?_
  rintro e w6 ⟨rfl, hb⟩
  have HB6 := Lib.hid (HB5.out.trans (hb.mono HB5.out.size))
  clear hb HB5 HS5 HG5 q0 q1 q2 q3 q4 q5 r0 r1 r2 r3 r4 r5
  go_wp2_with fail
  refine (HI2.out _).mono ?_
  rintro e w7 ⟨rfl, hb⟩
  have HB7 := Lib.hid (HB6.out.trans (hb.mono HB6.out.size))
  clear hb HB6
  go_wp2_with fail
  go_ret
  exact ⟨rfl, HB7.out⟩
theorem vinculumlaw05_headed.calls (r : Bool) (w : World) (h : vinculumlaw05_headed.f = some r) : Calls Try.prog 13 #[] w fun e w' => e = .returned (.bool r) ∧ Below w.heap.size w w' := by
  obtain rfl := Option.some.inj h
  exact headed_true w
end Go.Proofs.Ytfeodnceegkmjaa.P
