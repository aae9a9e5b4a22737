/- Layer 5: the laws HeadBack and HeadUnits tell true. -/
import Derived.Test.YtfeodnceegkmjaaHeaded
import Derived.Test.YtfeodnceegkmjaaPx9
namespace Go.Proofs.Ytfeodnceegkmjaa.P
open Go.RowKit Go.Proofs.YtfeodnceegkmjaaW.PrintWords Go.Proofs.YtfeodnceegkmjaaW.PrintLast Go.Proofs.YtfeodnceegkmjaaW.PrintMore Go.Proofs.Ytfeodnceegkmjaa.BN
set_option linter.unusedVariables false
set_option linter.unusedSimpArgs false
theorem back_pure (a0 a1 a2 a3 a4 : Int) (a5 : Bool) (m : ByteArray) : vinculumlaw05_HeadBack.f a0 a1 a2 a3 a4 a5 m = some true := by
  unfold vinculumlaw05_HeadBack.f head_Put.f vinculumlaw05_headed.f
  by_cases hm : (m.size : Int) > 1000
  · rw [if_pos hm]
  rw [if_neg hm, Option.bind_some]
  cases hb : headB a0 a1 a2 a3 a4
  · have hp : putS a0 a1 a2 a3 a4 a5 = (⟨#[]⟩, ⟨#[]⟩, ⟨#[]⟩, 1) := by unfold putS; rw [hb]; rfl
    rw [hp]
    simp only [head_is_f, hb, Option.bind_some, if_true, Bool.false_eq_true, if_false, if_neg (show ¬ (1 : Int) = 0 by decide)]
    decide +kernel
  · have hp : putS a0 a1 a2 a3 a4 a5 = (⟨(hdA a0 a5).toArray⟩, ⟨(hdB a1).toArray⟩, ⟨(hdC a2 a3 a4).toArray⟩, 0) := by unfold putS; rw [hb]; rfl
    rw [hp]
    have sA : (⟨(hdA a0 a5).toArray⟩ : ByteArray).size = 54 := by rw [size_eq, bytesl_mk, hdA_len]
    have sB : (⟨(hdB a1).toArray⟩ : ByteArray).size = 6 := by rw [size_eq, bytesl_mk, hdB_len]
    have sC : (⟨(hdC a2 a3 a4).toArray⟩ : ByteArray).size = 36 := by rw [size_eq, bytesl_mk, hdC_len]
    have g1 : head_Get.f ⟨(hdA a0 a5).toArray⟩ ⟨(hdB a1).toArray⟩ ⟨(hdC a2 a3 a4).toArray⟩ = some (a0, a1, a2, a3, a4, a5, 0) := by
      unfold head_Get.f
      rw [if_pos ⟨by omega, by omega, by omega⟩, get_put a0 a1 a2 a3 a4 a5 hb _ _ _ [] [] [] (by rw [bytesl_mk, List.append_nil]) (by rw [bytesl_mk, List.append_nil]) (by rw [bytesl_mk, List.append_nil])]
    have g2 : head_Get.f (⟨(hdA a0 a5).toArray⟩ ++ m) (⟨(hdB a1).toArray⟩ ++ m) (⟨(hdC a2 a3 a4).toArray⟩ ++ m) = some (a0, a1, a2, a3, a4, a5, 0) := by
      unfold head_Get.f
      rw [if_pos ⟨by rw [ByteArray.size_append]; omega, by rw [ByteArray.size_append]; omega, by rw [ByteArray.size_append]; omega⟩, get_put a0 a1 a2 a3 a4 a5 hb _ _ _ (bytesl m) (bytesl m) (bytesl m) (by rw [bytesl_append, bytesl_mk]) (by rw [bytesl_append, bytesl_mk]) (by rw [bytesl_append, bytesl_mk])]
    simp only [if_true, g1, Option.bind_some, g2, sA, sB, sC, beq_self_eq_true, Bool.and_self]
    rw [if_pos (by omega), if_pos (by omega), if_pos (by omega)]
theorem headBack_true (a0 a1 a2 a3 a4 : Int) (a5 : Bool) (m : ByteArray) (w : World) : Calls Try.prog 4 #[.agg #[.int .i64 a0, .int .i64 a1, .int .i64 a2, .int .i64 a3, .int .i64 a4, .bool a5], .string m] w fun e w' => e = .returned (.bool true) ∧ Below w.heap.size w w' :=
  vinculumlaw05_HeadBack.calls a0 a1 a2 a3 a4 a5 m true w (back_pure a0 a1 a2 a3 a4 a5 m)
end Go.Proofs.Ytfeodnceegkmjaa.P
