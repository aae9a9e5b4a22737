/- dimen.caught, walked at whatever function value. -/
import Derived.Test.YtkkadhhmdgbpiaaGreatDoorDimNear
import Derived.Test.YtkkadhhmdgbpiaaGreatDoorDefers
import Derived.Laws.Rows
import Derived.Laws.NewBlocks
import Derived.Deep.RegionWith
import Derived.Deep.RegionLaw
import Derived.Deep.RegionHeld3
import Derived.RegionTactic
namespace Go.Proofs.YtkkadhhmdgbpiaaGreatDoor.P
open Go.RowKit Go.Proofs.YtkkadhhmdgbpiaaGreatDoorW.PrintWords Go.Proofs.YtkkadhhmdgbpiaaGreatDoorW.PrintLast Go.Proofs.YtkkadhhmdgbpiaaGreatDoorW.PrintMore
set_option linter.unusedVariables false
set_option linter.unusedSimpArgs false
attribute [local go_sem] max2_int min2_int max_two min_two max_three min_three max_four min_four
theorem c1_idle (p q : Addr) (w : World) :
    CallsD Tryz.prog 39 #[.pointer (some p), .pointer (some q)] .returning w fun e u' w' => e = .returned (.tuple #[]) ∧ u' = .returning ∧ w' = w := by
  refine callsD_of_wpS Tryz.func39 rfl fun c₀ cs hu => ?_
  apply wpS_seq
  apply wpS_region
  simp [wpOpsS, go_sem, recoverD, hu, Tryz.ntmps39, Exit.thenS]
  refine wpS_of_wp ?_
  have htm : (#[Value.pointer (some p), Value.pointer (some q)] ++ ((Array.replicate 6 undef).setIfInBounds 1 Value.nilIface).setIfInBounds 0 Value.nilIface) = #[Value.pointer (some p), Value.pointer (some q), .nilIface, .nilIface, undef, undef, undef, undef] := rfl
  rw [htm]
  clear htm
  go_wp2
  cases c₀
  simp_all [bodyPostS, results, Tryz.results39]

theorem c1_panicking (L E : Nat) (y : Int) (v : Value) (x : Int) (older : List PanicEntry) (w : World) (hLE : L ≠ E) (hp : w.heap[L]? = some (.cells #[v] 3 (0, 0))) (hq : w.heap[E]? = some (.cells #[.int .i64 x] 23 (0, 0))) :
    CallsD Tryz.prog 39 #[.pointer (some ⟨L, 0, none⟩), .pointer (some ⟨E, 0, none⟩)] (.panicking ({ v := .iface 23 (.int .i64 y), recovered := false } :: older)) w fun e u' w' =>
      e = .returned (.tuple #[]) ∧ u' = .panicking ({ v := .iface 23 (.int .i64 y), recovered := true } :: older) ∧ w' = ((w.setCell ⟨L, 0, none⟩ (.int .i64 0)).setCell ⟨E, 0, none⟩ (.int .i64 y)).drew := by
  have cL := cell_of_one hp
  have cE := cell_of_one hq
  have fL := free_of_one hp
  have fE := free_of_one hq
  have hta : ∀ W, (Instr.typeAssert (.iface 23 (.int .i64 y)) 20 23 false).run Tryz.prog W = .ok (.int .i64 y) W := fun _ => by kernel_rfl
  have HP := Lib.hid hp
  have HQ := Lib.hid hq
  clear hp hq
  refine callsD_of_wpS Tryz.func39 rfl fun c₀ cs hu => ?_
  apply wpS_seq
  apply wpS_region
  simp [wpOpsS, go_sem, recoverD, hu, Tryz.ntmps39, Exit.thenS]
  refine wpS_of_wp ?_
  have htm : (#[Value.pointer (some ⟨L, 0, none⟩), Value.pointer (some ⟨E, 0, none⟩)] ++ ((Array.replicate 6 undef).setIfInBounds 1 (Value.iface 23 (Value.int IntKind.i64 y))).setIfInBounds 0 (Value.iface 23 (Value.int IntKind.i64 y))) = #[Value.pointer (some ⟨L, 0, none⟩), Value.pointer (some ⟨E, 0, none⟩), (Value.iface 23 (Value.int IntKind.i64 y)), (Value.iface 23 (Value.int IntKind.i64 y)), undef, undef, undef, undef] := rfl
  rw [htm]
  clear htm
  go_wp2
  go_region
  all_goals
    refine (show bodyPostS _ _ _ _ _ _ _ _ _ from ?_)
    cases c₀
    simp [bodyPostS, results, Tryz.results39, go_sem]

set_option maxHeartbeats 4000000 in
theorem caught_calls (g : Nat) (lb : Array Value) (eg : ∀ args w, (callFunc g args).run Tryz.prog w = .ok (.enter g args) w) (r1 r2 : Int) (hz : r2 ≠ 0 → r1 = 0) (w : World)
    (hb : ∀ W, Below w.heap.size w W → W.heap.size = w.heap.size + 2 → Calls Tryz.prog g lb W fun en w' => en = nearE (r1, r2) ∧ Below W.heap.size W w') :
    Calls Tryz.prog 16 #[.func (.func g) #[] lb] w fun e w' => e = .returned (.tuple #[.int .i64 r1, .int .i64 r2]) ∧ Below w.heap.size w w' := by
  have hmf : ∀ (fn : Fn) (first cap : Array Value) (w : World), (Instr.makeFunc fn first cap).run Tryz.prog w = .ok (.func fn first cap) w := fun _ _ _ _ => rfl
  generalize hW : (w.alloc (.cells #[.int .i64 0] 3)).alloc (.cells #[.int .i64 0] 23) = W
  have hBW : Below w.heap.size w W := by rw [← hW]; exact ((Below.refl _ _).alloc (Nat.le_refl _) _).alloc (by simp) _
  have hWs : W.heap.size = w.heap.size + 2 := by rw [← hW]; simp
  have hWn : W.heap[w.heap.size]? = some (.cells #[.int .i64 0] 3 (0, 0)) := by rw [← hW, heap_alloc_old _ _ (by simp)]; exact heap_alloc_new w _
  have hWe : W.heap[w.heap.size + 1]? = some (.cells #[.int .i64 0] 23 (0, 0)) := by rw [← hW]; exact heap_alloc2_new w _ _
  have hbody := hb W hBW hWs
  have HBODY := Lib.hid hbody
  have HBW := Lib.hid hBW
  have HWS := Lib.hid hWs
  have HWN := Lib.hid hWn
  have HWE := Lib.hid hWe
  clear hbody hBW hWs hWn hWe hb
  by_cases h0 : r2 = 0
  · have hr : nearE (r1, r2) = .returned (.int .i64 r1) := by unfold nearE; rw [if_pos h0]
    rw [hr] at HBODY
    subst h0
    clear hr hz
    go_enter_defers Tryz.func16, Tryz.ntmps16
    go_wp2_with fail
    refine HBODY.out.mono ?_
    rintro e w1 ⟨rfl, hb⟩
    have n1 := (hb.block _ (by have := HWS.out; omega)).trans HWN.out
    have n2 := (hb.block _ (by have := HWS.out; omega)).trans HWE.out
    have cN := cell_of_one n1
    have cE := cell_of_one n2
    have fN := free_of_one n1
    have fE := free_of_one n2
    have N1 := Lib.hid n1
    have N2 := Lib.hid n2
    have HB1 := Lib.hid hb
    clear n1 n2 hb
    have hlt : w.heap.size < w1.heap.size := by have := HWS.out; have := HB1.out.size; omega
    have hlt1 : w.heap.size + 1 < w1.heap.size := by have := HWS.out; have := HB1.out.size; omega
    have hBs : Below w.heap.size w ((w1.setCell ⟨w.heap.size, 0, none⟩ (.int .i64 r1)).setCell ⟨w.heap.size + 1, 0, none⟩ (.int .i64 0)) := ((HBW.out.trans (HB1.out.mono (by have := HWS.out; omega))).setCell (Nat.le_refl _) _).setCell (by simp) _
    have m1 : ((w1.setCell ⟨w.heap.size, 0, none⟩ (.int .i64 r1)).setCell ⟨w.heap.size + 1, 0, none⟩ (.int .i64 0)).heap[w.heap.size]? = some (.cells #[.int .i64 r1] 3 (0, 0)) := by
      rw [Below.heap_setCell _ _ _ _ (by simp)]; exact one_setCell N1.out
    have m2 : ((w1.setCell ⟨w.heap.size, 0, none⟩ (.int .i64 r1)).setCell ⟨w.heap.size + 1, 0, none⟩ (.int .i64 0)).heap[w.heap.size + 1]? = some (.cells #[.int .i64 0] 23 (0, 0)) := by
      refine one_setCell (v := .int .i64 0) ?_
      rw [Below.heap_setCell _ _ _ _ (by simp)]; exact N2.out
    have M1 := Lib.hid m1
    have M2 := Lib.hid m2
    have HBS := Lib.hid hBs
    clear m1 m2 hBs
    go_wp2_with fail
    have cN2 := cell_of_one M1.out
    have cE2 := cell_of_one M2.out
    refine leaves_cons (f := 39) (args := #[.pointer (some ⟨w.heap.size, 0, none⟩), .pointer (some ⟨w.heap.size + 1, 0, none⟩)]) (by simp) (by simp [go_sem]) ?_
    refine (c1_idle _ _ _).mono ?_
    rintro e u' w'' ⟨rfl, rfl, rfl⟩
    have HBS' := HBS.out
    generalize ((w1.setCell ⟨w.heap.size, 0, none⟩ (.int .i64 r1)).setCell ⟨w.heap.size + 1, 0, none⟩ (.int .i64 0)) = W2 at *
    simp [Leaves, settle, results, Tryz.results16, go_sem, cN2, cE2]
    exact HBS'
  · have hr : nearE (r1, r2) = .panicked [{ v := .iface 23 (.int .i64 r2), recovered := false }] := by unfold nearE; rw [if_neg h0]
    rw [hr] at HBODY
    obtain rfl := hz h0
    clear hr hz
    go_enter_defers Tryz.func16, Tryz.ntmps16
    go_wp2_with fail
    refine HBODY.out.mono ?_
    rintro e w1 ⟨rfl, hb⟩
    refine (show bodyPostD _ _ _ (Exit.panic _) _ _ from ?_)
    refine leaves_cons (f := 39) (args := #[.pointer (some ⟨w.heap.size, 0, none⟩), .pointer (some ⟨w.heap.size + 1, 0, none⟩)]) (by simp) (by simp [go_sem]) ?_
    have n1 := (hb.block _ (by have := HWS.out; omega)).trans HWN.out
    have n2 := (hb.block _ (by have := HWS.out; omega)).trans HWE.out
    refine (c1_panicking w.heap.size (w.heap.size + 1) r2 (.int .i64 0) 0 [] w1 (by omega) n1 n2).mono ?_
    rintro e u' w'' ⟨rfl, rfl, rfl⟩
    have cN := cell_of_one n1
    have cE := cell_of_one n2
    simp [Leaves, settle, results, Tryz.results16, go_sem, cN, cE]
    exact below_drew (((HBW.out.trans (hb.mono (by have := HWS.out; omega))).setCell (Nat.le_refl _) _).setCell (by simp) _)
end Go.Proofs.YtkkadhhmdgbpiaaGreatDoor.P
