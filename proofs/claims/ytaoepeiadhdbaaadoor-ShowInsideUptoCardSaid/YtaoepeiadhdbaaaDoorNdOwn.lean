/- show.own, walked: a theorem for each kind. Written by wip/tools/genown.py. -/
import Derived.Test.YtaoepeiadhdbaaaDoorNdDelimsA
import Derived.Test.YtaoepeiadhdbaaaDoorNdClassA
import Derived.Test.YtaoepeiadhdbaaaDoorKeptT
import Derived.RegionTactic
import Derived.Laws.Rows
import Derived.Laws.CopyOwn
namespace Go.Proofs.YtaoepeiadhdbaaaDoor.ND
open Go.Shelf Go.Sort Go.Proofs.YtaoepeiadhdbaaaDoor.P Go.RowKit Go.Proofs.YtaoepeiadhdbaaaDoorW.PrintWords Go.Proofs.YtaoepeiadhdbaaaDoorW.PrintLast Go.Proofs.YtaoepeiadhdbaaaDoorW.PrintMore
set_option linter.unusedVariables false
set_option linter.unusedSimpArgs false
theorem results_tmp_cell {fn : Func} {P : Program} {u p : Tmp} {ty : TypeId} (h : fn.results = #[.tmp u, .cell p ty]) (tmps : Array Value) (w : World) (g : Nat) (t : TypeId) (cs : Array Value) (fr : Nat × Nat) (d : TypeDesc)
    (hp : tmps.getD p undef = .pointer (some ⟨g, 0, none⟩)) (hg : w.heap[g]? = some (.cells cs t fr))
    (hu : P.underlying ty = some d) (hd : (match d with | .struct _ | .array _ _ => true | _ => false) = true) (hi : (P.info? ty).map (·.size) = some cs.size) :
    (results fn tmps).run P w = .ok (.tuple #[tmps.getD u undef, .agg cs]) w := by
  have hp' : tmps[p]?.getD undef = .pointer (some ⟨g, 0, none⟩) := by simpa using hp
  simp [results, h, hp', asAddr, run_loadVar_row w g t ty cs fr d hg hu hd hi]
theorem three_blocks (w : World) (A B C : Obj) : (((w.alloc A).alloc B).alloc C).drew.heap[w.heap.size]? = some A ∧ (((w.alloc A).alloc B).alloc C).drew.heap[w.heap.size + 1]? = some B ∧ (((w.alloc A).alloc B).alloc C).drew.heap[w.heap.size + 1 + 1]? = some C ∧
    Below w.heap.size w (((w.alloc A).alloc B).alloc C).drew := by
  have s1 : (w.alloc A).heap.size = w.heap.size + 1 := by simp
  have s2 : ((w.alloc A).alloc B).heap.size = w.heap.size + 1 + 1 := by simp
  have e : ∀ k : Nat, (((w.alloc A).alloc B).alloc C).drew.heap[k]? = (((w.alloc A).alloc B).alloc C).heap[k]? := fun _ => rfl
  refine ⟨?_, ?_, ?_, ((((Below.refl _ w).alloc (Nat.le_refl _) _).alloc (by simp) _).alloc (by simp; omega) _).drew⟩
  · rw [e, heap_alloc_old _ _ (by omega), heap_alloc_old _ _ (by omega)]
    exact heap_alloc_new w A
  · rw [e, heap_alloc_old _ _ (by omega), ← s1]
    exact heap_alloc_new _ B
  · rw [e, ← s2]
    exact heap_alloc_new _ C

set_option maxRecDepth 100000 in
set_option maxHeartbeats 1000000 in
theorem own_4 (a1 a2 a3 a4 : Int) (Ap : Option Addr) (lp cp : Nat) (Ar : Option Addr) (rs : List Int) (cr : Nat) (b1 b2 : Bool) (Au : Option Addr) (lu cu : Nat) (Ab : Option Addr) (lb cb : Nat) (w : World) (hT : LexTabs w) (hlp : lp ≤ 2000000) (hrs : rs.length ≤ 2000000) (hr : rdS (fun (n : Int) cs => cs = [.int .i64 n] ∧ inI n) 1 w (.slice Ar rs.length cr) rs) :
    Calls Tryd.prog 24 #[.agg #[.int .i64 4, .int .i64 a1, .int .i64 a2, .int .i64 a3, .int .i64 a4, .slice Ap lp cp, .slice Ar rs.length cr, .bool b1, .bool b2, .slice Au lu cu, .slice Ab lb cb]] w fun e w' => e = .returned (.tuple #[.bool ((lp : Int) == 1), .agg #[.int .i64 4, .int .i64 a1, .int .i64 a2, .int .i64 a3, .int .i64 a4, .slice none 0 0, .slice Ar rs.length cr, .bool b1, .bool b2, .slice Au lu cu, .slice Ab lb cb]]) ∧ Below w.heap.size w w' := by
  obtain ⟨hA, hZ, hR, hB⟩ := three_blocks w (Obj.cells #[.int .i64 4, .int .i64 a1, .int .i64 a2, .int .i64 a3, .int .i64 a4, .slice Ap lp cp, .slice Ar rs.length cr, .bool b1, .bool b2, .slice Au lu cu, .slice Ab lb cb] 33) (Obj.cells #[.int .i64 0, .int .i64 0, .int .i64 0, .int .i64 0, .int .i64 0, .slice none 0 0, .slice none 0 0, .bool false, .bool false, .slice none 0 0, .slice none 0 0] 33) (Obj.cells #[.int .i64 4, .int .i64 a1, .int .i64 a2, .int .i64 a3, .int .i64 a4, .slice none 0 0, .slice Ar rs.length cr, .bool b1, .bool b2, .slice Au lu cu, .slice Ab lb cb] 33)
  have HA := Lib.hid hA
  have HZ := Lib.hid hZ
  have HR := Lib.hid hR
  have HB := Lib.hid hB
  have HTT := Lib.hid hT
  have HRS := Lib.hid hr
  clear hA hZ hR hB hT hr
  have hmx : Tryd.prog.follows .mixedOrders = true := by kernel_rfl
  go_enter Tryd.func24, Tryd.ntmps24
  go_upto_region 1 with fail
  go_region
  go_wp2_with fail
  generalize hW2 : (((w.alloc (Obj.cells #[.int .i64 4, .int .i64 a1, .int .i64 a2, .int .i64 a3, .int .i64 a4, .slice Ap lp cp, .slice Ar rs.length cr, .bool b1, .bool b2, .slice Au lu cu, .slice Ab lb cb] 33)).alloc (Obj.cells #[.int .i64 0, .int .i64 0, .int .i64 0, .int .i64 0, .int .i64 0, .slice none 0 0, .slice none 0 0, .bool false, .bool false, .slice none 0 0, .slice none 0 0] 33)).alloc (Obj.cells #[.int .i64 4, .int .i64 a1, .int .i64 a2, .int .i64 a3, .int .i64 a4, .slice none 0 0, .slice Ar rs.length cr, .bool b1, .bool b2, .slice Au lu cu, .slice Ab lb cb] 33)).drew = W2 at *
  clear hW2
  obtain ⟨b, hb⟩ : ∃ b, w.heap.size = b := ⟨_, rfl⟩
  rw [hb] at HA HZ HR HB ⊢
  have HBB := Lib.hid hb
  clear hb
  have q0 := kept_cell (nad_cells HR.out 0 _ rfl)
  have q1 := kept_cell (nad_cells HR.out 1 _ rfl)
  have q2 := kept_cell (nad_cells HR.out 2 _ rfl)
  have q3 := kept_cell (nad_cells HR.out 3 _ rfl)
  have q4 := kept_cell (nad_cells HR.out 4 _ rfl)
  have q5 := kept_cell (nad_cells HR.out 5 _ rfl)
  have q6 := kept_cell (nad_cells HR.out 6 _ rfl)
  have q7 := kept_cell (nad_cells HR.out 7 _ rfl)
  have q8 := kept_cell (nad_cells HR.out 8 _ rfl)
  have q9 := kept_cell (nad_cells HR.out 9 _ rfl)
  have q10 := kept_cell (nad_cells HR.out 10 _ rfl)
  refine wp_region_kept_tail 4 hmx (by kernel_rfl) ?_
  simp only [List.take_succ_cons, List.take_zero, List.drop_succ_cons, List.drop_zero]
  repeat (go_big_quiet_step (fail))
  refine wpQuiet_nil ?_
  rintro _ ⟨pw, rfl⟩
  have hZ2 := (pw.h.block (b + 1) (blk_lt HZ.out)).trans HZ.out
  clear q0 q1 q2 q3 q4 q5 q6 q7 q8 q9 q10 
  refine wpList_store_row rfl 33 _ _ rfl (b + 1) #[.int .i64 4, .int .i64 a1, .int .i64 a2, .int .i64 a3, .int .i64 a4, .slice none 0 0, .slice Ar rs.length cr, .bool b1, .bool b2, .slice Au lu cu, .slice Ab lb cb] rfl rfl 33 _ hZ2 (by kernel_rfl) rfl (by simp [Value.oneCell']) ?_
  refine wpList_nil ?_
  have HX := Lib.hid (setRow_heap pw.w' (b + 1) _ #[.int .i64 4, .int .i64 a1, .int .i64 a2, .int .i64 a3, .int .i64 a4, .slice none 0 0, .slice Ar rs.length cr, .bool b1, .bool b2, .slice Au lu cu, .slice Ab lb cb] _ _ hZ2)
  have HY := Lib.hid (below_setRow (B := b) (g := b + 1) (HB.out.trans (pw.h.mono (blk_lt HA.out |> Nat.le_of_lt))) (by omega) #[.int .i64 4, .int .i64 a1, .int .i64 a2, .int .i64 a3, .int .i64 a4, .slice none 0 0, .slice Ar rs.length cr, .bool b1, .bool b2, .slice Au lu cu, .slice Ab lb cb])
  clear hZ2
  generalize pw.w'.setRow (b + 1) #[.int .i64 4, .int .i64 a1, .int .i64 a2, .int .i64 a3, .int .i64 a4, .slice none 0 0, .slice Ar rs.length cr, .bool b1, .bool b2, .slice Au lu cu, .slice Ab lb cb] = W3 at *
  go_wp2_with fail
  refine bodyPost_ret (results_tmp_cell rfl _ _ (b + 1) 33 #[.int .i64 4, .int .i64 a1, .int .i64 a2, .int .i64 a3, .int .i64 a4, .slice none 0 0, .slice Ar rs.length cr, .bool b1, .bool b2, .slice Au lu cu, .slice Ab lb cb] (0, 0) _ rfl HX.out Tryd.underlying33 rfl (by kernel_rfl)) rfl ?_
  exact ⟨by first | rfl |  simp_all, by rw [HBB.out]; exact HY.out⟩

set_option maxRecDepth 100000 in
set_option maxHeartbeats 1000000 in
theorem own_5 (a1 a2 a3 a4 : Int) (Ap : Option Addr) (lp cp : Nat) (Ar : Option Addr) (rs : List Int) (cr : Nat) (b1 b2 : Bool) (Au : Option Addr) (lu cu : Nat) (Ab : Option Addr) (lb cb : Nat) (w : World) (hT : LexTabs w) (hlp : lp ≤ 2000000) (hrs : rs.length ≤ 2000000) (hr : rdS (fun (n : Int) cs => cs = [.int .i64 n] ∧ inI n) 1 w (.slice Ar rs.length cr) rs) :
    Calls Tryd.prog 24 #[.agg #[.int .i64 5, .int .i64 a1, .int .i64 a2, .int .i64 a3, .int .i64 a4, .slice Ap lp cp, .slice Ar rs.length cr, .bool b1, .bool b2, .slice Au lu cu, .slice Ab lb cb]] w fun e w' => e = .returned (.tuple #[.bool ((lp : Int) == 1), .agg #[.int .i64 5, .int .i64 a1, .int .i64 a2, .int .i64 a3, .int .i64 a4, .slice none 0 0, .slice Ar rs.length cr, .bool b1, .bool b2, .slice Au lu cu, .slice Ab lb cb]]) ∧ Below w.heap.size w w' := by
  obtain ⟨hA, hZ, hR, hB⟩ := three_blocks w (Obj.cells #[.int .i64 5, .int .i64 a1, .int .i64 a2, .int .i64 a3, .int .i64 a4, .slice Ap lp cp, .slice Ar rs.length cr, .bool b1, .bool b2, .slice Au lu cu, .slice Ab lb cb] 33) (Obj.cells #[.int .i64 0, .int .i64 0, .int .i64 0, .int .i64 0, .int .i64 0, .slice none 0 0, .slice none 0 0, .bool false, .bool false, .slice none 0 0, .slice none 0 0] 33) (Obj.cells #[.int .i64 5, .int .i64 a1, .int .i64 a2, .int .i64 a3, .int .i64 a4, .slice none 0 0, .slice Ar rs.length cr, .bool b1, .bool b2, .slice Au lu cu, .slice Ab lb cb] 33)
  have HA := Lib.hid hA
  have HZ := Lib.hid hZ
  have HR := Lib.hid hR
  have HB := Lib.hid hB
  have HTT := Lib.hid hT
  have HRS := Lib.hid hr
  clear hA hZ hR hB hT hr
  have hmx : Tryd.prog.follows .mixedOrders = true := by kernel_rfl
  go_enter Tryd.func24, Tryd.ntmps24
  go_upto_region 1 with fail
  go_region
  go_wp2_with fail
  generalize hW2 : (((w.alloc (Obj.cells #[.int .i64 5, .int .i64 a1, .int .i64 a2, .int .i64 a3, .int .i64 a4, .slice Ap lp cp, .slice Ar rs.length cr, .bool b1, .bool b2, .slice Au lu cu, .slice Ab lb cb] 33)).alloc (Obj.cells #[.int .i64 0, .int .i64 0, .int .i64 0, .int .i64 0, .int .i64 0, .slice none 0 0, .slice none 0 0, .bool false, .bool false, .slice none 0 0, .slice none 0 0] 33)).alloc (Obj.cells #[.int .i64 5, .int .i64 a1, .int .i64 a2, .int .i64 a3, .int .i64 a4, .slice none 0 0, .slice Ar rs.length cr, .bool b1, .bool b2, .slice Au lu cu, .slice Ab lb cb] 33)).drew = W2 at *
  clear hW2
  obtain ⟨b, hb⟩ : ∃ b, w.heap.size = b := ⟨_, rfl⟩
  rw [hb] at HA HZ HR HB ⊢
  have HBB := Lib.hid hb
  clear hb
  have q0 := kept_cell (nad_cells HR.out 0 _ rfl)
  have q1 := kept_cell (nad_cells HR.out 1 _ rfl)
  have q2 := kept_cell (nad_cells HR.out 2 _ rfl)
  have q3 := kept_cell (nad_cells HR.out 3 _ rfl)
  have q4 := kept_cell (nad_cells HR.out 4 _ rfl)
  have q5 := kept_cell (nad_cells HR.out 5 _ rfl)
  have q6 := kept_cell (nad_cells HR.out 6 _ rfl)
  have q7 := kept_cell (nad_cells HR.out 7 _ rfl)
  have q8 := kept_cell (nad_cells HR.out 8 _ rfl)
  have q9 := kept_cell (nad_cells HR.out 9 _ rfl)
  have q10 := kept_cell (nad_cells HR.out 10 _ rfl)
  refine wp_region_kept_tail 4 hmx (by kernel_rfl) ?_
  simp only [List.take_succ_cons, List.take_zero, List.drop_succ_cons, List.drop_zero]
  repeat (go_big_quiet_step (fail))
  refine wpQuiet_nil ?_
  rintro _ ⟨pw, rfl⟩
  have hZ2 := (pw.h.block (b + 1) (blk_lt HZ.out)).trans HZ.out
  clear q0 q1 q2 q3 q4 q5 q6 q7 q8 q9 q10 
  refine wpList_store_row rfl 33 _ _ rfl (b + 1) #[.int .i64 5, .int .i64 a1, .int .i64 a2, .int .i64 a3, .int .i64 a4, .slice none 0 0, .slice Ar rs.length cr, .bool b1, .bool b2, .slice Au lu cu, .slice Ab lb cb] rfl rfl 33 _ hZ2 (by kernel_rfl) rfl (by simp [Value.oneCell']) ?_
  refine wpList_nil ?_
  have HX := Lib.hid (setRow_heap pw.w' (b + 1) _ #[.int .i64 5, .int .i64 a1, .int .i64 a2, .int .i64 a3, .int .i64 a4, .slice none 0 0, .slice Ar rs.length cr, .bool b1, .bool b2, .slice Au lu cu, .slice Ab lb cb] _ _ hZ2)
  have HY := Lib.hid (below_setRow (B := b) (g := b + 1) (HB.out.trans (pw.h.mono (blk_lt HA.out |> Nat.le_of_lt))) (by omega) #[.int .i64 5, .int .i64 a1, .int .i64 a2, .int .i64 a3, .int .i64 a4, .slice none 0 0, .slice Ar rs.length cr, .bool b1, .bool b2, .slice Au lu cu, .slice Ab lb cb])
  clear hZ2
  generalize pw.w'.setRow (b + 1) #[.int .i64 5, .int .i64 a1, .int .i64 a2, .int .i64 a3, .int .i64 a4, .slice none 0 0, .slice Ar rs.length cr, .bool b1, .bool b2, .slice Au lu cu, .slice Ab lb cb] = W3 at *
  go_wp2_with fail
  refine bodyPost_ret (results_tmp_cell rfl _ _ (b + 1) 33 #[.int .i64 5, .int .i64 a1, .int .i64 a2, .int .i64 a3, .int .i64 a4, .slice none 0 0, .slice Ar rs.length cr, .bool b1, .bool b2, .slice Au lu cu, .slice Ab lb cb] (0, 0) _ rfl HX.out Tryd.underlying33 rfl (by kernel_rfl)) rfl ?_
  exact ⟨by first | rfl |  simp_all, by rw [HBB.out]; exact HY.out⟩

set_option maxRecDepth 100000 in
set_option maxHeartbeats 1000000 in
theorem own_9 (a1 a2 a3 a4 : Int) (Ap : Option Addr) (lp cp : Nat) (Ar : Option Addr) (rs : List Int) (cr : Nat) (b1 b2 : Bool) (Au : Option Addr) (lu cu : Nat) (Ab : Option Addr) (lb cb : Nat) (w : World) (hT : LexTabs w) (hlp : lp ≤ 2000000) (hrs : rs.length ≤ 2000000) (hr : rdS (fun (n : Int) cs => cs = [.int .i64 n] ∧ inI n) 1 w (.slice Ar rs.length cr) rs) :
    Calls Tryd.prog 24 #[.agg #[.int .i64 9, .int .i64 a1, .int .i64 a2, .int .i64 a3, .int .i64 a4, .slice Ap lp cp, .slice Ar rs.length cr, .bool b1, .bool b2, .slice Au lu cu, .slice Ab lb cb]] w fun e w' => e = .returned (.tuple #[.bool ((lp : Int) == 1), .agg #[.int .i64 9, .int .i64 a1, .int .i64 a2, .int .i64 a3, .int .i64 a4, .slice none 0 0, .slice Ar rs.length cr, .bool b1, .bool b2, .slice Au lu cu, .slice Ab lb cb]]) ∧ Below w.heap.size w w' := by
  obtain ⟨hA, hZ, hR, hB⟩ := three_blocks w (Obj.cells #[.int .i64 9, .int .i64 a1, .int .i64 a2, .int .i64 a3, .int .i64 a4, .slice Ap lp cp, .slice Ar rs.length cr, .bool b1, .bool b2, .slice Au lu cu, .slice Ab lb cb] 33) (Obj.cells #[.int .i64 0, .int .i64 0, .int .i64 0, .int .i64 0, .int .i64 0, .slice none 0 0, .slice none 0 0, .bool false, .bool false, .slice none 0 0, .slice none 0 0] 33) (Obj.cells #[.int .i64 9, .int .i64 a1, .int .i64 a2, .int .i64 a3, .int .i64 a4, .slice none 0 0, .slice Ar rs.length cr, .bool b1, .bool b2, .slice Au lu cu, .slice Ab lb cb] 33)
  have HA := Lib.hid hA
  have HZ := Lib.hid hZ
  have HR := Lib.hid hR
  have HB := Lib.hid hB
  have HTT := Lib.hid hT
  have HRS := Lib.hid hr
  clear hA hZ hR hB hT hr
  have hmx : Tryd.prog.follows .mixedOrders = true := by kernel_rfl
  go_enter Tryd.func24, Tryd.ntmps24
  go_upto_region 1 with fail
  go_region
  go_wp2_with fail
  generalize hW2 : (((w.alloc (Obj.cells #[.int .i64 9, .int .i64 a1, .int .i64 a2, .int .i64 a3, .int .i64 a4, .slice Ap lp cp, .slice Ar rs.length cr, .bool b1, .bool b2, .slice Au lu cu, .slice Ab lb cb] 33)).alloc (Obj.cells #[.int .i64 0, .int .i64 0, .int .i64 0, .int .i64 0, .int .i64 0, .slice none 0 0, .slice none 0 0, .bool false, .bool false, .slice none 0 0, .slice none 0 0] 33)).alloc (Obj.cells #[.int .i64 9, .int .i64 a1, .int .i64 a2, .int .i64 a3, .int .i64 a4, .slice none 0 0, .slice Ar rs.length cr, .bool b1, .bool b2, .slice Au lu cu, .slice Ab lb cb] 33)).drew = W2 at *
  clear hW2
  obtain ⟨b, hb⟩ : ∃ b, w.heap.size = b := ⟨_, rfl⟩
  rw [hb] at HA HZ HR HB ⊢
  have HBB := Lib.hid hb
  clear hb
  have q0 := kept_cell (nad_cells HR.out 0 _ rfl)
  have q1 := kept_cell (nad_cells HR.out 1 _ rfl)
  have q2 := kept_cell (nad_cells HR.out 2 _ rfl)
  have q3 := kept_cell (nad_cells HR.out 3 _ rfl)
  have q4 := kept_cell (nad_cells HR.out 4 _ rfl)
  have q5 := kept_cell (nad_cells HR.out 5 _ rfl)
  have q6 := kept_cell (nad_cells HR.out 6 _ rfl)
  have q7 := kept_cell (nad_cells HR.out 7 _ rfl)
  have q8 := kept_cell (nad_cells HR.out 8 _ rfl)
  have q9 := kept_cell (nad_cells HR.out 9 _ rfl)
  have q10 := kept_cell (nad_cells HR.out 10 _ rfl)
  refine wp_region_kept_tail 4 hmx (by kernel_rfl) ?_
  simp only [List.take_succ_cons, List.take_zero, List.drop_succ_cons, List.drop_zero]
  repeat (go_big_quiet_step (fail))
  refine wpQuiet_nil ?_
  rintro _ ⟨pw, rfl⟩
  have hZ2 := (pw.h.block (b + 1) (blk_lt HZ.out)).trans HZ.out
  clear q0 q1 q2 q3 q4 q5 q6 q7 q8 q9 q10 
  refine wpList_store_row rfl 33 _ _ rfl (b + 1) #[.int .i64 9, .int .i64 a1, .int .i64 a2, .int .i64 a3, .int .i64 a4, .slice none 0 0, .slice Ar rs.length cr, .bool b1, .bool b2, .slice Au lu cu, .slice Ab lb cb] rfl rfl 33 _ hZ2 (by kernel_rfl) rfl (by simp [Value.oneCell']) ?_
  refine wpList_nil ?_
  have HX := Lib.hid (setRow_heap pw.w' (b + 1) _ #[.int .i64 9, .int .i64 a1, .int .i64 a2, .int .i64 a3, .int .i64 a4, .slice none 0 0, .slice Ar rs.length cr, .bool b1, .bool b2, .slice Au lu cu, .slice Ab lb cb] _ _ hZ2)
  have HY := Lib.hid (below_setRow (B := b) (g := b + 1) (HB.out.trans (pw.h.mono (blk_lt HA.out |> Nat.le_of_lt))) (by omega) #[.int .i64 9, .int .i64 a1, .int .i64 a2, .int .i64 a3, .int .i64 a4, .slice none 0 0, .slice Ar rs.length cr, .bool b1, .bool b2, .slice Au lu cu, .slice Ab lb cb])
  clear hZ2
  generalize pw.w'.setRow (b + 1) #[.int .i64 9, .int .i64 a1, .int .i64 a2, .int .i64 a3, .int .i64 a4, .slice none 0 0, .slice Ar rs.length cr, .bool b1, .bool b2, .slice Au lu cu, .slice Ab lb cb] = W3 at *
  go_wp2_with fail
  refine bodyPost_ret (results_tmp_cell rfl _ _ (b + 1) 33 #[.int .i64 9, .int .i64 a1, .int .i64 a2, .int .i64 a3, .int .i64 a4, .slice none 0 0, .slice Ar rs.length cr, .bool b1, .bool b2, .slice Au lu cu, .slice Ab lb cb] (0, 0) _ rfl HX.out Tryd.underlying33 rfl (by kernel_rfl)) rfl ?_
  exact ⟨by first | rfl |  simp_all, by rw [HBB.out]; exact HY.out⟩

set_option maxRecDepth 100000 in
set_option maxHeartbeats 1000000 in
theorem own_3 (a1 a2 a3 a4 : Int) (Ap : Option Addr) (lp cp : Nat) (Ar : Option Addr) (rs : List Int) (cr : Nat) (b1 b2 : Bool) (Au : Option Addr) (lu cu : Nat) (Ab : Option Addr) (lb cb : Nat) (w : World) (hT : LexTabs w) (hlp : lp ≤ 2000000) (hrs : rs.length ≤ 2000000) (hr : rdS (fun (n : Int) cs => cs = [.int .i64 n] ∧ inI n) 1 w (.slice Ar rs.length cr) rs) :
    Calls Tryd.prog 24 #[.agg #[.int .i64 3, .int .i64 a1, .int .i64 a2, .int .i64 a3, .int .i64 a4, .slice Ap lp cp, .slice Ar rs.length cr, .bool b1, .bool b2, .slice Au lu cu, .slice Ab lb cb]] w fun e w' => e = .returned (.tuple #[.bool (((lp : Int) == 1) || ((lp : Int) == 2)), .agg #[.int .i64 3, .int .i64 a1, .int .i64 a2, .int .i64 a3, .int .i64 a4, .slice none 0 0, .slice Ar rs.length cr, .bool b1, .bool b2, .slice Au lu cu, .slice Ab lb cb]]) ∧ Below w.heap.size w w' := by
  obtain ⟨hA, hZ, hR, hB⟩ := three_blocks w (Obj.cells #[.int .i64 3, .int .i64 a1, .int .i64 a2, .int .i64 a3, .int .i64 a4, .slice Ap lp cp, .slice Ar rs.length cr, .bool b1, .bool b2, .slice Au lu cu, .slice Ab lb cb] 33) (Obj.cells #[.int .i64 0, .int .i64 0, .int .i64 0, .int .i64 0, .int .i64 0, .slice none 0 0, .slice none 0 0, .bool false, .bool false, .slice none 0 0, .slice none 0 0] 33) (Obj.cells #[.int .i64 3, .int .i64 a1, .int .i64 a2, .int .i64 a3, .int .i64 a4, .slice none 0 0, .slice Ar rs.length cr, .bool b1, .bool b2, .slice Au lu cu, .slice Ab lb cb] 33)
  have HA := Lib.hid hA
  have HZ := Lib.hid hZ
  have HR := Lib.hid hR
  have HB := Lib.hid hB
  have HTT := Lib.hid hT
  have HRS := Lib.hid hr
  clear hA hZ hR hB hT hr
  have hmx : Tryd.prog.follows .mixedOrders = true := by kernel_rfl
  cases e1 : ((lp : Int) == 1)
  ·
    go_enter Tryd.func24, Tryd.ntmps24
    go_upto_region 1 with fail
    go_region
    go_wp2_with fail
    generalize hW2 : (((w.alloc (Obj.cells #[.int .i64 3, .int .i64 a1, .int .i64 a2, .int .i64 a3, .int .i64 a4, .slice Ap lp cp, .slice Ar rs.length cr, .bool b1, .bool b2, .slice Au lu cu, .slice Ab lb cb] 33)).alloc (Obj.cells #[.int .i64 0, .int .i64 0, .int .i64 0, .int .i64 0, .int .i64 0, .slice none 0 0, .slice none 0 0, .bool false, .bool false, .slice none 0 0, .slice none 0 0] 33)).alloc (Obj.cells #[.int .i64 3, .int .i64 a1, .int .i64 a2, .int .i64 a3, .int .i64 a4, .slice none 0 0, .slice Ar rs.length cr, .bool b1, .bool b2, .slice Au lu cu, .slice Ab lb cb] 33)).drew = W2 at *
    clear hW2
    obtain ⟨b, hb⟩ : ∃ b, w.heap.size = b := ⟨_, rfl⟩
    rw [hb] at HA HZ HR HB ⊢
    have HBB := Lib.hid hb
    clear hb
    have q0 := kept_cell (nad_cells HR.out 0 _ rfl)
    have q1 := kept_cell (nad_cells HR.out 1 _ rfl)
    have q2 := kept_cell (nad_cells HR.out 2 _ rfl)
    have q3 := kept_cell (nad_cells HR.out 3 _ rfl)
    have q4 := kept_cell (nad_cells HR.out 4 _ rfl)
    have q5 := kept_cell (nad_cells HR.out 5 _ rfl)
    have q6 := kept_cell (nad_cells HR.out 6 _ rfl)
    have q7 := kept_cell (nad_cells HR.out 7 _ rfl)
    have q8 := kept_cell (nad_cells HR.out 8 _ rfl)
    have q9 := kept_cell (nad_cells HR.out 9 _ rfl)
    have q10 := kept_cell (nad_cells HR.out 10 _ rfl)
    refine wp_region_kept_tail 8 hmx (by kernel_rfl) ?_
    simp only [List.take_succ_cons, List.take_zero, List.drop_succ_cons, List.drop_zero]
    repeat (go_big_quiet_step (fail))
    refine wpQuiet_nil ?_
    rintro _ ⟨pw, rfl⟩
    have hZ2 := (pw.h.block (b + 1) (blk_lt HZ.out)).trans HZ.out
    clear q0 q1 q2 q3 q4 q5 q6 q7 q8 q9 q10 
    refine wpList_store_row rfl 33 _ _ rfl (b + 1) #[.int .i64 3, .int .i64 a1, .int .i64 a2, .int .i64 a3, .int .i64 a4, .slice none 0 0, .slice Ar rs.length cr, .bool b1, .bool b2, .slice Au lu cu, .slice Ab lb cb] rfl rfl 33 _ hZ2 (by kernel_rfl) rfl (by simp [Value.oneCell']) ?_
    refine wpList_nil ?_
    have HX := Lib.hid (setRow_heap pw.w' (b + 1) _ #[.int .i64 3, .int .i64 a1, .int .i64 a2, .int .i64 a3, .int .i64 a4, .slice none 0 0, .slice Ar rs.length cr, .bool b1, .bool b2, .slice Au lu cu, .slice Ab lb cb] _ _ hZ2)
    have HY := Lib.hid (below_setRow (B := b) (g := b + 1) (HB.out.trans (pw.h.mono (blk_lt HA.out |> Nat.le_of_lt))) (by omega) #[.int .i64 3, .int .i64 a1, .int .i64 a2, .int .i64 a3, .int .i64 a4, .slice none 0 0, .slice Ar rs.length cr, .bool b1, .bool b2, .slice Au lu cu, .slice Ab lb cb])
    clear hZ2
    generalize pw.w'.setRow (b + 1) #[.int .i64 3, .int .i64 a1, .int .i64 a2, .int .i64 a3, .int .i64 a4, .slice none 0 0, .slice Ar rs.length cr, .bool b1, .bool b2, .slice Au lu cu, .slice Ab lb cb] = W3 at *
    go_wp2_with fail
    refine bodyPost_ret (results_tmp_cell rfl _ _ (b + 1) 33 #[.int .i64 3, .int .i64 a1, .int .i64 a2, .int .i64 a3, .int .i64 a4, .slice none 0 0, .slice Ar rs.length cr, .bool b1, .bool b2, .slice Au lu cu, .slice Ab lb cb] (0, 0) _ rfl HX.out Tryd.underlying33 rfl (by kernel_rfl)) rfl ?_
    exact ⟨by first | rfl |  simp_all, by rw [HBB.out]; exact HY.out⟩
  ·
    go_enter Tryd.func24, Tryd.ntmps24
    go_upto_region 1 with fail
    go_region
    go_wp2_with fail
    generalize hW2 : (((w.alloc (Obj.cells #[.int .i64 3, .int .i64 a1, .int .i64 a2, .int .i64 a3, .int .i64 a4, .slice Ap lp cp, .slice Ar rs.length cr, .bool b1, .bool b2, .slice Au lu cu, .slice Ab lb cb] 33)).alloc (Obj.cells #[.int .i64 0, .int .i64 0, .int .i64 0, .int .i64 0, .int .i64 0, .slice none 0 0, .slice none 0 0, .bool false, .bool false, .slice none 0 0, .slice none 0 0] 33)).alloc (Obj.cells #[.int .i64 3, .int .i64 a1, .int .i64 a2, .int .i64 a3, .int .i64 a4, .slice none 0 0, .slice Ar rs.length cr, .bool b1, .bool b2, .slice Au lu cu, .slice Ab lb cb] 33)).drew = W2 at *
    clear hW2
    obtain ⟨b, hb⟩ : ∃ b, w.heap.size = b := ⟨_, rfl⟩
    rw [hb] at HA HZ HR HB ⊢
    have HBB := Lib.hid hb
    clear hb
    have q0 := kept_cell (nad_cells HR.out 0 _ rfl)
    have q1 := kept_cell (nad_cells HR.out 1 _ rfl)
    have q2 := kept_cell (nad_cells HR.out 2 _ rfl)
    have q3 := kept_cell (nad_cells HR.out 3 _ rfl)
    have q4 := kept_cell (nad_cells HR.out 4 _ rfl)
    have q5 := kept_cell (nad_cells HR.out 5 _ rfl)
    have q6 := kept_cell (nad_cells HR.out 6 _ rfl)
    have q7 := kept_cell (nad_cells HR.out 7 _ rfl)
    have q8 := kept_cell (nad_cells HR.out 8 _ rfl)
    have q9 := kept_cell (nad_cells HR.out 9 _ rfl)
    have q10 := kept_cell (nad_cells HR.out 10 _ rfl)
    refine wp_region_kept_tail 8 hmx (by kernel_rfl) ?_
    simp only [List.take_succ_cons, List.take_zero, List.drop_succ_cons, List.drop_zero]
    repeat (go_big_quiet_step (fail))
    refine wpQuiet_nil ?_
    rintro _ ⟨pw, rfl⟩
    have hZ2 := (pw.h.block (b + 1) (blk_lt HZ.out)).trans HZ.out
    clear q0 q1 q2 q3 q4 q5 q6 q7 q8 q9 q10 
    refine wpList_store_row rfl 33 _ _ rfl (b + 1) #[.int .i64 3, .int .i64 a1, .int .i64 a2, .int .i64 a3, .int .i64 a4, .slice none 0 0, .slice Ar rs.length cr, .bool b1, .bool b2, .slice Au lu cu, .slice Ab lb cb] rfl rfl 33 _ hZ2 (by kernel_rfl) rfl (by simp [Value.oneCell']) ?_
    refine wpList_nil ?_
    have HX := Lib.hid (setRow_heap pw.w' (b + 1) _ #[.int .i64 3, .int .i64 a1, .int .i64 a2, .int .i64 a3, .int .i64 a4, .slice none 0 0, .slice Ar rs.length cr, .bool b1, .bool b2, .slice Au lu cu, .slice Ab lb cb] _ _ hZ2)
    have HY := Lib.hid (below_setRow (B := b) (g := b + 1) (HB.out.trans (pw.h.mono (blk_lt HA.out |> Nat.le_of_lt))) (by omega) #[.int .i64 3, .int .i64 a1, .int .i64 a2, .int .i64 a3, .int .i64 a4, .slice none 0 0, .slice Ar rs.length cr, .bool b1, .bool b2, .slice Au lu cu, .slice Ab lb cb])
    clear hZ2
    generalize pw.w'.setRow (b + 1) #[.int .i64 3, .int .i64 a1, .int .i64 a2, .int .i64 a3, .int .i64 a4, .slice none 0 0, .slice Ar rs.length cr, .bool b1, .bool b2, .slice Au lu cu, .slice Ab lb cb] = W3 at *
    go_wp2_with fail
    refine bodyPost_ret (results_tmp_cell rfl _ _ (b + 1) 33 #[.int .i64 3, .int .i64 a1, .int .i64 a2, .int .i64 a3, .int .i64 a4, .slice none 0 0, .slice Ar rs.length cr, .bool b1, .bool b2, .slice Au lu cu, .slice Ab lb cb] (0, 0) _ rfl HX.out Tryd.underlying33 rfl (by kernel_rfl)) rfl ?_
    exact ⟨by first | rfl |  simp_all, by rw [HBB.out]; exact HY.out⟩

set_option maxRecDepth 100000 in
set_option maxHeartbeats 1000000 in
theorem own_2 (a1 a2 a3 a4 : Int) (Ap : Option Addr) (lp cp : Nat) (Ar : Option Addr) (rs : List Int) (cr : Nat) (b1 b2 : Bool) (Au : Option Addr) (lu cu : Nat) (Ab : Option Addr) (lb cb : Nat) (w : World) (hT : LexTabs w) (hlp : lp ≤ 2000000) (hrs : rs.length ≤ 2000000) (hr : rdS (fun (n : Int) cs => cs = [.int .i64 n] ∧ inI n) 1 w (.slice Ar rs.length cr) rs) :
    Calls Tryd.prog 24 #[.agg #[.int .i64 2, .int .i64 a1, .int .i64 a2, .int .i64 a3, .int .i64 a4, .slice Ap lp cp, .slice Ar rs.length cr, .bool b1, .bool b2, .slice Au lu cu, .slice Ab lb cb]] w fun e w' => e = .returned (.tuple #[.bool (((lp : Int) == 2) && ((a3 == 0) || (a3 == 1))), .agg #[.int .i64 2, .int .i64 a1, .int .i64 a2, .int .i64 0, .int .i64 a4, .slice none 0 0, .slice Ar rs.length cr, .bool b1, .bool b2, .slice Au lu cu, .slice Ab lb cb]]) ∧ Below w.heap.size w w' := by
  obtain ⟨hA, hZ, hR, hB⟩ := three_blocks w (Obj.cells #[.int .i64 2, .int .i64 a1, .int .i64 a2, .int .i64 a3, .int .i64 a4, .slice Ap lp cp, .slice Ar rs.length cr, .bool b1, .bool b2, .slice Au lu cu, .slice Ab lb cb] 33) (Obj.cells #[.int .i64 0, .int .i64 0, .int .i64 0, .int .i64 0, .int .i64 0, .slice none 0 0, .slice none 0 0, .bool false, .bool false, .slice none 0 0, .slice none 0 0] 33) (Obj.cells #[.int .i64 2, .int .i64 a1, .int .i64 a2, .int .i64 0, .int .i64 a4, .slice none 0 0, .slice Ar rs.length cr, .bool b1, .bool b2, .slice Au lu cu, .slice Ab lb cb] 33)
  have HA := Lib.hid hA
  have HZ := Lib.hid hZ
  have HR := Lib.hid hR
  have HB := Lib.hid hB
  have HTT := Lib.hid hT
  have HRS := Lib.hid hr
  clear hA hZ hR hB hT hr
  have hmx : Tryd.prog.follows .mixedOrders = true := by kernel_rfl
  cases e1 : ((lp : Int) == 2)
  ·
    go_enter Tryd.func24, Tryd.ntmps24
    go_upto_region 1 with fail
    go_region
    go_wp2_with fail
    generalize hW2 : (((w.alloc (Obj.cells #[.int .i64 2, .int .i64 a1, .int .i64 a2, .int .i64 a3, .int .i64 a4, .slice Ap lp cp, .slice Ar rs.length cr, .bool b1, .bool b2, .slice Au lu cu, .slice Ab lb cb] 33)).alloc (Obj.cells #[.int .i64 0, .int .i64 0, .int .i64 0, .int .i64 0, .int .i64 0, .slice none 0 0, .slice none 0 0, .bool false, .bool false, .slice none 0 0, .slice none 0 0] 33)).alloc (Obj.cells #[.int .i64 2, .int .i64 a1, .int .i64 a2, .int .i64 0, .int .i64 a4, .slice none 0 0, .slice Ar rs.length cr, .bool b1, .bool b2, .slice Au lu cu, .slice Ab lb cb] 33)).drew = W2 at *
    clear hW2
    obtain ⟨b, hb⟩ : ∃ b, w.heap.size = b := ⟨_, rfl⟩
    rw [hb] at HA HZ HR HB ⊢
    have HBB := Lib.hid hb
    clear hb
    have q0 := kept_cell (nad_cells HR.out 0 _ rfl)
    have q1 := kept_cell (nad_cells HR.out 1 _ rfl)
    have q2 := kept_cell (nad_cells HR.out 2 _ rfl)
    have q3 := kept_cell (nad_cells HR.out 3 _ rfl)
    have q4 := kept_cell (nad_cells HR.out 4 _ rfl)
    have q5 := kept_cell (nad_cells HR.out 5 _ rfl)
    have q6 := kept_cell (nad_cells HR.out 6 _ rfl)
    have q7 := kept_cell (nad_cells HR.out 7 _ rfl)
    have q8 := kept_cell (nad_cells HR.out 8 _ rfl)
    have q9 := kept_cell (nad_cells HR.out 9 _ rfl)
    have q10 := kept_cell (nad_cells HR.out 10 _ rfl)
    have r3 := kept_cell (nad_cells HA.out 3 _ rfl)
    refine wp_region_kept_tail 14 hmx (by kernel_rfl) ?_
    simp only [List.take_succ_cons, List.take_zero, List.drop_succ_cons, List.drop_zero]
    repeat (go_big_quiet_step (fail))
    refine wpQuiet_nil ?_
    rintro _ ⟨pw, rfl⟩
    have hZ2 := (pw.h.block (b + 1) (blk_lt HZ.out)).trans HZ.out
    clear q0 q1 q2 q3 q4 q5 q6 q7 q8 q9 q10 r3
    refine wpList_store_row rfl 33 _ _ rfl (b + 1) #[.int .i64 2, .int .i64 a1, .int .i64 a2, .int .i64 0, .int .i64 a4, .slice none 0 0, .slice Ar rs.length cr, .bool b1, .bool b2, .slice Au lu cu, .slice Ab lb cb] rfl rfl 33 _ hZ2 (by kernel_rfl) rfl (by simp [Value.oneCell']) ?_
    refine wpList_nil ?_
    have HX := Lib.hid (setRow_heap pw.w' (b + 1) _ #[.int .i64 2, .int .i64 a1, .int .i64 a2, .int .i64 0, .int .i64 a4, .slice none 0 0, .slice Ar rs.length cr, .bool b1, .bool b2, .slice Au lu cu, .slice Ab lb cb] _ _ hZ2)
    have HY := Lib.hid (below_setRow (B := b) (g := b + 1) (HB.out.trans (pw.h.mono (blk_lt HA.out |> Nat.le_of_lt))) (by omega) #[.int .i64 2, .int .i64 a1, .int .i64 a2, .int .i64 0, .int .i64 a4, .slice none 0 0, .slice Ar rs.length cr, .bool b1, .bool b2, .slice Au lu cu, .slice Ab lb cb])
    clear hZ2
    generalize pw.w'.setRow (b + 1) #[.int .i64 2, .int .i64 a1, .int .i64 a2, .int .i64 0, .int .i64 a4, .slice none 0 0, .slice Ar rs.length cr, .bool b1, .bool b2, .slice Au lu cu, .slice Ab lb cb] = W3 at *
    go_wp2_with fail
    refine bodyPost_ret (results_tmp_cell rfl _ _ (b + 1) 33 #[.int .i64 2, .int .i64 a1, .int .i64 a2, .int .i64 0, .int .i64 a4, .slice none 0 0, .slice Ar rs.length cr, .bool b1, .bool b2, .slice Au lu cu, .slice Ab lb cb] (0, 0) _ rfl HX.out Tryd.underlying33 rfl (by kernel_rfl)) rfl ?_
    exact ⟨by first | rfl |  simp_all, by rw [HBB.out]; exact HY.out⟩
  ·
    cases e2 : (a3 == 0)
    ·
      go_enter Tryd.func24, Tryd.ntmps24
      go_upto_region 1 with fail
      go_region
      go_wp2_with fail
      generalize hW2 : (((w.alloc (Obj.cells #[.int .i64 2, .int .i64 a1, .int .i64 a2, .int .i64 a3, .int .i64 a4, .slice Ap lp cp, .slice Ar rs.length cr, .bool b1, .bool b2, .slice Au lu cu, .slice Ab lb cb] 33)).alloc (Obj.cells #[.int .i64 0, .int .i64 0, .int .i64 0, .int .i64 0, .int .i64 0, .slice none 0 0, .slice none 0 0, .bool false, .bool false, .slice none 0 0, .slice none 0 0] 33)).alloc (Obj.cells #[.int .i64 2, .int .i64 a1, .int .i64 a2, .int .i64 0, .int .i64 a4, .slice none 0 0, .slice Ar rs.length cr, .bool b1, .bool b2, .slice Au lu cu, .slice Ab lb cb] 33)).drew = W2 at *
      clear hW2
      obtain ⟨b, hb⟩ : ∃ b, w.heap.size = b := ⟨_, rfl⟩
      rw [hb] at HA HZ HR HB ⊢
      have HBB := Lib.hid hb
      clear hb
      have q0 := kept_cell (nad_cells HR.out 0 _ rfl)
      have q1 := kept_cell (nad_cells HR.out 1 _ rfl)
      have q2 := kept_cell (nad_cells HR.out 2 _ rfl)
      have q3 := kept_cell (nad_cells HR.out 3 _ rfl)
      have q4 := kept_cell (nad_cells HR.out 4 _ rfl)
      have q5 := kept_cell (nad_cells HR.out 5 _ rfl)
      have q6 := kept_cell (nad_cells HR.out 6 _ rfl)
      have q7 := kept_cell (nad_cells HR.out 7 _ rfl)
      have q8 := kept_cell (nad_cells HR.out 8 _ rfl)
      have q9 := kept_cell (nad_cells HR.out 9 _ rfl)
      have q10 := kept_cell (nad_cells HR.out 10 _ rfl)
      have r3 := kept_cell (nad_cells HA.out 3 _ rfl)
      refine wp_region_kept_tail 14 hmx (by kernel_rfl) ?_
      simp only [List.take_succ_cons, List.take_zero, List.drop_succ_cons, List.drop_zero]
      repeat (go_big_quiet_step (fail))
      refine wpQuiet_nil ?_
      rintro _ ⟨pw, rfl⟩
      have hZ2 := (pw.h.block (b + 1) (blk_lt HZ.out)).trans HZ.out
      clear q0 q1 q2 q3 q4 q5 q6 q7 q8 q9 q10 r3
      refine wpList_store_row rfl 33 _ _ rfl (b + 1) #[.int .i64 2, .int .i64 a1, .int .i64 a2, .int .i64 0, .int .i64 a4, .slice none 0 0, .slice Ar rs.length cr, .bool b1, .bool b2, .slice Au lu cu, .slice Ab lb cb] rfl rfl 33 _ hZ2 (by kernel_rfl) rfl (by simp [Value.oneCell']) ?_
      refine wpList_nil ?_
      have HX := Lib.hid (setRow_heap pw.w' (b + 1) _ #[.int .i64 2, .int .i64 a1, .int .i64 a2, .int .i64 0, .int .i64 a4, .slice none 0 0, .slice Ar rs.length cr, .bool b1, .bool b2, .slice Au lu cu, .slice Ab lb cb] _ _ hZ2)
      have HY := Lib.hid (below_setRow (B := b) (g := b + 1) (HB.out.trans (pw.h.mono (blk_lt HA.out |> Nat.le_of_lt))) (by omega) #[.int .i64 2, .int .i64 a1, .int .i64 a2, .int .i64 0, .int .i64 a4, .slice none 0 0, .slice Ar rs.length cr, .bool b1, .bool b2, .slice Au lu cu, .slice Ab lb cb])
      clear hZ2
      generalize pw.w'.setRow (b + 1) #[.int .i64 2, .int .i64 a1, .int .i64 a2, .int .i64 0, .int .i64 a4, .slice none 0 0, .slice Ar rs.length cr, .bool b1, .bool b2, .slice Au lu cu, .slice Ab lb cb] = W3 at *
      go_wp2_with fail
      refine bodyPost_ret (results_tmp_cell rfl _ _ (b + 1) 33 #[.int .i64 2, .int .i64 a1, .int .i64 a2, .int .i64 0, .int .i64 a4, .slice none 0 0, .slice Ar rs.length cr, .bool b1, .bool b2, .slice Au lu cu, .slice Ab lb cb] (0, 0) _ rfl HX.out Tryd.underlying33 rfl (by kernel_rfl)) rfl ?_
      exact ⟨by first | rfl |  simp_all, by rw [HBB.out]; exact HY.out⟩
    ·
      go_enter Tryd.func24, Tryd.ntmps24
      go_upto_region 1 with fail
      go_region
      go_wp2_with fail
      generalize hW2 : (((w.alloc (Obj.cells #[.int .i64 2, .int .i64 a1, .int .i64 a2, .int .i64 a3, .int .i64 a4, .slice Ap lp cp, .slice Ar rs.length cr, .bool b1, .bool b2, .slice Au lu cu, .slice Ab lb cb] 33)).alloc (Obj.cells #[.int .i64 0, .int .i64 0, .int .i64 0, .int .i64 0, .int .i64 0, .slice none 0 0, .slice none 0 0, .bool false, .bool false, .slice none 0 0, .slice none 0 0] 33)).alloc (Obj.cells #[.int .i64 2, .int .i64 a1, .int .i64 a2, .int .i64 0, .int .i64 a4, .slice none 0 0, .slice Ar rs.length cr, .bool b1, .bool b2, .slice Au lu cu, .slice Ab lb cb] 33)).drew = W2 at *
      clear hW2
      obtain ⟨b, hb⟩ : ∃ b, w.heap.size = b := ⟨_, rfl⟩
      rw [hb] at HA HZ HR HB ⊢
      have HBB := Lib.hid hb
      clear hb
      have q0 := kept_cell (nad_cells HR.out 0 _ rfl)
      have q1 := kept_cell (nad_cells HR.out 1 _ rfl)
      have q2 := kept_cell (nad_cells HR.out 2 _ rfl)
      have q3 := kept_cell (nad_cells HR.out 3 _ rfl)
      have q4 := kept_cell (nad_cells HR.out 4 _ rfl)
      have q5 := kept_cell (nad_cells HR.out 5 _ rfl)
      have q6 := kept_cell (nad_cells HR.out 6 _ rfl)
      have q7 := kept_cell (nad_cells HR.out 7 _ rfl)
      have q8 := kept_cell (nad_cells HR.out 8 _ rfl)
      have q9 := kept_cell (nad_cells HR.out 9 _ rfl)
      have q10 := kept_cell (nad_cells HR.out 10 _ rfl)
      have r3 := kept_cell (nad_cells HA.out 3 _ rfl)
      refine wp_region_kept_tail 14 hmx (by kernel_rfl) ?_
      simp only [List.take_succ_cons, List.take_zero, List.drop_succ_cons, List.drop_zero]
      repeat (go_big_quiet_step (fail))
      refine wpQuiet_nil ?_
      rintro _ ⟨pw, rfl⟩
      have hZ2 := (pw.h.block (b + 1) (blk_lt HZ.out)).trans HZ.out
      clear q0 q1 q2 q3 q4 q5 q6 q7 q8 q9 q10 r3
      refine wpList_store_row rfl 33 _ _ rfl (b + 1) #[.int .i64 2, .int .i64 a1, .int .i64 a2, .int .i64 0, .int .i64 a4, .slice none 0 0, .slice Ar rs.length cr, .bool b1, .bool b2, .slice Au lu cu, .slice Ab lb cb] rfl rfl 33 _ hZ2 (by kernel_rfl) rfl (by simp [Value.oneCell']) ?_
      refine wpList_nil ?_
      have HX := Lib.hid (setRow_heap pw.w' (b + 1) _ #[.int .i64 2, .int .i64 a1, .int .i64 a2, .int .i64 0, .int .i64 a4, .slice none 0 0, .slice Ar rs.length cr, .bool b1, .bool b2, .slice Au lu cu, .slice Ab lb cb] _ _ hZ2)
      have HY := Lib.hid (below_setRow (B := b) (g := b + 1) (HB.out.trans (pw.h.mono (blk_lt HA.out |> Nat.le_of_lt))) (by omega) #[.int .i64 2, .int .i64 a1, .int .i64 a2, .int .i64 0, .int .i64 a4, .slice none 0 0, .slice Ar rs.length cr, .bool b1, .bool b2, .slice Au lu cu, .slice Ab lb cb])
      clear hZ2
      generalize pw.w'.setRow (b + 1) #[.int .i64 2, .int .i64 a1, .int .i64 a2, .int .i64 0, .int .i64 a4, .slice none 0 0, .slice Ar rs.length cr, .bool b1, .bool b2, .slice Au lu cu, .slice Ab lb cb] = W3 at *
      go_wp2_with fail
      refine bodyPost_ret (results_tmp_cell rfl _ _ (b + 1) 33 #[.int .i64 2, .int .i64 a1, .int .i64 a2, .int .i64 0, .int .i64 a4, .slice none 0 0, .slice Ar rs.length cr, .bool b1, .bool b2, .slice Au lu cu, .slice Ab lb cb] (0, 0) _ rfl HX.out Tryd.underlying33 rfl (by kernel_rfl)) rfl ?_
      exact ⟨by first | rfl |  simp_all, by rw [HBB.out]; exact HY.out⟩

set_option maxRecDepth 100000 in
set_option maxHeartbeats 1000000 in
theorem own_6 (a1 a2 a3 a4 : Int) (Ap : Option Addr) (lp cp : Nat) (Ar : Option Addr) (rs : List Int) (cr : Nat) (b1 b2 : Bool) (Au : Option Addr) (lu cu : Nat) (Ab : Option Addr) (lb cb : Nat) (w : World) (hT : LexTabs w) (hlp : lp ≤ 2000000) (hrs : rs.length ≤ 2000000) (hr : rdS (fun (n : Int) cs => cs = [.int .i64 n] ∧ inI n) 1 w (.slice Ar rs.length cr) rs) :
    Calls Tryd.prog 24 #[.agg #[.int .i64 6, .int .i64 a1, .int .i64 a2, .int .i64 a3, .int .i64 a4, .slice Ap lp cp, .slice Ar rs.length cr, .bool b1, .bool b2, .slice Au lu cu, .slice Ab lb cb]] w fun e w' => e = .returned (.tuple #[.bool (((lp : Int) == 1) && runeB a2), .agg #[.int .i64 6, .int .i64 a1, .int .i64 0, .int .i64 a3, .int .i64 a4, .slice none 0 0, .slice Ar rs.length cr, .bool b1, .bool b2, .slice Au lu cu, .slice Ab lb cb]]) ∧ Below w.heap.size w w' := by
  obtain ⟨hA, hZ, hR, hB⟩ := three_blocks w (Obj.cells #[.int .i64 6, .int .i64 a1, .int .i64 a2, .int .i64 a3, .int .i64 a4, .slice Ap lp cp, .slice Ar rs.length cr, .bool b1, .bool b2, .slice Au lu cu, .slice Ab lb cb] 33) (Obj.cells #[.int .i64 0, .int .i64 0, .int .i64 0, .int .i64 0, .int .i64 0, .slice none 0 0, .slice none 0 0, .bool false, .bool false, .slice none 0 0, .slice none 0 0] 33) (Obj.cells #[.int .i64 6, .int .i64 a1, .int .i64 0, .int .i64 a3, .int .i64 a4, .slice none 0 0, .slice Ar rs.length cr, .bool b1, .bool b2, .slice Au lu cu, .slice Ab lb cb] 33)
  have HA := Lib.hid hA
  have HZ := Lib.hid hZ
  have HR := Lib.hid hR
  have HB := Lib.hid hB
  have HTT := Lib.hid hT
  have HRS := Lib.hid hr
  clear hA hZ hR hB hT hr
  have hmx : Tryd.prog.follows .mixedOrders = true := by kernel_rfl
  cases e1 : ((lp : Int) == 1)
  ·
    go_enter Tryd.func24, Tryd.ntmps24
    go_upto_region 1 with fail
    go_region
    go_wp2_with fail
    generalize hW2 : (((w.alloc (Obj.cells #[.int .i64 6, .int .i64 a1, .int .i64 a2, .int .i64 a3, .int .i64 a4, .slice Ap lp cp, .slice Ar rs.length cr, .bool b1, .bool b2, .slice Au lu cu, .slice Ab lb cb] 33)).alloc (Obj.cells #[.int .i64 0, .int .i64 0, .int .i64 0, .int .i64 0, .int .i64 0, .slice none 0 0, .slice none 0 0, .bool false, .bool false, .slice none 0 0, .slice none 0 0] 33)).alloc (Obj.cells #[.int .i64 6, .int .i64 a1, .int .i64 0, .int .i64 a3, .int .i64 a4, .slice none 0 0, .slice Ar rs.length cr, .bool b1, .bool b2, .slice Au lu cu, .slice Ab lb cb] 33)).drew = W2 at *
    clear hW2
    have hT2 : ∀ p : Kept W2, LexTabs p.w' := fun p => HTT.out.below (HB.out.trans (p.h.mono HB.out.size))
    have hIs : ∀ p : Kept W2, _ := fun p => kept_calls (p := p) (isRune_calls a2 p.w' (hT2 p))
    obtain ⟨b, hb⟩ : ∃ b, w.heap.size = b := ⟨_, rfl⟩
    rw [hb] at HA HZ HR HB ⊢
    have HBB := Lib.hid hb
    clear hb hT2
    have q0 := kept_cell (nad_cells HR.out 0 _ rfl)
    have q1 := kept_cell (nad_cells HR.out 1 _ rfl)
    have q2 := kept_cell (nad_cells HR.out 2 _ rfl)
    have q3 := kept_cell (nad_cells HR.out 3 _ rfl)
    have q4 := kept_cell (nad_cells HR.out 4 _ rfl)
    have q5 := kept_cell (nad_cells HR.out 5 _ rfl)
    have q6 := kept_cell (nad_cells HR.out 6 _ rfl)
    have q7 := kept_cell (nad_cells HR.out 7 _ rfl)
    have q8 := kept_cell (nad_cells HR.out 8 _ rfl)
    have q9 := kept_cell (nad_cells HR.out 9 _ rfl)
    have q10 := kept_cell (nad_cells HR.out 10 _ rfl)
    have r2 := kept_cell (nad_cells HA.out 2 _ rfl)
    refine wp_region_kept_tail 9 hmx (by kernel_rfl) ?_
    simp only [List.take_succ_cons, List.take_zero, List.drop_succ_cons, List.drop_zero]
    repeat (go_big_quiet_step (first | (with_reducible exact hIs _)))
    refine wpQuiet_nil ?_
    rintro _ ⟨pw, rfl⟩
    have hZ2 := (pw.h.block (b + 1) (blk_lt HZ.out)).trans HZ.out
    clear q0 q1 q2 q3 q4 q5 q6 q7 q8 q9 q10 r2 hIs
    refine wpList_store_row rfl 33 _ _ rfl (b + 1) #[.int .i64 6, .int .i64 a1, .int .i64 0, .int .i64 a3, .int .i64 a4, .slice none 0 0, .slice Ar rs.length cr, .bool b1, .bool b2, .slice Au lu cu, .slice Ab lb cb] rfl rfl 33 _ hZ2 (by kernel_rfl) rfl (by simp [Value.oneCell']) ?_
    refine wpList_nil ?_
    have HX := Lib.hid (setRow_heap pw.w' (b + 1) _ #[.int .i64 6, .int .i64 a1, .int .i64 0, .int .i64 a3, .int .i64 a4, .slice none 0 0, .slice Ar rs.length cr, .bool b1, .bool b2, .slice Au lu cu, .slice Ab lb cb] _ _ hZ2)
    have HY := Lib.hid (below_setRow (B := b) (g := b + 1) (HB.out.trans (pw.h.mono (blk_lt HA.out |> Nat.le_of_lt))) (by omega) #[.int .i64 6, .int .i64 a1, .int .i64 0, .int .i64 a3, .int .i64 a4, .slice none 0 0, .slice Ar rs.length cr, .bool b1, .bool b2, .slice Au lu cu, .slice Ab lb cb])
    clear hZ2
    generalize pw.w'.setRow (b + 1) #[.int .i64 6, .int .i64 a1, .int .i64 0, .int .i64 a3, .int .i64 a4, .slice none 0 0, .slice Ar rs.length cr, .bool b1, .bool b2, .slice Au lu cu, .slice Ab lb cb] = W3 at *
    go_wp2_with fail
    refine bodyPost_ret (results_tmp_cell rfl _ _ (b + 1) 33 #[.int .i64 6, .int .i64 a1, .int .i64 0, .int .i64 a3, .int .i64 a4, .slice none 0 0, .slice Ar rs.length cr, .bool b1, .bool b2, .slice Au lu cu, .slice Ab lb cb] (0, 0) _ rfl HX.out Tryd.underlying33 rfl (by kernel_rfl)) rfl ?_
    exact ⟨by first | rfl |  simp_all, by rw [HBB.out]; exact HY.out⟩
  ·
    go_enter Tryd.func24, Tryd.ntmps24
    go_upto_region 1 with fail
    go_region
    go_wp2_with fail
    generalize hW2 : (((w.alloc (Obj.cells #[.int .i64 6, .int .i64 a1, .int .i64 a2, .int .i64 a3, .int .i64 a4, .slice Ap lp cp, .slice Ar rs.length cr, .bool b1, .bool b2, .slice Au lu cu, .slice Ab lb cb] 33)).alloc (Obj.cells #[.int .i64 0, .int .i64 0, .int .i64 0, .int .i64 0, .int .i64 0, .slice none 0 0, .slice none 0 0, .bool false, .bool false, .slice none 0 0, .slice none 0 0] 33)).alloc (Obj.cells #[.int .i64 6, .int .i64 a1, .int .i64 0, .int .i64 a3, .int .i64 a4, .slice none 0 0, .slice Ar rs.length cr, .bool b1, .bool b2, .slice Au lu cu, .slice Ab lb cb] 33)).drew = W2 at *
    clear hW2
    have hT2 : ∀ p : Kept W2, LexTabs p.w' := fun p => HTT.out.below (HB.out.trans (p.h.mono HB.out.size))
    have hIs : ∀ p : Kept W2, _ := fun p => kept_calls (p := p) (isRune_calls a2 p.w' (hT2 p))
    obtain ⟨b, hb⟩ : ∃ b, w.heap.size = b := ⟨_, rfl⟩
    rw [hb] at HA HZ HR HB ⊢
    have HBB := Lib.hid hb
    clear hb hT2
    have q0 := kept_cell (nad_cells HR.out 0 _ rfl)
    have q1 := kept_cell (nad_cells HR.out 1 _ rfl)
    have q2 := kept_cell (nad_cells HR.out 2 _ rfl)
    have q3 := kept_cell (nad_cells HR.out 3 _ rfl)
    have q4 := kept_cell (nad_cells HR.out 4 _ rfl)
    have q5 := kept_cell (nad_cells HR.out 5 _ rfl)
    have q6 := kept_cell (nad_cells HR.out 6 _ rfl)
    have q7 := kept_cell (nad_cells HR.out 7 _ rfl)
    have q8 := kept_cell (nad_cells HR.out 8 _ rfl)
    have q9 := kept_cell (nad_cells HR.out 9 _ rfl)
    have q10 := kept_cell (nad_cells HR.out 10 _ rfl)
    have r2 := kept_cell (nad_cells HA.out 2 _ rfl)
    refine wp_region_kept_tail 9 hmx (by kernel_rfl) ?_
    simp only [List.take_succ_cons, List.take_zero, List.drop_succ_cons, List.drop_zero]
    repeat (go_big_quiet_step (first | (with_reducible exact hIs _)))
    refine wpQuiet_nil ?_
    rintro _ ⟨pw, rfl⟩
    have hZ2 := (pw.h.block (b + 1) (blk_lt HZ.out)).trans HZ.out
    clear q0 q1 q2 q3 q4 q5 q6 q7 q8 q9 q10 r2 hIs
    refine wpList_store_row rfl 33 _ _ rfl (b + 1) #[.int .i64 6, .int .i64 a1, .int .i64 0, .int .i64 a3, .int .i64 a4, .slice none 0 0, .slice Ar rs.length cr, .bool b1, .bool b2, .slice Au lu cu, .slice Ab lb cb] rfl rfl 33 _ hZ2 (by kernel_rfl) rfl (by simp [Value.oneCell']) ?_
    refine wpList_nil ?_
    have HX := Lib.hid (setRow_heap pw.w' (b + 1) _ #[.int .i64 6, .int .i64 a1, .int .i64 0, .int .i64 a3, .int .i64 a4, .slice none 0 0, .slice Ar rs.length cr, .bool b1, .bool b2, .slice Au lu cu, .slice Ab lb cb] _ _ hZ2)
    have HY := Lib.hid (below_setRow (B := b) (g := b + 1) (HB.out.trans (pw.h.mono (blk_lt HA.out |> Nat.le_of_lt))) (by omega) #[.int .i64 6, .int .i64 a1, .int .i64 0, .int .i64 a3, .int .i64 a4, .slice none 0 0, .slice Ar rs.length cr, .bool b1, .bool b2, .slice Au lu cu, .slice Ab lb cb])
    clear hZ2
    generalize pw.w'.setRow (b + 1) #[.int .i64 6, .int .i64 a1, .int .i64 0, .int .i64 a3, .int .i64 a4, .slice none 0 0, .slice Ar rs.length cr, .bool b1, .bool b2, .slice Au lu cu, .slice Ab lb cb] = W3 at *
    go_wp2_with fail
    refine bodyPost_ret (results_tmp_cell rfl _ _ (b + 1) 33 #[.int .i64 6, .int .i64 a1, .int .i64 0, .int .i64 a3, .int .i64 a4, .slice none 0 0, .slice Ar rs.length cr, .bool b1, .bool b2, .slice Au lu cu, .slice Ab lb cb] (0, 0) _ rfl HX.out Tryd.underlying33 rfl (by kernel_rfl)) rfl ?_
    exact ⟨by first | rfl |  simp_all, by rw [HBB.out]; exact HY.out⟩

set_option maxRecDepth 100000 in
set_option maxHeartbeats 1000000 in
theorem own_7 (a1 a2 a3 a4 : Int) (Ap : Option Addr) (lp cp : Nat) (Ar : Option Addr) (rs : List Int) (cr : Nat) (b1 b2 : Bool) (Au : Option Addr) (lu cu : Nat) (Ab : Option Addr) (lb cb : Nat) (w : World) (hT : LexTabs w) (hlp : lp ≤ 2000000) (hrs : rs.length ≤ 2000000) (hr : rdS (fun (n : Int) cs => cs = [.int .i64 n] ∧ inI n) 1 w (.slice Ar rs.length cr) rs) :
    Calls Tryd.prog 24 #[.agg #[.int .i64 7, .int .i64 a1, .int .i64 a2, .int .i64 a3, .int .i64 a4, .slice Ap lp cp, .slice Ar rs.length cr, .bool b1, .bool b2, .slice Au lu cu, .slice Ab lb cb]] w fun e w' => e = .returned (.tuple #[.bool (delimsB lp rs), .agg #[.int .i64 7, .int .i64 a1, .int .i64 a2, .int .i64 a3, .int .i64 a4, .slice none 0 0, .slice none 0 0, .bool b1, .bool b2, .slice Au lu cu, .slice Ab lb cb]]) ∧ Below w.heap.size w w' := by
  obtain ⟨hA, hZ, hR, hB⟩ := three_blocks w (Obj.cells #[.int .i64 7, .int .i64 a1, .int .i64 a2, .int .i64 a3, .int .i64 a4, .slice Ap lp cp, .slice Ar rs.length cr, .bool b1, .bool b2, .slice Au lu cu, .slice Ab lb cb] 33) (Obj.cells #[.int .i64 0, .int .i64 0, .int .i64 0, .int .i64 0, .int .i64 0, .slice none 0 0, .slice none 0 0, .bool false, .bool false, .slice none 0 0, .slice none 0 0] 33) (Obj.cells #[.int .i64 7, .int .i64 a1, .int .i64 a2, .int .i64 a3, .int .i64 a4, .slice none 0 0, .slice none 0 0, .bool b1, .bool b2, .slice Au lu cu, .slice Ab lb cb] 33)
  have HA := Lib.hid hA
  have HZ := Lib.hid hZ
  have HR := Lib.hid hR
  have HB := Lib.hid hB
  have HTT := Lib.hid hT
  have HRS := Lib.hid hr
  clear hA hZ hR hB hT hr
  have hmx : Tryd.prog.follows .mixedOrders = true := by kernel_rfl
  go_enter Tryd.func24, Tryd.ntmps24
  go_upto_region 1 with fail
  go_region
  go_wp2_with fail
  generalize hW2 : (((w.alloc (Obj.cells #[.int .i64 7, .int .i64 a1, .int .i64 a2, .int .i64 a3, .int .i64 a4, .slice Ap lp cp, .slice Ar rs.length cr, .bool b1, .bool b2, .slice Au lu cu, .slice Ab lb cb] 33)).alloc (Obj.cells #[.int .i64 0, .int .i64 0, .int .i64 0, .int .i64 0, .int .i64 0, .slice none 0 0, .slice none 0 0, .bool false, .bool false, .slice none 0 0, .slice none 0 0] 33)).alloc (Obj.cells #[.int .i64 7, .int .i64 a1, .int .i64 a2, .int .i64 a3, .int .i64 a4, .slice none 0 0, .slice none 0 0, .bool b1, .bool b2, .slice Au lu cu, .slice Ab lb cb] 33)).drew = W2 at *
  clear hW2
  have hT2 : ∀ p : Kept W2, LexTabs p.w' := fun p => HTT.out.below (HB.out.trans (p.h.mono HB.out.size))
  have hDe : ∀ p : Kept W2, _ := fun p => kept_calls (p := p) (delims_calls 7 a1 a2 a3 a4 Ap lp cp Ar rs cr b1 b2 Au lu cu Ab lb cb p.w' hlp hrs (rdS_imp HRS.out (fun q u hc => ((HB.out.trans (p.h.mono HB.out.size)).cell (World.block_lt_of_cell? w _ hc)).trans hc) (fun _ _ h => h)) (hT2 p))
  obtain ⟨b, hb⟩ : ∃ b, w.heap.size = b := ⟨_, rfl⟩
  rw [hb] at HA HZ HR HB ⊢
  have HBB := Lib.hid hb
  clear hb hT2
  have q0 := kept_cell (nad_cells HR.out 0 _ rfl)
  have q1 := kept_cell (nad_cells HR.out 1 _ rfl)
  have q2 := kept_cell (nad_cells HR.out 2 _ rfl)
  have q3 := kept_cell (nad_cells HR.out 3 _ rfl)
  have q4 := kept_cell (nad_cells HR.out 4 _ rfl)
  have q5 := kept_cell (nad_cells HR.out 5 _ rfl)
  have q6 := kept_cell (nad_cells HR.out 6 _ rfl)
  have q7 := kept_cell (nad_cells HR.out 7 _ rfl)
  have q8 := kept_cell (nad_cells HR.out 8 _ rfl)
  have q9 := kept_cell (nad_cells HR.out 9 _ rfl)
  have q10 := kept_cell (nad_cells HR.out 10 _ rfl)
  have r0 := kept_cell (nad_cells HA.out 0 _ rfl)
  have r1 := kept_cell (nad_cells HA.out 1 _ rfl)
  have r2 := kept_cell (nad_cells HA.out 2 _ rfl)
  have r3 := kept_cell (nad_cells HA.out 3 _ rfl)
  have r4 := kept_cell (nad_cells HA.out 4 _ rfl)
  have r5 := kept_cell (nad_cells HA.out 5 _ rfl)
  have r6 := kept_cell (nad_cells HA.out 6 _ rfl)
  have r7 := kept_cell (nad_cells HA.out 7 _ rfl)
  have r8 := kept_cell (nad_cells HA.out 8 _ rfl)
  have r9 := kept_cell (nad_cells HA.out 9 _ rfl)
  have r10 := kept_cell (nad_cells HA.out 10 _ rfl)
  refine wp_region_kept_tail 4 hmx (by kernel_rfl) ?_
  simp only [List.take_succ_cons, List.take_zero, List.drop_succ_cons, List.drop_zero]
  repeat (go_big_quiet_step (first | (with_reducible exact hDe _)))
  refine wpQuiet_nil ?_
  rintro _ ⟨pw, rfl⟩
  have hZ2 := (pw.h.block (b + 1) (blk_lt HZ.out)).trans HZ.out
  clear q0 q1 q2 q3 q4 q5 q6 q7 q8 q9 q10 r0 r1 r2 r3 r4 r5 r6 r7 r8 r9 r10 hDe
  refine wpList_store_row rfl 33 _ _ rfl (b + 1) #[.int .i64 7, .int .i64 a1, .int .i64 a2, .int .i64 a3, .int .i64 a4, .slice none 0 0, .slice none 0 0, .bool b1, .bool b2, .slice Au lu cu, .slice Ab lb cb] rfl rfl 33 _ hZ2 (by kernel_rfl) rfl (by simp [Value.oneCell']) ?_
  refine wpList_nil ?_
  have HX := Lib.hid (setRow_heap pw.w' (b + 1) _ #[.int .i64 7, .int .i64 a1, .int .i64 a2, .int .i64 a3, .int .i64 a4, .slice none 0 0, .slice none 0 0, .bool b1, .bool b2, .slice Au lu cu, .slice Ab lb cb] _ _ hZ2)
  have HY := Lib.hid (below_setRow (B := b) (g := b + 1) (HB.out.trans (pw.h.mono (blk_lt HA.out |> Nat.le_of_lt))) (by omega) #[.int .i64 7, .int .i64 a1, .int .i64 a2, .int .i64 a3, .int .i64 a4, .slice none 0 0, .slice none 0 0, .bool b1, .bool b2, .slice Au lu cu, .slice Ab lb cb])
  clear hZ2
  generalize pw.w'.setRow (b + 1) #[.int .i64 7, .int .i64 a1, .int .i64 a2, .int .i64 a3, .int .i64 a4, .slice none 0 0, .slice none 0 0, .bool b1, .bool b2, .slice Au lu cu, .slice Ab lb cb] = W3 at *
  go_wp2_with fail
  refine bodyPost_ret (results_tmp_cell rfl _ _ (b + 1) 33 #[.int .i64 7, .int .i64 a1, .int .i64 a2, .int .i64 a3, .int .i64 a4, .slice none 0 0, .slice none 0 0, .bool b1, .bool b2, .slice Au lu cu, .slice Ab lb cb] (0, 0) _ rfl HX.out Tryd.underlying33 rfl (by kernel_rfl)) rfl ?_
  exact ⟨by first | rfl |  simp_all, by rw [HBB.out]; exact HY.out⟩

set_option maxRecDepth 100000 in
set_option maxHeartbeats 1000000 in
theorem own_1 (a1 a2 a3 a4 : Int) (Ap : Option Addr) (lp cp : Nat) (Ar : Option Addr) (rs : List Int) (cr : Nat) (b1 b2 : Bool) (Au : Option Addr) (lu cu : Nat) (Ab : Option Addr) (lb cb : Nat) (w : World) (hT : LexTabs w) (hlp : lp ≤ 2000000) (hrs : rs.length ≤ 2000000) (hr : rdS (fun (n : Int) cs => cs = [.int .i64 n] ∧ inI n) 1 w (.slice Ar rs.length cr) rs) :
    Calls Tryd.prog 24 #[.agg #[.int .i64 1, .int .i64 a1, .int .i64 a2, .int .i64 a3, .int .i64 a4, .slice Ap lp cp, .slice Ar rs.length cr, .bool b1, .bool b2, .slice Au lu cu, .slice Ab lb cb]] w fun e w' => e = .returned (.tuple #[.bool (((lp : Int) == 1) && decide (0 ≤ a1) && decide (a1 ≤ 7) && limB a1 a4), .agg #[.int .i64 1, .int .i64 0, .int .i64 a2, .int .i64 a3, .int .i64 0, .slice none 0 0, .slice Ar rs.length cr, .bool b1, .bool b2, .slice Au lu cu, .slice Ab lb cb]]) ∧ Below w.heap.size w w' := by
  obtain ⟨hA, hZ, hR, hB⟩ := three_blocks w (Obj.cells #[.int .i64 1, .int .i64 a1, .int .i64 a2, .int .i64 a3, .int .i64 a4, .slice Ap lp cp, .slice Ar rs.length cr, .bool b1, .bool b2, .slice Au lu cu, .slice Ab lb cb] 33) (Obj.cells #[.int .i64 0, .int .i64 0, .int .i64 0, .int .i64 0, .int .i64 0, .slice none 0 0, .slice none 0 0, .bool false, .bool false, .slice none 0 0, .slice none 0 0] 33) (Obj.cells #[.int .i64 1, .int .i64 0, .int .i64 a2, .int .i64 a3, .int .i64 0, .slice none 0 0, .slice Ar rs.length cr, .bool b1, .bool b2, .slice Au lu cu, .slice Ab lb cb] 33)
  have HA := Lib.hid hA
  have HZ := Lib.hid hZ
  have HR := Lib.hid hR
  have HB := Lib.hid hB
  have HTT := Lib.hid hT
  have HRS := Lib.hid hr
  clear hA hZ hR hB hT hr
  have hmx : Tryd.prog.follows .mixedOrders = true := by kernel_rfl
  cases e1 : ((lp : Int) == 1)
  ·
    go_enter Tryd.func24, Tryd.ntmps24
    go_upto_region 1 with fail
    go_region
    go_wp2_with fail
    generalize hW2 : (((w.alloc (Obj.cells #[.int .i64 1, .int .i64 a1, .int .i64 a2, .int .i64 a3, .int .i64 a4, .slice Ap lp cp, .slice Ar rs.length cr, .bool b1, .bool b2, .slice Au lu cu, .slice Ab lb cb] 33)).alloc (Obj.cells #[.int .i64 0, .int .i64 0, .int .i64 0, .int .i64 0, .int .i64 0, .slice none 0 0, .slice none 0 0, .bool false, .bool false, .slice none 0 0, .slice none 0 0] 33)).alloc (Obj.cells #[.int .i64 1, .int .i64 0, .int .i64 a2, .int .i64 a3, .int .i64 0, .slice none 0 0, .slice Ar rs.length cr, .bool b1, .bool b2, .slice Au lu cu, .slice Ab lb cb] 33)).drew = W2 at *
    clear hW2
    have hT2 : ∀ p : Kept W2, LexTabs p.w' := fun p => HTT.out.below (HB.out.trans (p.h.mono HB.out.size))
    have hLi : ∀ p : Kept W2, _ := fun p => kept_calls (p := p) (limits_calls 1 a1 a2 a3 a4 Ap lp cp Ar rs.length cr b1 b2 Au lu cu Ab lb cb p.w')
    obtain ⟨b, hb⟩ : ∃ b, w.heap.size = b := ⟨_, rfl⟩
    rw [hb] at HA HZ HR HB ⊢
    have HBB := Lib.hid hb
    clear hb hT2
    have q0 := kept_cell (nad_cells HR.out 0 _ rfl)
    have q1 := kept_cell (nad_cells HR.out 1 _ rfl)
    have q2 := kept_cell (nad_cells HR.out 2 _ rfl)
    have q3 := kept_cell (nad_cells HR.out 3 _ rfl)
    have q4 := kept_cell (nad_cells HR.out 4 _ rfl)
    have q5 := kept_cell (nad_cells HR.out 5 _ rfl)
    have q6 := kept_cell (nad_cells HR.out 6 _ rfl)
    have q7 := kept_cell (nad_cells HR.out 7 _ rfl)
    have q8 := kept_cell (nad_cells HR.out 8 _ rfl)
    have q9 := kept_cell (nad_cells HR.out 9 _ rfl)
    have q10 := kept_cell (nad_cells HR.out 10 _ rfl)
    have r0 := kept_cell (nad_cells HA.out 0 _ rfl)
    have r1 := kept_cell (nad_cells HA.out 1 _ rfl)
    have r2 := kept_cell (nad_cells HA.out 2 _ rfl)
    have r3 := kept_cell (nad_cells HA.out 3 _ rfl)
    have r4 := kept_cell (nad_cells HA.out 4 _ rfl)
    have r5 := kept_cell (nad_cells HA.out 5 _ rfl)
    have r6 := kept_cell (nad_cells HA.out 6 _ rfl)
    have r7 := kept_cell (nad_cells HA.out 7 _ rfl)
    have r8 := kept_cell (nad_cells HA.out 8 _ rfl)
    have r9 := kept_cell (nad_cells HA.out 9 _ rfl)
    have r10 := kept_cell (nad_cells HA.out 10 _ rfl)
    refine wp_region_kept_tail 18 hmx (by kernel_rfl) ?_
    simp only [List.take_succ_cons, List.take_zero, List.drop_succ_cons, List.drop_zero]
    repeat (go_big_quiet_step (first | (with_reducible exact hLi _)))
    refine wpQuiet_nil ?_
    rintro _ ⟨pw, rfl⟩
    have hZ2 := (pw.h.block (b + 1) (blk_lt HZ.out)).trans HZ.out
    clear q0 q1 q2 q3 q4 q5 q6 q7 q8 q9 q10 r0 r1 r2 r3 r4 r5 r6 r7 r8 r9 r10 hLi
    refine wpList_store_row rfl 33 _ _ rfl (b + 1) #[.int .i64 1, .int .i64 0, .int .i64 a2, .int .i64 a3, .int .i64 0, .slice none 0 0, .slice Ar rs.length cr, .bool b1, .bool b2, .slice Au lu cu, .slice Ab lb cb] rfl rfl 33 _ hZ2 (by kernel_rfl) rfl (by simp [Value.oneCell']) ?_
    refine wpList_nil ?_
    have HX := Lib.hid (setRow_heap pw.w' (b + 1) _ #[.int .i64 1, .int .i64 0, .int .i64 a2, .int .i64 a3, .int .i64 0, .slice none 0 0, .slice Ar rs.length cr, .bool b1, .bool b2, .slice Au lu cu, .slice Ab lb cb] _ _ hZ2)
    have HY := Lib.hid (below_setRow (B := b) (g := b + 1) (HB.out.trans (pw.h.mono (blk_lt HA.out |> Nat.le_of_lt))) (by omega) #[.int .i64 1, .int .i64 0, .int .i64 a2, .int .i64 a3, .int .i64 0, .slice none 0 0, .slice Ar rs.length cr, .bool b1, .bool b2, .slice Au lu cu, .slice Ab lb cb])
    clear hZ2
    generalize pw.w'.setRow (b + 1) #[.int .i64 1, .int .i64 0, .int .i64 a2, .int .i64 a3, .int .i64 0, .slice none 0 0, .slice Ar rs.length cr, .bool b1, .bool b2, .slice Au lu cu, .slice Ab lb cb] = W3 at *
    go_wp2_with fail
    refine bodyPost_ret (results_tmp_cell rfl _ _ (b + 1) 33 #[.int .i64 1, .int .i64 0, .int .i64 a2, .int .i64 a3, .int .i64 0, .slice none 0 0, .slice Ar rs.length cr, .bool b1, .bool b2, .slice Au lu cu, .slice Ab lb cb] (0, 0) _ rfl HX.out Tryd.underlying33 rfl (by kernel_rfl)) rfl ?_
    exact ⟨by first | rfl |  simp_all, by rw [HBB.out]; exact HY.out⟩
  ·
    cases e2 : decide (0 ≤ a1)
    ·
      go_enter Tryd.func24, Tryd.ntmps24
      go_upto_region 1 with fail
      go_region
      go_wp2_with fail
      generalize hW2 : (((w.alloc (Obj.cells #[.int .i64 1, .int .i64 a1, .int .i64 a2, .int .i64 a3, .int .i64 a4, .slice Ap lp cp, .slice Ar rs.length cr, .bool b1, .bool b2, .slice Au lu cu, .slice Ab lb cb] 33)).alloc (Obj.cells #[.int .i64 0, .int .i64 0, .int .i64 0, .int .i64 0, .int .i64 0, .slice none 0 0, .slice none 0 0, .bool false, .bool false, .slice none 0 0, .slice none 0 0] 33)).alloc (Obj.cells #[.int .i64 1, .int .i64 0, .int .i64 a2, .int .i64 a3, .int .i64 0, .slice none 0 0, .slice Ar rs.length cr, .bool b1, .bool b2, .slice Au lu cu, .slice Ab lb cb] 33)).drew = W2 at *
      clear hW2
      have hT2 : ∀ p : Kept W2, LexTabs p.w' := fun p => HTT.out.below (HB.out.trans (p.h.mono HB.out.size))
      have hLi : ∀ p : Kept W2, _ := fun p => kept_calls (p := p) (limits_calls 1 a1 a2 a3 a4 Ap lp cp Ar rs.length cr b1 b2 Au lu cu Ab lb cb p.w')
      obtain ⟨b, hb⟩ : ∃ b, w.heap.size = b := ⟨_, rfl⟩
      rw [hb] at HA HZ HR HB ⊢
      have HBB := Lib.hid hb
      clear hb hT2
      have q0 := kept_cell (nad_cells HR.out 0 _ rfl)
      have q1 := kept_cell (nad_cells HR.out 1 _ rfl)
      have q2 := kept_cell (nad_cells HR.out 2 _ rfl)
      have q3 := kept_cell (nad_cells HR.out 3 _ rfl)
      have q4 := kept_cell (nad_cells HR.out 4 _ rfl)
      have q5 := kept_cell (nad_cells HR.out 5 _ rfl)
      have q6 := kept_cell (nad_cells HR.out 6 _ rfl)
      have q7 := kept_cell (nad_cells HR.out 7 _ rfl)
      have q8 := kept_cell (nad_cells HR.out 8 _ rfl)
      have q9 := kept_cell (nad_cells HR.out 9 _ rfl)
      have q10 := kept_cell (nad_cells HR.out 10 _ rfl)
      have r0 := kept_cell (nad_cells HA.out 0 _ rfl)
      have r1 := kept_cell (nad_cells HA.out 1 _ rfl)
      have r2 := kept_cell (nad_cells HA.out 2 _ rfl)
      have r3 := kept_cell (nad_cells HA.out 3 _ rfl)
      have r4 := kept_cell (nad_cells HA.out 4 _ rfl)
      have r5 := kept_cell (nad_cells HA.out 5 _ rfl)
      have r6 := kept_cell (nad_cells HA.out 6 _ rfl)
      have r7 := kept_cell (nad_cells HA.out 7 _ rfl)
      have r8 := kept_cell (nad_cells HA.out 8 _ rfl)
      have r9 := kept_cell (nad_cells HA.out 9 _ rfl)
      have r10 := kept_cell (nad_cells HA.out 10 _ rfl)
      refine wp_region_kept_tail 18 hmx (by kernel_rfl) ?_
      simp only [List.take_succ_cons, List.take_zero, List.drop_succ_cons, List.drop_zero]
      repeat (go_big_quiet_step (first | (with_reducible exact hLi _)))
      refine wpQuiet_nil ?_
      rintro _ ⟨pw, rfl⟩
      have hZ2 := (pw.h.block (b + 1) (blk_lt HZ.out)).trans HZ.out
      clear q0 q1 q2 q3 q4 q5 q6 q7 q8 q9 q10 r0 r1 r2 r3 r4 r5 r6 r7 r8 r9 r10 hLi
      refine wpList_store_row rfl 33 _ _ rfl (b + 1) #[.int .i64 1, .int .i64 0, .int .i64 a2, .int .i64 a3, .int .i64 0, .slice none 0 0, .slice Ar rs.length cr, .bool b1, .bool b2, .slice Au lu cu, .slice Ab lb cb] rfl rfl 33 _ hZ2 (by kernel_rfl) rfl (by simp [Value.oneCell']) ?_
      refine wpList_nil ?_
      have HX := Lib.hid (setRow_heap pw.w' (b + 1) _ #[.int .i64 1, .int .i64 0, .int .i64 a2, .int .i64 a3, .int .i64 0, .slice none 0 0, .slice Ar rs.length cr, .bool b1, .bool b2, .slice Au lu cu, .slice Ab lb cb] _ _ hZ2)
      have HY := Lib.hid (below_setRow (B := b) (g := b + 1) (HB.out.trans (pw.h.mono (blk_lt HA.out |> Nat.le_of_lt))) (by omega) #[.int .i64 1, .int .i64 0, .int .i64 a2, .int .i64 a3, .int .i64 0, .slice none 0 0, .slice Ar rs.length cr, .bool b1, .bool b2, .slice Au lu cu, .slice Ab lb cb])
      clear hZ2
      generalize pw.w'.setRow (b + 1) #[.int .i64 1, .int .i64 0, .int .i64 a2, .int .i64 a3, .int .i64 0, .slice none 0 0, .slice Ar rs.length cr, .bool b1, .bool b2, .slice Au lu cu, .slice Ab lb cb] = W3 at *
      go_wp2_with fail
      refine bodyPost_ret (results_tmp_cell rfl _ _ (b + 1) 33 #[.int .i64 1, .int .i64 0, .int .i64 a2, .int .i64 a3, .int .i64 0, .slice none 0 0, .slice Ar rs.length cr, .bool b1, .bool b2, .slice Au lu cu, .slice Ab lb cb] (0, 0) _ rfl HX.out Tryd.underlying33 rfl (by kernel_rfl)) rfl ?_
      exact ⟨by first | rfl |  simp_all, by rw [HBB.out]; exact HY.out⟩
    ·
      cases e3 : decide (a1 ≤ 7)
      ·
        go_enter Tryd.func24, Tryd.ntmps24
        go_upto_region 1 with fail
        go_region
        go_wp2_with fail
        generalize hW2 : (((w.alloc (Obj.cells #[.int .i64 1, .int .i64 a1, .int .i64 a2, .int .i64 a3, .int .i64 a4, .slice Ap lp cp, .slice Ar rs.length cr, .bool b1, .bool b2, .slice Au lu cu, .slice Ab lb cb] 33)).alloc (Obj.cells #[.int .i64 0, .int .i64 0, .int .i64 0, .int .i64 0, .int .i64 0, .slice none 0 0, .slice none 0 0, .bool false, .bool false, .slice none 0 0, .slice none 0 0] 33)).alloc (Obj.cells #[.int .i64 1, .int .i64 0, .int .i64 a2, .int .i64 a3, .int .i64 0, .slice none 0 0, .slice Ar rs.length cr, .bool b1, .bool b2, .slice Au lu cu, .slice Ab lb cb] 33)).drew = W2 at *
        clear hW2
        have hT2 : ∀ p : Kept W2, LexTabs p.w' := fun p => HTT.out.below (HB.out.trans (p.h.mono HB.out.size))
        have hLi : ∀ p : Kept W2, _ := fun p => kept_calls (p := p) (limits_calls 1 a1 a2 a3 a4 Ap lp cp Ar rs.length cr b1 b2 Au lu cu Ab lb cb p.w')
        obtain ⟨b, hb⟩ : ∃ b, w.heap.size = b := ⟨_, rfl⟩
        rw [hb] at HA HZ HR HB ⊢
        have HBB := Lib.hid hb
        clear hb hT2
        have q0 := kept_cell (nad_cells HR.out 0 _ rfl)
        have q1 := kept_cell (nad_cells HR.out 1 _ rfl)
        have q2 := kept_cell (nad_cells HR.out 2 _ rfl)
        have q3 := kept_cell (nad_cells HR.out 3 _ rfl)
        have q4 := kept_cell (nad_cells HR.out 4 _ rfl)
        have q5 := kept_cell (nad_cells HR.out 5 _ rfl)
        have q6 := kept_cell (nad_cells HR.out 6 _ rfl)
        have q7 := kept_cell (nad_cells HR.out 7 _ rfl)
        have q8 := kept_cell (nad_cells HR.out 8 _ rfl)
        have q9 := kept_cell (nad_cells HR.out 9 _ rfl)
        have q10 := kept_cell (nad_cells HR.out 10 _ rfl)
        have r0 := kept_cell (nad_cells HA.out 0 _ rfl)
        have r1 := kept_cell (nad_cells HA.out 1 _ rfl)
        have r2 := kept_cell (nad_cells HA.out 2 _ rfl)
        have r3 := kept_cell (nad_cells HA.out 3 _ rfl)
        have r4 := kept_cell (nad_cells HA.out 4 _ rfl)
        have r5 := kept_cell (nad_cells HA.out 5 _ rfl)
        have r6 := kept_cell (nad_cells HA.out 6 _ rfl)
        have r7 := kept_cell (nad_cells HA.out 7 _ rfl)
        have r8 := kept_cell (nad_cells HA.out 8 _ rfl)
        have r9 := kept_cell (nad_cells HA.out 9 _ rfl)
        have r10 := kept_cell (nad_cells HA.out 10 _ rfl)
        refine wp_region_kept_tail 18 hmx (by kernel_rfl) ?_
        simp only [List.take_succ_cons, List.take_zero, List.drop_succ_cons, List.drop_zero]
        repeat (go_big_quiet_step (first | (with_reducible exact hLi _)))
        refine wpQuiet_nil ?_
        rintro _ ⟨pw, rfl⟩
        have hZ2 := (pw.h.block (b + 1) (blk_lt HZ.out)).trans HZ.out
        clear q0 q1 q2 q3 q4 q5 q6 q7 q8 q9 q10 r0 r1 r2 r3 r4 r5 r6 r7 r8 r9 r10 hLi
        refine wpList_store_row rfl 33 _ _ rfl (b + 1) #[.int .i64 1, .int .i64 0, .int .i64 a2, .int .i64 a3, .int .i64 0, .slice none 0 0, .slice Ar rs.length cr, .bool b1, .bool b2, .slice Au lu cu, .slice Ab lb cb] rfl rfl 33 _ hZ2 (by kernel_rfl) rfl (by simp [Value.oneCell']) ?_
        refine wpList_nil ?_
        have HX := Lib.hid (setRow_heap pw.w' (b + 1) _ #[.int .i64 1, .int .i64 0, .int .i64 a2, .int .i64 a3, .int .i64 0, .slice none 0 0, .slice Ar rs.length cr, .bool b1, .bool b2, .slice Au lu cu, .slice Ab lb cb] _ _ hZ2)
        have HY := Lib.hid (below_setRow (B := b) (g := b + 1) (HB.out.trans (pw.h.mono (blk_lt HA.out |> Nat.le_of_lt))) (by omega) #[.int .i64 1, .int .i64 0, .int .i64 a2, .int .i64 a3, .int .i64 0, .slice none 0 0, .slice Ar rs.length cr, .bool b1, .bool b2, .slice Au lu cu, .slice Ab lb cb])
        clear hZ2
        generalize pw.w'.setRow (b + 1) #[.int .i64 1, .int .i64 0, .int .i64 a2, .int .i64 a3, .int .i64 0, .slice none 0 0, .slice Ar rs.length cr, .bool b1, .bool b2, .slice Au lu cu, .slice Ab lb cb] = W3 at *
        go_wp2_with fail
        refine bodyPost_ret (results_tmp_cell rfl _ _ (b + 1) 33 #[.int .i64 1, .int .i64 0, .int .i64 a2, .int .i64 a3, .int .i64 0, .slice none 0 0, .slice Ar rs.length cr, .bool b1, .bool b2, .slice Au lu cu, .slice Ab lb cb] (0, 0) _ rfl HX.out Tryd.underlying33 rfl (by kernel_rfl)) rfl ?_
        exact ⟨by first | rfl |  simp_all, by rw [HBB.out]; exact HY.out⟩
      ·
        cases e4 : limB a1 a4
        ·
          go_enter Tryd.func24, Tryd.ntmps24
          go_upto_region 1 with fail
          go_region
          go_wp2_with fail
          generalize hW2 : (((w.alloc (Obj.cells #[.int .i64 1, .int .i64 a1, .int .i64 a2, .int .i64 a3, .int .i64 a4, .slice Ap lp cp, .slice Ar rs.length cr, .bool b1, .bool b2, .slice Au lu cu, .slice Ab lb cb] 33)).alloc (Obj.cells #[.int .i64 0, .int .i64 0, .int .i64 0, .int .i64 0, .int .i64 0, .slice none 0 0, .slice none 0 0, .bool false, .bool false, .slice none 0 0, .slice none 0 0] 33)).alloc (Obj.cells #[.int .i64 1, .int .i64 0, .int .i64 a2, .int .i64 a3, .int .i64 0, .slice none 0 0, .slice Ar rs.length cr, .bool b1, .bool b2, .slice Au lu cu, .slice Ab lb cb] 33)).drew = W2 at *
          clear hW2
          have hT2 : ∀ p : Kept W2, LexTabs p.w' := fun p => HTT.out.below (HB.out.trans (p.h.mono HB.out.size))
          have hLi : ∀ p : Kept W2, _ := fun p => kept_calls (p := p) (limits_calls 1 a1 a2 a3 a4 Ap lp cp Ar rs.length cr b1 b2 Au lu cu Ab lb cb p.w')
          rw [e4] at hLi
          obtain ⟨b, hb⟩ : ∃ b, w.heap.size = b := ⟨_, rfl⟩
          rw [hb] at HA HZ HR HB ⊢
          have HBB := Lib.hid hb
          clear hb hT2
          have q0 := kept_cell (nad_cells HR.out 0 _ rfl)
          have q1 := kept_cell (nad_cells HR.out 1 _ rfl)
          have q2 := kept_cell (nad_cells HR.out 2 _ rfl)
          have q3 := kept_cell (nad_cells HR.out 3 _ rfl)
          have q4 := kept_cell (nad_cells HR.out 4 _ rfl)
          have q5 := kept_cell (nad_cells HR.out 5 _ rfl)
          have q6 := kept_cell (nad_cells HR.out 6 _ rfl)
          have q7 := kept_cell (nad_cells HR.out 7 _ rfl)
          have q8 := kept_cell (nad_cells HR.out 8 _ rfl)
          have q9 := kept_cell (nad_cells HR.out 9 _ rfl)
          have q10 := kept_cell (nad_cells HR.out 10 _ rfl)
          have r0 := kept_cell (nad_cells HA.out 0 _ rfl)
          have r1 := kept_cell (nad_cells HA.out 1 _ rfl)
          have r2 := kept_cell (nad_cells HA.out 2 _ rfl)
          have r3 := kept_cell (nad_cells HA.out 3 _ rfl)
          have r4 := kept_cell (nad_cells HA.out 4 _ rfl)
          have r5 := kept_cell (nad_cells HA.out 5 _ rfl)
          have r6 := kept_cell (nad_cells HA.out 6 _ rfl)
          have r7 := kept_cell (nad_cells HA.out 7 _ rfl)
          have r8 := kept_cell (nad_cells HA.out 8 _ rfl)
          have r9 := kept_cell (nad_cells HA.out 9 _ rfl)
          have r10 := kept_cell (nad_cells HA.out 10 _ rfl)
          refine wp_region_kept_tail 18 hmx (by kernel_rfl) ?_
          simp only [List.take_succ_cons, List.take_zero, List.drop_succ_cons, List.drop_zero]
          repeat (go_big_quiet_step (first | (with_reducible exact hLi _)))
          refine wpQuiet_nil ?_
          rintro _ ⟨pw, rfl⟩
          have hZ2 := (pw.h.block (b + 1) (blk_lt HZ.out)).trans HZ.out
          clear q0 q1 q2 q3 q4 q5 q6 q7 q8 q9 q10 r0 r1 r2 r3 r4 r5 r6 r7 r8 r9 r10 hLi
          refine wpList_store_row rfl 33 _ _ rfl (b + 1) #[.int .i64 1, .int .i64 0, .int .i64 a2, .int .i64 a3, .int .i64 0, .slice none 0 0, .slice Ar rs.length cr, .bool b1, .bool b2, .slice Au lu cu, .slice Ab lb cb] rfl rfl 33 _ hZ2 (by kernel_rfl) rfl (by simp [Value.oneCell']) ?_
          refine wpList_nil ?_
          have HX := Lib.hid (setRow_heap pw.w' (b + 1) _ #[.int .i64 1, .int .i64 0, .int .i64 a2, .int .i64 a3, .int .i64 0, .slice none 0 0, .slice Ar rs.length cr, .bool b1, .bool b2, .slice Au lu cu, .slice Ab lb cb] _ _ hZ2)
          have HY := Lib.hid (below_setRow (B := b) (g := b + 1) (HB.out.trans (pw.h.mono (blk_lt HA.out |> Nat.le_of_lt))) (by omega) #[.int .i64 1, .int .i64 0, .int .i64 a2, .int .i64 a3, .int .i64 0, .slice none 0 0, .slice Ar rs.length cr, .bool b1, .bool b2, .slice Au lu cu, .slice Ab lb cb])
          clear hZ2
          generalize pw.w'.setRow (b + 1) #[.int .i64 1, .int .i64 0, .int .i64 a2, .int .i64 a3, .int .i64 0, .slice none 0 0, .slice Ar rs.length cr, .bool b1, .bool b2, .slice Au lu cu, .slice Ab lb cb] = W3 at *
          go_wp2_with fail
          refine bodyPost_ret (results_tmp_cell rfl _ _ (b + 1) 33 #[.int .i64 1, .int .i64 0, .int .i64 a2, .int .i64 a3, .int .i64 0, .slice none 0 0, .slice Ar rs.length cr, .bool b1, .bool b2, .slice Au lu cu, .slice Ab lb cb] (0, 0) _ rfl HX.out Tryd.underlying33 rfl (by kernel_rfl)) rfl ?_
          exact ⟨by first | rfl |  simp_all, by rw [HBB.out]; exact HY.out⟩
        ·
          go_enter Tryd.func24, Tryd.ntmps24
          go_upto_region 1 with fail
          go_region
          go_wp2_with fail
          generalize hW2 : (((w.alloc (Obj.cells #[.int .i64 1, .int .i64 a1, .int .i64 a2, .int .i64 a3, .int .i64 a4, .slice Ap lp cp, .slice Ar rs.length cr, .bool b1, .bool b2, .slice Au lu cu, .slice Ab lb cb] 33)).alloc (Obj.cells #[.int .i64 0, .int .i64 0, .int .i64 0, .int .i64 0, .int .i64 0, .slice none 0 0, .slice none 0 0, .bool false, .bool false, .slice none 0 0, .slice none 0 0] 33)).alloc (Obj.cells #[.int .i64 1, .int .i64 0, .int .i64 a2, .int .i64 a3, .int .i64 0, .slice none 0 0, .slice Ar rs.length cr, .bool b1, .bool b2, .slice Au lu cu, .slice Ab lb cb] 33)).drew = W2 at *
          clear hW2
          have hT2 : ∀ p : Kept W2, LexTabs p.w' := fun p => HTT.out.below (HB.out.trans (p.h.mono HB.out.size))
          have hLi : ∀ p : Kept W2, _ := fun p => kept_calls (p := p) (limits_calls 1 a1 a2 a3 a4 Ap lp cp Ar rs.length cr b1 b2 Au lu cu Ab lb cb p.w')
          rw [e4] at hLi
          obtain ⟨b, hb⟩ : ∃ b, w.heap.size = b := ⟨_, rfl⟩
          rw [hb] at HA HZ HR HB ⊢
          have HBB := Lib.hid hb
          clear hb hT2
          have q0 := kept_cell (nad_cells HR.out 0 _ rfl)
          have q1 := kept_cell (nad_cells HR.out 1 _ rfl)
          have q2 := kept_cell (nad_cells HR.out 2 _ rfl)
          have q3 := kept_cell (nad_cells HR.out 3 _ rfl)
          have q4 := kept_cell (nad_cells HR.out 4 _ rfl)
          have q5 := kept_cell (nad_cells HR.out 5 _ rfl)
          have q6 := kept_cell (nad_cells HR.out 6 _ rfl)
          have q7 := kept_cell (nad_cells HR.out 7 _ rfl)
          have q8 := kept_cell (nad_cells HR.out 8 _ rfl)
          have q9 := kept_cell (nad_cells HR.out 9 _ rfl)
          have q10 := kept_cell (nad_cells HR.out 10 _ rfl)
          have r0 := kept_cell (nad_cells HA.out 0 _ rfl)
          have r1 := kept_cell (nad_cells HA.out 1 _ rfl)
          have r2 := kept_cell (nad_cells HA.out 2 _ rfl)
          have r3 := kept_cell (nad_cells HA.out 3 _ rfl)
          have r4 := kept_cell (nad_cells HA.out 4 _ rfl)
          have r5 := kept_cell (nad_cells HA.out 5 _ rfl)
          have r6 := kept_cell (nad_cells HA.out 6 _ rfl)
          have r7 := kept_cell (nad_cells HA.out 7 _ rfl)
          have r8 := kept_cell (nad_cells HA.out 8 _ rfl)
          have r9 := kept_cell (nad_cells HA.out 9 _ rfl)
          have r10 := kept_cell (nad_cells HA.out 10 _ rfl)
          refine wp_region_kept_tail 18 hmx (by kernel_rfl) ?_
          simp only [List.take_succ_cons, List.take_zero, List.drop_succ_cons, List.drop_zero]
          repeat (go_big_quiet_step (first | (with_reducible exact hLi _)))
          refine wpQuiet_nil ?_
          rintro _ ⟨pw, rfl⟩
          have hZ2 := (pw.h.block (b + 1) (blk_lt HZ.out)).trans HZ.out
          clear q0 q1 q2 q3 q4 q5 q6 q7 q8 q9 q10 r0 r1 r2 r3 r4 r5 r6 r7 r8 r9 r10 hLi
          refine wpList_store_row rfl 33 _ _ rfl (b + 1) #[.int .i64 1, .int .i64 0, .int .i64 a2, .int .i64 a3, .int .i64 0, .slice none 0 0, .slice Ar rs.length cr, .bool b1, .bool b2, .slice Au lu cu, .slice Ab lb cb] rfl rfl 33 _ hZ2 (by kernel_rfl) rfl (by simp [Value.oneCell']) ?_
          refine wpList_nil ?_
          have HX := Lib.hid (setRow_heap pw.w' (b + 1) _ #[.int .i64 1, .int .i64 0, .int .i64 a2, .int .i64 a3, .int .i64 0, .slice none 0 0, .slice Ar rs.length cr, .bool b1, .bool b2, .slice Au lu cu, .slice Ab lb cb] _ _ hZ2)
          have HY := Lib.hid (below_setRow (B := b) (g := b + 1) (HB.out.trans (pw.h.mono (blk_lt HA.out |> Nat.le_of_lt))) (by omega) #[.int .i64 1, .int .i64 0, .int .i64 a2, .int .i64 a3, .int .i64 0, .slice none 0 0, .slice Ar rs.length cr, .bool b1, .bool b2, .slice Au lu cu, .slice Ab lb cb])
          clear hZ2
          generalize pw.w'.setRow (b + 1) #[.int .i64 1, .int .i64 0, .int .i64 a2, .int .i64 a3, .int .i64 0, .slice none 0 0, .slice Ar rs.length cr, .bool b1, .bool b2, .slice Au lu cu, .slice Ab lb cb] = W3 at *
          go_wp2_with fail
          refine bodyPost_ret (results_tmp_cell rfl _ _ (b + 1) 33 #[.int .i64 1, .int .i64 0, .int .i64 a2, .int .i64 a3, .int .i64 0, .slice none 0 0, .slice Ar rs.length cr, .bool b1, .bool b2, .slice Au lu cu, .slice Ab lb cb] (0, 0) _ rfl HX.out Tryd.underlying33 rfl (by kernel_rfl)) rfl ?_
          exact ⟨by first | rfl |  simp_all, by rw [HBB.out]; exact HY.out⟩

set_option maxRecDepth 100000 in
set_option maxHeartbeats 1000000 in
theorem own_0 (a1 a2 a3 a4 : Int) (Ap : Option Addr) (lp cp : Nat) (Ar : Option Addr) (rs : List Int) (cr : Nat) (b1 b2 : Bool) (Au : Option Addr) (lu cu : Nat) (Ab : Option Addr) (lb cb : Nat) (w : World) (hT : LexTabs w) (hlp : lp ≤ 2000000) (hrs : rs.length ≤ 2000000) (hr : rdS (fun (n : Int) cs => cs = [.int .i64 n] ∧ inI n) 1 w (.slice Ar rs.length cr) rs) :
    Calls Tryd.prog 24 #[.agg #[.int .i64 0, .int .i64 a1, .int .i64 a2, .int .i64 a3, .int .i64 a4, .slice Ap lp cp, .slice Ar rs.length cr, .bool b1, .bool b2, .slice Au lu cu, .slice Ab lb cb]] w fun e w' => e = .returned (.tuple #[.bool (((lp : Int) == 0) && runeB a2 && (a1 == clsR a2) && limB a1 a4), .agg #[.int .i64 0, .int .i64 0, .int .i64 0, .int .i64 a3, .int .i64 0, .slice none 0 0, .slice Ar rs.length cr, .bool b1, .bool b2, .slice Au lu cu, .slice Ab lb cb]]) ∧ Below w.heap.size w w' := by
  obtain ⟨hA, hZ, hR, hB⟩ := three_blocks w (Obj.cells #[.int .i64 0, .int .i64 a1, .int .i64 a2, .int .i64 a3, .int .i64 a4, .slice Ap lp cp, .slice Ar rs.length cr, .bool b1, .bool b2, .slice Au lu cu, .slice Ab lb cb] 33) (Obj.cells #[.int .i64 0, .int .i64 0, .int .i64 0, .int .i64 0, .int .i64 0, .slice none 0 0, .slice none 0 0, .bool false, .bool false, .slice none 0 0, .slice none 0 0] 33) (Obj.cells #[.int .i64 0, .int .i64 0, .int .i64 0, .int .i64 a3, .int .i64 0, .slice none 0 0, .slice Ar rs.length cr, .bool b1, .bool b2, .slice Au lu cu, .slice Ab lb cb] 33)
  have HA := Lib.hid hA
  have HZ := Lib.hid hZ
  have HR := Lib.hid hR
  have HB := Lib.hid hB
  have HTT := Lib.hid hT
  have HRS := Lib.hid hr
  clear hA hZ hR hB hT hr
  have hmx : Tryd.prog.follows .mixedOrders = true := by kernel_rfl
  cases e1 : ((lp : Int) == 0)
  ·
    go_enter Tryd.func24, Tryd.ntmps24
    go_upto_region 1 with fail
    go_region
    go_wp2_with fail
    generalize hW2 : (((w.alloc (Obj.cells #[.int .i64 0, .int .i64 a1, .int .i64 a2, .int .i64 a3, .int .i64 a4, .slice Ap lp cp, .slice Ar rs.length cr, .bool b1, .bool b2, .slice Au lu cu, .slice Ab lb cb] 33)).alloc (Obj.cells #[.int .i64 0, .int .i64 0, .int .i64 0, .int .i64 0, .int .i64 0, .slice none 0 0, .slice none 0 0, .bool false, .bool false, .slice none 0 0, .slice none 0 0] 33)).alloc (Obj.cells #[.int .i64 0, .int .i64 0, .int .i64 0, .int .i64 a3, .int .i64 0, .slice none 0 0, .slice Ar rs.length cr, .bool b1, .bool b2, .slice Au lu cu, .slice Ab lb cb] 33)).drew = W2 at *
    clear hW2
    have hT2 : ∀ p : Kept W2, LexTabs p.w' := fun p => HTT.out.below (HB.out.trans (p.h.mono HB.out.size))
    have hIs : ∀ p : Kept W2, _ := fun p => kept_calls (p := p) (isRune_calls a2 p.w' (hT2 p))
    have hCl : ∀ p : Kept W2, _ := fun p => kept_calls (p := p) (class_calls a2 p.w')
    have hLi : ∀ p : Kept W2, _ := fun p => kept_calls (p := p) (limits_calls 0 a1 a2 a3 a4 Ap lp cp Ar rs.length cr b1 b2 Au lu cu Ab lb cb p.w')
    obtain ⟨b, hb⟩ : ∃ b, w.heap.size = b := ⟨_, rfl⟩
    rw [hb] at HA HZ HR HB ⊢
    have HBB := Lib.hid hb
    clear hb hT2
    have q0 := kept_cell (nad_cells HR.out 0 _ rfl)
    have q1 := kept_cell (nad_cells HR.out 1 _ rfl)
    have q2 := kept_cell (nad_cells HR.out 2 _ rfl)
    have q3 := kept_cell (nad_cells HR.out 3 _ rfl)
    have q4 := kept_cell (nad_cells HR.out 4 _ rfl)
    have q5 := kept_cell (nad_cells HR.out 5 _ rfl)
    have q6 := kept_cell (nad_cells HR.out 6 _ rfl)
    have q7 := kept_cell (nad_cells HR.out 7 _ rfl)
    have q8 := kept_cell (nad_cells HR.out 8 _ rfl)
    have q9 := kept_cell (nad_cells HR.out 9 _ rfl)
    have q10 := kept_cell (nad_cells HR.out 10 _ rfl)
    have r0 := kept_cell (nad_cells HA.out 0 _ rfl)
    have r1 := kept_cell (nad_cells HA.out 1 _ rfl)
    have r2 := kept_cell (nad_cells HA.out 2 _ rfl)
    have r3 := kept_cell (nad_cells HA.out 3 _ rfl)
    have r4 := kept_cell (nad_cells HA.out 4 _ rfl)
    have r5 := kept_cell (nad_cells HA.out 5 _ rfl)
    have r6 := kept_cell (nad_cells HA.out 6 _ rfl)
    have r7 := kept_cell (nad_cells HA.out 7 _ rfl)
    have r8 := kept_cell (nad_cells HA.out 8 _ rfl)
    have r9 := kept_cell (nad_cells HA.out 9 _ rfl)
    have r10 := kept_cell (nad_cells HA.out 10 _ rfl)
    refine wp_region_kept_tail 21 hmx (by kernel_rfl) ?_
    simp only [List.take_succ_cons, List.take_zero, List.drop_succ_cons, List.drop_zero]
    repeat (go_big_quiet_step (first | (with_reducible exact hIs _) | (with_reducible exact hCl _) | (with_reducible exact hLi _)))
    refine wpQuiet_nil ?_
    rintro _ ⟨pw, rfl⟩
    have hZ2 := (pw.h.block (b + 1) (blk_lt HZ.out)).trans HZ.out
    clear q0 q1 q2 q3 q4 q5 q6 q7 q8 q9 q10 r0 r1 r2 r3 r4 r5 r6 r7 r8 r9 r10 hIs hCl hLi
    refine wpList_store_row rfl 33 _ _ rfl (b + 1) #[.int .i64 0, .int .i64 0, .int .i64 0, .int .i64 a3, .int .i64 0, .slice none 0 0, .slice Ar rs.length cr, .bool b1, .bool b2, .slice Au lu cu, .slice Ab lb cb] rfl rfl 33 _ hZ2 (by kernel_rfl) rfl (by simp [Value.oneCell']) ?_
    refine wpList_nil ?_
    have HX := Lib.hid (setRow_heap pw.w' (b + 1) _ #[.int .i64 0, .int .i64 0, .int .i64 0, .int .i64 a3, .int .i64 0, .slice none 0 0, .slice Ar rs.length cr, .bool b1, .bool b2, .slice Au lu cu, .slice Ab lb cb] _ _ hZ2)
    have HY := Lib.hid (below_setRow (B := b) (g := b + 1) (HB.out.trans (pw.h.mono (blk_lt HA.out |> Nat.le_of_lt))) (by omega) #[.int .i64 0, .int .i64 0, .int .i64 0, .int .i64 a3, .int .i64 0, .slice none 0 0, .slice Ar rs.length cr, .bool b1, .bool b2, .slice Au lu cu, .slice Ab lb cb])
    clear hZ2
    generalize pw.w'.setRow (b + 1) #[.int .i64 0, .int .i64 0, .int .i64 0, .int .i64 a3, .int .i64 0, .slice none 0 0, .slice Ar rs.length cr, .bool b1, .bool b2, .slice Au lu cu, .slice Ab lb cb] = W3 at *
    go_wp2_with fail
    refine bodyPost_ret (results_tmp_cell rfl _ _ (b + 1) 33 #[.int .i64 0, .int .i64 0, .int .i64 0, .int .i64 a3, .int .i64 0, .slice none 0 0, .slice Ar rs.length cr, .bool b1, .bool b2, .slice Au lu cu, .slice Ab lb cb] (0, 0) _ rfl HX.out Tryd.underlying33 rfl (by kernel_rfl)) rfl ?_
    exact ⟨by first | rfl |  simp_all, by rw [HBB.out]; exact HY.out⟩
  ·
    cases e2 : runeB a2
    ·
      go_enter Tryd.func24, Tryd.ntmps24
      go_upto_region 1 with fail
      go_region
      go_wp2_with fail
      generalize hW2 : (((w.alloc (Obj.cells #[.int .i64 0, .int .i64 a1, .int .i64 a2, .int .i64 a3, .int .i64 a4, .slice Ap lp cp, .slice Ar rs.length cr, .bool b1, .bool b2, .slice Au lu cu, .slice Ab lb cb] 33)).alloc (Obj.cells #[.int .i64 0, .int .i64 0, .int .i64 0, .int .i64 0, .int .i64 0, .slice none 0 0, .slice none 0 0, .bool false, .bool false, .slice none 0 0, .slice none 0 0] 33)).alloc (Obj.cells #[.int .i64 0, .int .i64 0, .int .i64 0, .int .i64 a3, .int .i64 0, .slice none 0 0, .slice Ar rs.length cr, .bool b1, .bool b2, .slice Au lu cu, .slice Ab lb cb] 33)).drew = W2 at *
      clear hW2
      have hT2 : ∀ p : Kept W2, LexTabs p.w' := fun p => HTT.out.below (HB.out.trans (p.h.mono HB.out.size))
      have hIs : ∀ p : Kept W2, _ := fun p => kept_calls (p := p) (isRune_calls a2 p.w' (hT2 p))
      have hCl : ∀ p : Kept W2, _ := fun p => kept_calls (p := p) (class_calls a2 p.w')
      have hLi : ∀ p : Kept W2, _ := fun p => kept_calls (p := p) (limits_calls 0 a1 a2 a3 a4 Ap lp cp Ar rs.length cr b1 b2 Au lu cu Ab lb cb p.w')
      rw [e2] at hIs
      obtain ⟨b, hb⟩ : ∃ b, w.heap.size = b := ⟨_, rfl⟩
      rw [hb] at HA HZ HR HB ⊢
      have HBB := Lib.hid hb
      clear hb hT2
      have q0 := kept_cell (nad_cells HR.out 0 _ rfl)
      have q1 := kept_cell (nad_cells HR.out 1 _ rfl)
      have q2 := kept_cell (nad_cells HR.out 2 _ rfl)
      have q3 := kept_cell (nad_cells HR.out 3 _ rfl)
      have q4 := kept_cell (nad_cells HR.out 4 _ rfl)
      have q5 := kept_cell (nad_cells HR.out 5 _ rfl)
      have q6 := kept_cell (nad_cells HR.out 6 _ rfl)
      have q7 := kept_cell (nad_cells HR.out 7 _ rfl)
      have q8 := kept_cell (nad_cells HR.out 8 _ rfl)
      have q9 := kept_cell (nad_cells HR.out 9 _ rfl)
      have q10 := kept_cell (nad_cells HR.out 10 _ rfl)
      have r0 := kept_cell (nad_cells HA.out 0 _ rfl)
      have r1 := kept_cell (nad_cells HA.out 1 _ rfl)
      have r2 := kept_cell (nad_cells HA.out 2 _ rfl)
      have r3 := kept_cell (nad_cells HA.out 3 _ rfl)
      have r4 := kept_cell (nad_cells HA.out 4 _ rfl)
      have r5 := kept_cell (nad_cells HA.out 5 _ rfl)
      have r6 := kept_cell (nad_cells HA.out 6 _ rfl)
      have r7 := kept_cell (nad_cells HA.out 7 _ rfl)
      have r8 := kept_cell (nad_cells HA.out 8 _ rfl)
      have r9 := kept_cell (nad_cells HA.out 9 _ rfl)
      have r10 := kept_cell (nad_cells HA.out 10 _ rfl)
      refine wp_region_kept_tail 21 hmx (by kernel_rfl) ?_
      simp only [List.take_succ_cons, List.take_zero, List.drop_succ_cons, List.drop_zero]
      repeat (go_big_quiet_step (first | (with_reducible exact hIs _) | (with_reducible exact hCl _) | (with_reducible exact hLi _)))
      refine wpQuiet_nil ?_
      rintro _ ⟨pw, rfl⟩
      have hZ2 := (pw.h.block (b + 1) (blk_lt HZ.out)).trans HZ.out
      clear q0 q1 q2 q3 q4 q5 q6 q7 q8 q9 q10 r0 r1 r2 r3 r4 r5 r6 r7 r8 r9 r10 hIs hCl hLi
      refine wpList_store_row rfl 33 _ _ rfl (b + 1) #[.int .i64 0, .int .i64 0, .int .i64 0, .int .i64 a3, .int .i64 0, .slice none 0 0, .slice Ar rs.length cr, .bool b1, .bool b2, .slice Au lu cu, .slice Ab lb cb] rfl rfl 33 _ hZ2 (by kernel_rfl) rfl (by simp [Value.oneCell']) ?_
      refine wpList_nil ?_
      have HX := Lib.hid (setRow_heap pw.w' (b + 1) _ #[.int .i64 0, .int .i64 0, .int .i64 0, .int .i64 a3, .int .i64 0, .slice none 0 0, .slice Ar rs.length cr, .bool b1, .bool b2, .slice Au lu cu, .slice Ab lb cb] _ _ hZ2)
      have HY := Lib.hid (below_setRow (B := b) (g := b + 1) (HB.out.trans (pw.h.mono (blk_lt HA.out |> Nat.le_of_lt))) (by omega) #[.int .i64 0, .int .i64 0, .int .i64 0, .int .i64 a3, .int .i64 0, .slice none 0 0, .slice Ar rs.length cr, .bool b1, .bool b2, .slice Au lu cu, .slice Ab lb cb])
      clear hZ2
      generalize pw.w'.setRow (b + 1) #[.int .i64 0, .int .i64 0, .int .i64 0, .int .i64 a3, .int .i64 0, .slice none 0 0, .slice Ar rs.length cr, .bool b1, .bool b2, .slice Au lu cu, .slice Ab lb cb] = W3 at *
      go_wp2_with fail
      refine bodyPost_ret (results_tmp_cell rfl _ _ (b + 1) 33 #[.int .i64 0, .int .i64 0, .int .i64 0, .int .i64 a3, .int .i64 0, .slice none 0 0, .slice Ar rs.length cr, .bool b1, .bool b2, .slice Au lu cu, .slice Ab lb cb] (0, 0) _ rfl HX.out Tryd.underlying33 rfl (by kernel_rfl)) rfl ?_
      exact ⟨by first | rfl |  simp_all, by rw [HBB.out]; exact HY.out⟩
    ·
      cases e3 : (a1 == clsR a2)
      ·
        go_enter Tryd.func24, Tryd.ntmps24
        go_upto_region 1 with fail
        go_region
        go_wp2_with fail
        generalize hW2 : (((w.alloc (Obj.cells #[.int .i64 0, .int .i64 a1, .int .i64 a2, .int .i64 a3, .int .i64 a4, .slice Ap lp cp, .slice Ar rs.length cr, .bool b1, .bool b2, .slice Au lu cu, .slice Ab lb cb] 33)).alloc (Obj.cells #[.int .i64 0, .int .i64 0, .int .i64 0, .int .i64 0, .int .i64 0, .slice none 0 0, .slice none 0 0, .bool false, .bool false, .slice none 0 0, .slice none 0 0] 33)).alloc (Obj.cells #[.int .i64 0, .int .i64 0, .int .i64 0, .int .i64 a3, .int .i64 0, .slice none 0 0, .slice Ar rs.length cr, .bool b1, .bool b2, .slice Au lu cu, .slice Ab lb cb] 33)).drew = W2 at *
        clear hW2
        have hT2 : ∀ p : Kept W2, LexTabs p.w' := fun p => HTT.out.below (HB.out.trans (p.h.mono HB.out.size))
        have hIs : ∀ p : Kept W2, _ := fun p => kept_calls (p := p) (isRune_calls a2 p.w' (hT2 p))
        have hCl : ∀ p : Kept W2, _ := fun p => kept_calls (p := p) (class_calls a2 p.w')
        have hLi : ∀ p : Kept W2, _ := fun p => kept_calls (p := p) (limits_calls 0 a1 a2 a3 a4 Ap lp cp Ar rs.length cr b1 b2 Au lu cu Ab lb cb p.w')
        rw [e2] at hIs
        obtain ⟨b, hb⟩ : ∃ b, w.heap.size = b := ⟨_, rfl⟩
        rw [hb] at HA HZ HR HB ⊢
        have HBB := Lib.hid hb
        clear hb hT2
        have q0 := kept_cell (nad_cells HR.out 0 _ rfl)
        have q1 := kept_cell (nad_cells HR.out 1 _ rfl)
        have q2 := kept_cell (nad_cells HR.out 2 _ rfl)
        have q3 := kept_cell (nad_cells HR.out 3 _ rfl)
        have q4 := kept_cell (nad_cells HR.out 4 _ rfl)
        have q5 := kept_cell (nad_cells HR.out 5 _ rfl)
        have q6 := kept_cell (nad_cells HR.out 6 _ rfl)
        have q7 := kept_cell (nad_cells HR.out 7 _ rfl)
        have q8 := kept_cell (nad_cells HR.out 8 _ rfl)
        have q9 := kept_cell (nad_cells HR.out 9 _ rfl)
        have q10 := kept_cell (nad_cells HR.out 10 _ rfl)
        have r0 := kept_cell (nad_cells HA.out 0 _ rfl)
        have r1 := kept_cell (nad_cells HA.out 1 _ rfl)
        have r2 := kept_cell (nad_cells HA.out 2 _ rfl)
        have r3 := kept_cell (nad_cells HA.out 3 _ rfl)
        have r4 := kept_cell (nad_cells HA.out 4 _ rfl)
        have r5 := kept_cell (nad_cells HA.out 5 _ rfl)
        have r6 := kept_cell (nad_cells HA.out 6 _ rfl)
        have r7 := kept_cell (nad_cells HA.out 7 _ rfl)
        have r8 := kept_cell (nad_cells HA.out 8 _ rfl)
        have r9 := kept_cell (nad_cells HA.out 9 _ rfl)
        have r10 := kept_cell (nad_cells HA.out 10 _ rfl)
        refine wp_region_kept_tail 21 hmx (by kernel_rfl) ?_
        simp only [List.take_succ_cons, List.take_zero, List.drop_succ_cons, List.drop_zero]
        repeat (go_big_quiet_step (first | (with_reducible exact hIs _) | (with_reducible exact hCl _) | (with_reducible exact hLi _)))
        refine wpQuiet_nil ?_
        rintro _ ⟨pw, rfl⟩
        have hZ2 := (pw.h.block (b + 1) (blk_lt HZ.out)).trans HZ.out
        clear q0 q1 q2 q3 q4 q5 q6 q7 q8 q9 q10 r0 r1 r2 r3 r4 r5 r6 r7 r8 r9 r10 hIs hCl hLi
        refine wpList_store_row rfl 33 _ _ rfl (b + 1) #[.int .i64 0, .int .i64 0, .int .i64 0, .int .i64 a3, .int .i64 0, .slice none 0 0, .slice Ar rs.length cr, .bool b1, .bool b2, .slice Au lu cu, .slice Ab lb cb] rfl rfl 33 _ hZ2 (by kernel_rfl) rfl (by simp [Value.oneCell']) ?_
        refine wpList_nil ?_
        have HX := Lib.hid (setRow_heap pw.w' (b + 1) _ #[.int .i64 0, .int .i64 0, .int .i64 0, .int .i64 a3, .int .i64 0, .slice none 0 0, .slice Ar rs.length cr, .bool b1, .bool b2, .slice Au lu cu, .slice Ab lb cb] _ _ hZ2)
        have HY := Lib.hid (below_setRow (B := b) (g := b + 1) (HB.out.trans (pw.h.mono (blk_lt HA.out |> Nat.le_of_lt))) (by omega) #[.int .i64 0, .int .i64 0, .int .i64 0, .int .i64 a3, .int .i64 0, .slice none 0 0, .slice Ar rs.length cr, .bool b1, .bool b2, .slice Au lu cu, .slice Ab lb cb])
        clear hZ2
        generalize pw.w'.setRow (b + 1) #[.int .i64 0, .int .i64 0, .int .i64 0, .int .i64 a3, .int .i64 0, .slice none 0 0, .slice Ar rs.length cr, .bool b1, .bool b2, .slice Au lu cu, .slice Ab lb cb] = W3 at *
        go_wp2_with fail
        refine bodyPost_ret (results_tmp_cell rfl _ _ (b + 1) 33 #[.int .i64 0, .int .i64 0, .int .i64 0, .int .i64 a3, .int .i64 0, .slice none 0 0, .slice Ar rs.length cr, .bool b1, .bool b2, .slice Au lu cu, .slice Ab lb cb] (0, 0) _ rfl HX.out Tryd.underlying33 rfl (by kernel_rfl)) rfl ?_
        exact ⟨by first | rfl |  simp_all, by rw [HBB.out]; exact HY.out⟩
      ·
        cases e4 : limB a1 a4
        ·
          go_enter Tryd.func24, Tryd.ntmps24
          go_upto_region 1 with fail
          go_region
          go_wp2_with fail
          generalize hW2 : (((w.alloc (Obj.cells #[.int .i64 0, .int .i64 a1, .int .i64 a2, .int .i64 a3, .int .i64 a4, .slice Ap lp cp, .slice Ar rs.length cr, .bool b1, .bool b2, .slice Au lu cu, .slice Ab lb cb] 33)).alloc (Obj.cells #[.int .i64 0, .int .i64 0, .int .i64 0, .int .i64 0, .int .i64 0, .slice none 0 0, .slice none 0 0, .bool false, .bool false, .slice none 0 0, .slice none 0 0] 33)).alloc (Obj.cells #[.int .i64 0, .int .i64 0, .int .i64 0, .int .i64 a3, .int .i64 0, .slice none 0 0, .slice Ar rs.length cr, .bool b1, .bool b2, .slice Au lu cu, .slice Ab lb cb] 33)).drew = W2 at *
          clear hW2
          have hT2 : ∀ p : Kept W2, LexTabs p.w' := fun p => HTT.out.below (HB.out.trans (p.h.mono HB.out.size))
          have hIs : ∀ p : Kept W2, _ := fun p => kept_calls (p := p) (isRune_calls a2 p.w' (hT2 p))
          have hCl : ∀ p : Kept W2, _ := fun p => kept_calls (p := p) (class_calls a2 p.w')
          have hLi : ∀ p : Kept W2, _ := fun p => kept_calls (p := p) (limits_calls 0 a1 a2 a3 a4 Ap lp cp Ar rs.length cr b1 b2 Au lu cu Ab lb cb p.w')
          rw [e2] at hIs
          rw [e4] at hLi
          obtain ⟨b, hb⟩ : ∃ b, w.heap.size = b := ⟨_, rfl⟩
          rw [hb] at HA HZ HR HB ⊢
          have HBB := Lib.hid hb
          clear hb hT2
          have q0 := kept_cell (nad_cells HR.out 0 _ rfl)
          have q1 := kept_cell (nad_cells HR.out 1 _ rfl)
          have q2 := kept_cell (nad_cells HR.out 2 _ rfl)
          have q3 := kept_cell (nad_cells HR.out 3 _ rfl)
          have q4 := kept_cell (nad_cells HR.out 4 _ rfl)
          have q5 := kept_cell (nad_cells HR.out 5 _ rfl)
          have q6 := kept_cell (nad_cells HR.out 6 _ rfl)
          have q7 := kept_cell (nad_cells HR.out 7 _ rfl)
          have q8 := kept_cell (nad_cells HR.out 8 _ rfl)
          have q9 := kept_cell (nad_cells HR.out 9 _ rfl)
          have q10 := kept_cell (nad_cells HR.out 10 _ rfl)
          have r0 := kept_cell (nad_cells HA.out 0 _ rfl)
          have r1 := kept_cell (nad_cells HA.out 1 _ rfl)
          have r2 := kept_cell (nad_cells HA.out 2 _ rfl)
          have r3 := kept_cell (nad_cells HA.out 3 _ rfl)
          have r4 := kept_cell (nad_cells HA.out 4 _ rfl)
          have r5 := kept_cell (nad_cells HA.out 5 _ rfl)
          have r6 := kept_cell (nad_cells HA.out 6 _ rfl)
          have r7 := kept_cell (nad_cells HA.out 7 _ rfl)
          have r8 := kept_cell (nad_cells HA.out 8 _ rfl)
          have r9 := kept_cell (nad_cells HA.out 9 _ rfl)
          have r10 := kept_cell (nad_cells HA.out 10 _ rfl)
          refine wp_region_kept_tail 21 hmx (by kernel_rfl) ?_
          simp only [List.take_succ_cons, List.take_zero, List.drop_succ_cons, List.drop_zero]
          repeat (go_big_quiet_step (first | (with_reducible exact hIs _) | (with_reducible exact hCl _) | (with_reducible exact hLi _)))
          refine wpQuiet_nil ?_
          rintro _ ⟨pw, rfl⟩
          have hZ2 := (pw.h.block (b + 1) (blk_lt HZ.out)).trans HZ.out
          clear q0 q1 q2 q3 q4 q5 q6 q7 q8 q9 q10 r0 r1 r2 r3 r4 r5 r6 r7 r8 r9 r10 hIs hCl hLi
          refine wpList_store_row rfl 33 _ _ rfl (b + 1) #[.int .i64 0, .int .i64 0, .int .i64 0, .int .i64 a3, .int .i64 0, .slice none 0 0, .slice Ar rs.length cr, .bool b1, .bool b2, .slice Au lu cu, .slice Ab lb cb] rfl rfl 33 _ hZ2 (by kernel_rfl) rfl (by simp [Value.oneCell']) ?_
          refine wpList_nil ?_
          have HX := Lib.hid (setRow_heap pw.w' (b + 1) _ #[.int .i64 0, .int .i64 0, .int .i64 0, .int .i64 a3, .int .i64 0, .slice none 0 0, .slice Ar rs.length cr, .bool b1, .bool b2, .slice Au lu cu, .slice Ab lb cb] _ _ hZ2)
          have HY := Lib.hid (below_setRow (B := b) (g := b + 1) (HB.out.trans (pw.h.mono (blk_lt HA.out |> Nat.le_of_lt))) (by omega) #[.int .i64 0, .int .i64 0, .int .i64 0, .int .i64 a3, .int .i64 0, .slice none 0 0, .slice Ar rs.length cr, .bool b1, .bool b2, .slice Au lu cu, .slice Ab lb cb])
          clear hZ2
          generalize pw.w'.setRow (b + 1) #[.int .i64 0, .int .i64 0, .int .i64 0, .int .i64 a3, .int .i64 0, .slice none 0 0, .slice Ar rs.length cr, .bool b1, .bool b2, .slice Au lu cu, .slice Ab lb cb] = W3 at *
          go_wp2_with fail
          refine bodyPost_ret (results_tmp_cell rfl _ _ (b + 1) 33 #[.int .i64 0, .int .i64 0, .int .i64 0, .int .i64 a3, .int .i64 0, .slice none 0 0, .slice Ar rs.length cr, .bool b1, .bool b2, .slice Au lu cu, .slice Ab lb cb] (0, 0) _ rfl HX.out Tryd.underlying33 rfl (by kernel_rfl)) rfl ?_
          exact ⟨by first | rfl |  simp_all, by rw [HBB.out]; exact HY.out⟩
        ·
          go_enter Tryd.func24, Tryd.ntmps24
          go_upto_region 1 with fail
          go_region
          go_wp2_with fail
          generalize hW2 : (((w.alloc (Obj.cells #[.int .i64 0, .int .i64 a1, .int .i64 a2, .int .i64 a3, .int .i64 a4, .slice Ap lp cp, .slice Ar rs.length cr, .bool b1, .bool b2, .slice Au lu cu, .slice Ab lb cb] 33)).alloc (Obj.cells #[.int .i64 0, .int .i64 0, .int .i64 0, .int .i64 0, .int .i64 0, .slice none 0 0, .slice none 0 0, .bool false, .bool false, .slice none 0 0, .slice none 0 0] 33)).alloc (Obj.cells #[.int .i64 0, .int .i64 0, .int .i64 0, .int .i64 a3, .int .i64 0, .slice none 0 0, .slice Ar rs.length cr, .bool b1, .bool b2, .slice Au lu cu, .slice Ab lb cb] 33)).drew = W2 at *
          clear hW2
          have hT2 : ∀ p : Kept W2, LexTabs p.w' := fun p => HTT.out.below (HB.out.trans (p.h.mono HB.out.size))
          have hIs : ∀ p : Kept W2, _ := fun p => kept_calls (p := p) (isRune_calls a2 p.w' (hT2 p))
          have hCl : ∀ p : Kept W2, _ := fun p => kept_calls (p := p) (class_calls a2 p.w')
          have hLi : ∀ p : Kept W2, _ := fun p => kept_calls (p := p) (limits_calls 0 a1 a2 a3 a4 Ap lp cp Ar rs.length cr b1 b2 Au lu cu Ab lb cb p.w')
          rw [e2] at hIs
          rw [e4] at hLi
          obtain ⟨b, hb⟩ : ∃ b, w.heap.size = b := ⟨_, rfl⟩
          rw [hb] at HA HZ HR HB ⊢
          have HBB := Lib.hid hb
          clear hb hT2
          have q0 := kept_cell (nad_cells HR.out 0 _ rfl)
          have q1 := kept_cell (nad_cells HR.out 1 _ rfl)
          have q2 := kept_cell (nad_cells HR.out 2 _ rfl)
          have q3 := kept_cell (nad_cells HR.out 3 _ rfl)
          have q4 := kept_cell (nad_cells HR.out 4 _ rfl)
          have q5 := kept_cell (nad_cells HR.out 5 _ rfl)
          have q6 := kept_cell (nad_cells HR.out 6 _ rfl)
          have q7 := kept_cell (nad_cells HR.out 7 _ rfl)
          have q8 := kept_cell (nad_cells HR.out 8 _ rfl)
          have q9 := kept_cell (nad_cells HR.out 9 _ rfl)
          have q10 := kept_cell (nad_cells HR.out 10 _ rfl)
          have r0 := kept_cell (nad_cells HA.out 0 _ rfl)
          have r1 := kept_cell (nad_cells HA.out 1 _ rfl)
          have r2 := kept_cell (nad_cells HA.out 2 _ rfl)
          have r3 := kept_cell (nad_cells HA.out 3 _ rfl)
          have r4 := kept_cell (nad_cells HA.out 4 _ rfl)
          have r5 := kept_cell (nad_cells HA.out 5 _ rfl)
          have r6 := kept_cell (nad_cells HA.out 6 _ rfl)
          have r7 := kept_cell (nad_cells HA.out 7 _ rfl)
          have r8 := kept_cell (nad_cells HA.out 8 _ rfl)
          have r9 := kept_cell (nad_cells HA.out 9 _ rfl)
          have r10 := kept_cell (nad_cells HA.out 10 _ rfl)
          refine wp_region_kept_tail 21 hmx (by kernel_rfl) ?_
          simp only [List.take_succ_cons, List.take_zero, List.drop_succ_cons, List.drop_zero]
          repeat (go_big_quiet_step (first | (with_reducible exact hIs _) | (with_reducible exact hCl _) | (with_reducible exact hLi _)))
          refine wpQuiet_nil ?_
          rintro _ ⟨pw, rfl⟩
          have hZ2 := (pw.h.block (b + 1) (blk_lt HZ.out)).trans HZ.out
          clear q0 q1 q2 q3 q4 q5 q6 q7 q8 q9 q10 r0 r1 r2 r3 r4 r5 r6 r7 r8 r9 r10 hIs hCl hLi
          refine wpList_store_row rfl 33 _ _ rfl (b + 1) #[.int .i64 0, .int .i64 0, .int .i64 0, .int .i64 a3, .int .i64 0, .slice none 0 0, .slice Ar rs.length cr, .bool b1, .bool b2, .slice Au lu cu, .slice Ab lb cb] rfl rfl 33 _ hZ2 (by kernel_rfl) rfl (by simp [Value.oneCell']) ?_
          refine wpList_nil ?_
          have HX := Lib.hid (setRow_heap pw.w' (b + 1) _ #[.int .i64 0, .int .i64 0, .int .i64 0, .int .i64 a3, .int .i64 0, .slice none 0 0, .slice Ar rs.length cr, .bool b1, .bool b2, .slice Au lu cu, .slice Ab lb cb] _ _ hZ2)
          have HY := Lib.hid (below_setRow (B := b) (g := b + 1) (HB.out.trans (pw.h.mono (blk_lt HA.out |> Nat.le_of_lt))) (by omega) #[.int .i64 0, .int .i64 0, .int .i64 0, .int .i64 a3, .int .i64 0, .slice none 0 0, .slice Ar rs.length cr, .bool b1, .bool b2, .slice Au lu cu, .slice Ab lb cb])
          clear hZ2
          generalize pw.w'.setRow (b + 1) #[.int .i64 0, .int .i64 0, .int .i64 0, .int .i64 a3, .int .i64 0, .slice none 0 0, .slice Ar rs.length cr, .bool b1, .bool b2, .slice Au lu cu, .slice Ab lb cb] = W3 at *
          go_wp2_with fail
          refine bodyPost_ret (results_tmp_cell rfl _ _ (b + 1) 33 #[.int .i64 0, .int .i64 0, .int .i64 0, .int .i64 a3, .int .i64 0, .slice none 0 0, .slice Ar rs.length cr, .bool b1, .bool b2, .slice Au lu cu, .slice Ab lb cb] (0, 0) _ rfl HX.out Tryd.underlying33 rfl (by kernel_rfl)) rfl ?_
          exact ⟨by first | rfl |  simp_all, by rw [HBB.out]; exact HY.out⟩

set_option maxRecDepth 100000 in
set_option maxHeartbeats 1000000 in
theorem own_8 (a1 a2 a3 a4 : Int) (Ap : Option Addr) (lp cp : Nat) (Ar : Option Addr) (rs : List Int) (cr : Nat) (b1 b2 : Bool) (Au : Option Addr) (lu cu : Nat) (Ab : Option Addr) (lb cb : Nat) (w : World) (hT : LexTabs w) (hlp : lp ≤ 2000000) (hrs : rs.length ≤ 2000000) (hr : rdS (fun (n : Int) cs => cs = [.int .i64 n] ∧ inI n) 1 w (.slice Ar rs.length cr) rs) :
    Calls Tryd.prog 24 #[.agg #[.int .i64 8, .int .i64 a1, .int .i64 a2, .int .i64 a3, .int .i64 a4, .slice Ap lp cp, .slice Ar rs.length cr, .bool b1, .bool b2, .slice Au lu cu, .slice Ab lb cb]] w fun e w' => e = .returned (.tuple #[.bool (decide (1 ≤ a3) && decide (a3 ≤ 64) && decide (1 ≤ (lp : Int)) && ((lp : Int) % a3 == 0)), .agg #[.int .i64 8, .int .i64 a1, .int .i64 a2, .int .i64 0, .int .i64 a4, .slice none 0 0, .slice Ar rs.length cr, .bool b1, .bool b2, .slice Au lu cu, .slice Ab lb cb]]) ∧ Below w.heap.size w w' := by
  obtain ⟨hA, hZ, hR, hB⟩ := three_blocks w (Obj.cells #[.int .i64 8, .int .i64 a1, .int .i64 a2, .int .i64 a3, .int .i64 a4, .slice Ap lp cp, .slice Ar rs.length cr, .bool b1, .bool b2, .slice Au lu cu, .slice Ab lb cb] 33) (Obj.cells #[.int .i64 0, .int .i64 0, .int .i64 0, .int .i64 0, .int .i64 0, .slice none 0 0, .slice none 0 0, .bool false, .bool false, .slice none 0 0, .slice none 0 0] 33) (Obj.cells #[.int .i64 8, .int .i64 a1, .int .i64 a2, .int .i64 0, .int .i64 a4, .slice none 0 0, .slice Ar rs.length cr, .bool b1, .bool b2, .slice Au lu cu, .slice Ab lb cb] 33)
  have HA := Lib.hid hA
  have HZ := Lib.hid hZ
  have HR := Lib.hid hR
  have HB := Lib.hid hB
  have HTT := Lib.hid hT
  have HRS := Lib.hid hr
  have hrem : ∀ w : World, True := fun _ => trivial
  clear hA hZ hR hB hT hr
  have hmx : Tryd.prog.follows .mixedOrders = true := by kernel_rfl
  cases e1 : decide (1 ≤ a3)
  ·
    go_enter Tryd.func24, Tryd.ntmps24
    go_upto_region 1 with fail
    go_region
    go_wp2_with fail
    generalize hW2 : (((w.alloc (Obj.cells #[.int .i64 8, .int .i64 a1, .int .i64 a2, .int .i64 a3, .int .i64 a4, .slice Ap lp cp, .slice Ar rs.length cr, .bool b1, .bool b2, .slice Au lu cu, .slice Ab lb cb] 33)).alloc (Obj.cells #[.int .i64 0, .int .i64 0, .int .i64 0, .int .i64 0, .int .i64 0, .slice none 0 0, .slice none 0 0, .bool false, .bool false, .slice none 0 0, .slice none 0 0] 33)).alloc (Obj.cells #[.int .i64 8, .int .i64 a1, .int .i64 a2, .int .i64 0, .int .i64 a4, .slice none 0 0, .slice Ar rs.length cr, .bool b1, .bool b2, .slice Au lu cu, .slice Ab lb cb] 33)).drew = W2 at *
    clear hW2
    obtain ⟨b, hb⟩ : ∃ b, w.heap.size = b := ⟨_, rfl⟩
    rw [hb] at HA HZ HR HB ⊢
    have HBB := Lib.hid hb
    clear hb
    have q0 := kept_cell (nad_cells HR.out 0 _ rfl)
    have q1 := kept_cell (nad_cells HR.out 1 _ rfl)
    have q2 := kept_cell (nad_cells HR.out 2 _ rfl)
    have q3 := kept_cell (nad_cells HR.out 3 _ rfl)
    have q4 := kept_cell (nad_cells HR.out 4 _ rfl)
    have q5 := kept_cell (nad_cells HR.out 5 _ rfl)
    have q6 := kept_cell (nad_cells HR.out 6 _ rfl)
    have q7 := kept_cell (nad_cells HR.out 7 _ rfl)
    have q8 := kept_cell (nad_cells HR.out 8 _ rfl)
    have q9 := kept_cell (nad_cells HR.out 9 _ rfl)
    have q10 := kept_cell (nad_cells HR.out 10 _ rfl)
    have r3 := kept_cell (nad_cells HA.out 3 _ rfl)
    refine wp_region_kept_tail 21 hmx (by kernel_rfl) ?_
    simp only [List.take_succ_cons, List.take_zero, List.drop_succ_cons, List.drop_zero]
    repeat (go_big_quiet_step (fail))
    all_goals (try (fail_if_success (refine wpQuiet_nil ?_)); trace_state)
    refine wpQuiet_nil ?_
    rintro _ ⟨pw, rfl⟩
    have hZ2 := (pw.h.block (b + 1) (blk_lt HZ.out)).trans HZ.out
    clear q0 q1 q2 q3 q4 q5 q6 q7 q8 q9 q10 r3
    refine wpList_store_row rfl 33 _ _ rfl (b + 1) #[.int .i64 8, .int .i64 a1, .int .i64 a2, .int .i64 0, .int .i64 a4, .slice none 0 0, .slice Ar rs.length cr, .bool b1, .bool b2, .slice Au lu cu, .slice Ab lb cb] rfl rfl 33 _ hZ2 (by kernel_rfl) rfl (by simp [Value.oneCell']) ?_
    refine wpList_nil ?_
    have HX := Lib.hid (setRow_heap pw.w' (b + 1) _ #[.int .i64 8, .int .i64 a1, .int .i64 a2, .int .i64 0, .int .i64 a4, .slice none 0 0, .slice Ar rs.length cr, .bool b1, .bool b2, .slice Au lu cu, .slice Ab lb cb] _ _ hZ2)
    have HY := Lib.hid (below_setRow (B := b) (g := b + 1) (HB.out.trans (pw.h.mono (blk_lt HA.out |> Nat.le_of_lt))) (by omega) #[.int .i64 8, .int .i64 a1, .int .i64 a2, .int .i64 0, .int .i64 a4, .slice none 0 0, .slice Ar rs.length cr, .bool b1, .bool b2, .slice Au lu cu, .slice Ab lb cb])
    clear hZ2
    generalize pw.w'.setRow (b + 1) #[.int .i64 8, .int .i64 a1, .int .i64 a2, .int .i64 0, .int .i64 a4, .slice none 0 0, .slice Ar rs.length cr, .bool b1, .bool b2, .slice Au lu cu, .slice Ab lb cb] = W3 at *
    go_wp2_with fail
    refine bodyPost_ret (results_tmp_cell rfl _ _ (b + 1) 33 #[.int .i64 8, .int .i64 a1, .int .i64 a2, .int .i64 0, .int .i64 a4, .slice none 0 0, .slice Ar rs.length cr, .bool b1, .bool b2, .slice Au lu cu, .slice Ab lb cb] (0, 0) _ rfl HX.out Tryd.underlying33 rfl (by kernel_rfl)) rfl ?_
    exact ⟨by first | rfl | (rw [f2]; rfl) | simp_all, by rw [HBB.out]; exact HY.out⟩
  ·
    cases e2 : decide (a3 ≤ 64)
    ·
      go_enter Tryd.func24, Tryd.ntmps24
      go_upto_region 1 with fail
      go_region
      go_wp2_with fail
      generalize hW2 : (((w.alloc (Obj.cells #[.int .i64 8, .int .i64 a1, .int .i64 a2, .int .i64 a3, .int .i64 a4, .slice Ap lp cp, .slice Ar rs.length cr, .bool b1, .bool b2, .slice Au lu cu, .slice Ab lb cb] 33)).alloc (Obj.cells #[.int .i64 0, .int .i64 0, .int .i64 0, .int .i64 0, .int .i64 0, .slice none 0 0, .slice none 0 0, .bool false, .bool false, .slice none 0 0, .slice none 0 0] 33)).alloc (Obj.cells #[.int .i64 8, .int .i64 a1, .int .i64 a2, .int .i64 0, .int .i64 a4, .slice none 0 0, .slice Ar rs.length cr, .bool b1, .bool b2, .slice Au lu cu, .slice Ab lb cb] 33)).drew = W2 at *
      clear hW2
      obtain ⟨b, hb⟩ : ∃ b, w.heap.size = b := ⟨_, rfl⟩
      rw [hb] at HA HZ HR HB ⊢
      have HBB := Lib.hid hb
      clear hb
      have q0 := kept_cell (nad_cells HR.out 0 _ rfl)
      have q1 := kept_cell (nad_cells HR.out 1 _ rfl)
      have q2 := kept_cell (nad_cells HR.out 2 _ rfl)
      have q3 := kept_cell (nad_cells HR.out 3 _ rfl)
      have q4 := kept_cell (nad_cells HR.out 4 _ rfl)
      have q5 := kept_cell (nad_cells HR.out 5 _ rfl)
      have q6 := kept_cell (nad_cells HR.out 6 _ rfl)
      have q7 := kept_cell (nad_cells HR.out 7 _ rfl)
      have q8 := kept_cell (nad_cells HR.out 8 _ rfl)
      have q9 := kept_cell (nad_cells HR.out 9 _ rfl)
      have q10 := kept_cell (nad_cells HR.out 10 _ rfl)
      have r3 := kept_cell (nad_cells HA.out 3 _ rfl)
      refine wp_region_kept_tail 21 hmx (by kernel_rfl) ?_
      simp only [List.take_succ_cons, List.take_zero, List.drop_succ_cons, List.drop_zero]
      repeat (go_big_quiet_step (fail))
      all_goals (try (fail_if_success (refine wpQuiet_nil ?_)); trace_state)
      refine wpQuiet_nil ?_
      rintro _ ⟨pw, rfl⟩
      have hZ2 := (pw.h.block (b + 1) (blk_lt HZ.out)).trans HZ.out
      clear q0 q1 q2 q3 q4 q5 q6 q7 q8 q9 q10 r3
      refine wpList_store_row rfl 33 _ _ rfl (b + 1) #[.int .i64 8, .int .i64 a1, .int .i64 a2, .int .i64 0, .int .i64 a4, .slice none 0 0, .slice Ar rs.length cr, .bool b1, .bool b2, .slice Au lu cu, .slice Ab lb cb] rfl rfl 33 _ hZ2 (by kernel_rfl) rfl (by simp [Value.oneCell']) ?_
      refine wpList_nil ?_
      have HX := Lib.hid (setRow_heap pw.w' (b + 1) _ #[.int .i64 8, .int .i64 a1, .int .i64 a2, .int .i64 0, .int .i64 a4, .slice none 0 0, .slice Ar rs.length cr, .bool b1, .bool b2, .slice Au lu cu, .slice Ab lb cb] _ _ hZ2)
      have HY := Lib.hid (below_setRow (B := b) (g := b + 1) (HB.out.trans (pw.h.mono (blk_lt HA.out |> Nat.le_of_lt))) (by omega) #[.int .i64 8, .int .i64 a1, .int .i64 a2, .int .i64 0, .int .i64 a4, .slice none 0 0, .slice Ar rs.length cr, .bool b1, .bool b2, .slice Au lu cu, .slice Ab lb cb])
      clear hZ2
      generalize pw.w'.setRow (b + 1) #[.int .i64 8, .int .i64 a1, .int .i64 a2, .int .i64 0, .int .i64 a4, .slice none 0 0, .slice Ar rs.length cr, .bool b1, .bool b2, .slice Au lu cu, .slice Ab lb cb] = W3 at *
      go_wp2_with fail
      refine bodyPost_ret (results_tmp_cell rfl _ _ (b + 1) 33 #[.int .i64 8, .int .i64 a1, .int .i64 a2, .int .i64 0, .int .i64 a4, .slice none 0 0, .slice Ar rs.length cr, .bool b1, .bool b2, .slice Au lu cu, .slice Ab lb cb] (0, 0) _ rfl HX.out Tryd.underlying33 rfl (by kernel_rfl)) rfl ?_
      exact ⟨by first | rfl | (rw [f2]; rfl) | simp_all, by rw [HBB.out]; exact HY.out⟩
    ·
      cases e3 : decide (1 ≤ lp)
      ·
        go_enter Tryd.func24, Tryd.ntmps24
        go_upto_region 1 with fail
        go_region
        go_wp2_with fail
        generalize hW2 : (((w.alloc (Obj.cells #[.int .i64 8, .int .i64 a1, .int .i64 a2, .int .i64 a3, .int .i64 a4, .slice Ap lp cp, .slice Ar rs.length cr, .bool b1, .bool b2, .slice Au lu cu, .slice Ab lb cb] 33)).alloc (Obj.cells #[.int .i64 0, .int .i64 0, .int .i64 0, .int .i64 0, .int .i64 0, .slice none 0 0, .slice none 0 0, .bool false, .bool false, .slice none 0 0, .slice none 0 0] 33)).alloc (Obj.cells #[.int .i64 8, .int .i64 a1, .int .i64 a2, .int .i64 0, .int .i64 a4, .slice none 0 0, .slice Ar rs.length cr, .bool b1, .bool b2, .slice Au lu cu, .slice Ab lb cb] 33)).drew = W2 at *
        clear hW2
        have f1 : decide (0 < lp) = false := by first | (have := of_decide_eq_true e3; exact decide_eq_true (by omega)) | (have := of_decide_eq_false e3; exact decide_eq_false (by omega))
        have f2 : decide (1 ≤ (lp : Int)) = false := by first | (have := of_decide_eq_true e3; exact decide_eq_true (by omega)) | (have := of_decide_eq_false e3; exact decide_eq_false (by omega))
        have f3 : (a3 == 0) = false := by have := of_decide_eq_true e1; simp; omega
        have f4 : a3 ≠ 0 := by have := of_decide_eq_true e1; omega
        obtain ⟨b, hb⟩ : ∃ b, w.heap.size = b := ⟨_, rfl⟩
        rw [hb] at HA HZ HR HB ⊢
        have HBB := Lib.hid hb
        clear hb
        have q0 := kept_cell (nad_cells HR.out 0 _ rfl)
        have q1 := kept_cell (nad_cells HR.out 1 _ rfl)
        have q2 := kept_cell (nad_cells HR.out 2 _ rfl)
        have q3 := kept_cell (nad_cells HR.out 3 _ rfl)
        have q4 := kept_cell (nad_cells HR.out 4 _ rfl)
        have q5 := kept_cell (nad_cells HR.out 5 _ rfl)
        have q6 := kept_cell (nad_cells HR.out 6 _ rfl)
        have q7 := kept_cell (nad_cells HR.out 7 _ rfl)
        have q8 := kept_cell (nad_cells HR.out 8 _ rfl)
        have q9 := kept_cell (nad_cells HR.out 9 _ rfl)
        have q10 := kept_cell (nad_cells HR.out 10 _ rfl)
        have r3 := kept_cell (nad_cells HA.out 3 _ rfl)
        refine wp_region_kept_tail 21 hmx (by kernel_rfl) ?_
        simp only [List.take_succ_cons, List.take_zero, List.drop_succ_cons, List.drop_zero]
        repeat (go_big_quiet_step (fail))
        all_goals (try (fail_if_success (refine wpQuiet_nil ?_)); trace_state)
        refine wpQuiet_nil ?_
        rintro _ ⟨pw, rfl⟩
        have hZ2 := (pw.h.block (b + 1) (blk_lt HZ.out)).trans HZ.out
        clear q0 q1 q2 q3 q4 q5 q6 q7 q8 q9 q10 r3
        refine wpList_store_row rfl 33 _ _ rfl (b + 1) #[.int .i64 8, .int .i64 a1, .int .i64 a2, .int .i64 0, .int .i64 a4, .slice none 0 0, .slice Ar rs.length cr, .bool b1, .bool b2, .slice Au lu cu, .slice Ab lb cb] rfl rfl 33 _ hZ2 (by kernel_rfl) rfl (by simp [Value.oneCell']) ?_
        refine wpList_nil ?_
        have HX := Lib.hid (setRow_heap pw.w' (b + 1) _ #[.int .i64 8, .int .i64 a1, .int .i64 a2, .int .i64 0, .int .i64 a4, .slice none 0 0, .slice Ar rs.length cr, .bool b1, .bool b2, .slice Au lu cu, .slice Ab lb cb] _ _ hZ2)
        have HY := Lib.hid (below_setRow (B := b) (g := b + 1) (HB.out.trans (pw.h.mono (blk_lt HA.out |> Nat.le_of_lt))) (by omega) #[.int .i64 8, .int .i64 a1, .int .i64 a2, .int .i64 0, .int .i64 a4, .slice none 0 0, .slice Ar rs.length cr, .bool b1, .bool b2, .slice Au lu cu, .slice Ab lb cb])
        clear hZ2
        generalize pw.w'.setRow (b + 1) #[.int .i64 8, .int .i64 a1, .int .i64 a2, .int .i64 0, .int .i64 a4, .slice none 0 0, .slice Ar rs.length cr, .bool b1, .bool b2, .slice Au lu cu, .slice Ab lb cb] = W3 at *
        go_wp2_with fail
        refine bodyPost_ret (results_tmp_cell rfl _ _ (b + 1) 33 #[.int .i64 8, .int .i64 a1, .int .i64 a2, .int .i64 0, .int .i64 a4, .slice none 0 0, .slice Ar rs.length cr, .bool b1, .bool b2, .slice Au lu cu, .slice Ab lb cb] (0, 0) _ rfl HX.out Tryd.underlying33 rfl (by kernel_rfl)) rfl ?_
        exact ⟨by first | rfl | (rw [f2]; rfl) | simp_all, by rw [HBB.out]; exact HY.out⟩
      ·
        go_enter Tryd.func24, Tryd.ntmps24
        go_upto_region 1 with fail
        go_region
        go_wp2_with fail
        generalize hW2 : (((w.alloc (Obj.cells #[.int .i64 8, .int .i64 a1, .int .i64 a2, .int .i64 a3, .int .i64 a4, .slice Ap lp cp, .slice Ar rs.length cr, .bool b1, .bool b2, .slice Au lu cu, .slice Ab lb cb] 33)).alloc (Obj.cells #[.int .i64 0, .int .i64 0, .int .i64 0, .int .i64 0, .int .i64 0, .slice none 0 0, .slice none 0 0, .bool false, .bool false, .slice none 0 0, .slice none 0 0] 33)).alloc (Obj.cells #[.int .i64 8, .int .i64 a1, .int .i64 a2, .int .i64 0, .int .i64 a4, .slice none 0 0, .slice Ar rs.length cr, .bool b1, .bool b2, .slice Au lu cu, .slice Ab lb cb] 33)).drew = W2 at *
        clear hW2
        have f1 : decide (0 < lp) = true := by first | (have := of_decide_eq_true e3; exact decide_eq_true (by omega)) | (have := of_decide_eq_false e3; exact decide_eq_false (by omega))
        have f2 : decide (1 ≤ (lp : Int)) = true := by first | (have := of_decide_eq_true e3; exact decide_eq_true (by omega)) | (have := of_decide_eq_false e3; exact decide_eq_false (by omega))
        have f3 : (a3 == 0) = false := by have := of_decide_eq_true e1; simp; omega
        have f4 : a3 ≠ 0 := by have := of_decide_eq_true e1; omega
        obtain ⟨b, hb⟩ : ∃ b, w.heap.size = b := ⟨_, rfl⟩
        rw [hb] at HA HZ HR HB ⊢
        have HBB := Lib.hid hb
        clear hb
        have q0 := kept_cell (nad_cells HR.out 0 _ rfl)
        have q1 := kept_cell (nad_cells HR.out 1 _ rfl)
        have q2 := kept_cell (nad_cells HR.out 2 _ rfl)
        have q3 := kept_cell (nad_cells HR.out 3 _ rfl)
        have q4 := kept_cell (nad_cells HR.out 4 _ rfl)
        have q5 := kept_cell (nad_cells HR.out 5 _ rfl)
        have q6 := kept_cell (nad_cells HR.out 6 _ rfl)
        have q7 := kept_cell (nad_cells HR.out 7 _ rfl)
        have q8 := kept_cell (nad_cells HR.out 8 _ rfl)
        have q9 := kept_cell (nad_cells HR.out 9 _ rfl)
        have q10 := kept_cell (nad_cells HR.out 10 _ rfl)
        have r3 := kept_cell (nad_cells HA.out 3 _ rfl)
        refine wp_region_kept_tail 21 hmx (by kernel_rfl) ?_
        simp only [List.take_succ_cons, List.take_zero, List.drop_succ_cons, List.drop_zero]
        repeat (go_big_quiet_step (fail))
        all_goals (try (fail_if_success (refine wpQuiet_nil ?_)); trace_state)
        refine wpQuiet_nil ?_
        rintro _ ⟨pw, rfl⟩
        have hZ2 := (pw.h.block (b + 1) (blk_lt HZ.out)).trans HZ.out
        clear q0 q1 q2 q3 q4 q5 q6 q7 q8 q9 q10 r3
        refine wpList_store_row rfl 33 _ _ rfl (b + 1) #[.int .i64 8, .int .i64 a1, .int .i64 a2, .int .i64 0, .int .i64 a4, .slice none 0 0, .slice Ar rs.length cr, .bool b1, .bool b2, .slice Au lu cu, .slice Ab lb cb] rfl rfl 33 _ hZ2 (by kernel_rfl) rfl (by simp [Value.oneCell']) ?_
        refine wpList_nil ?_
        have HX := Lib.hid (setRow_heap pw.w' (b + 1) _ #[.int .i64 8, .int .i64 a1, .int .i64 a2, .int .i64 0, .int .i64 a4, .slice none 0 0, .slice Ar rs.length cr, .bool b1, .bool b2, .slice Au lu cu, .slice Ab lb cb] _ _ hZ2)
        have HY := Lib.hid (below_setRow (B := b) (g := b + 1) (HB.out.trans (pw.h.mono (blk_lt HA.out |> Nat.le_of_lt))) (by omega) #[.int .i64 8, .int .i64 a1, .int .i64 a2, .int .i64 0, .int .i64 a4, .slice none 0 0, .slice Ar rs.length cr, .bool b1, .bool b2, .slice Au lu cu, .slice Ab lb cb])
        clear hZ2
        generalize pw.w'.setRow (b + 1) #[.int .i64 8, .int .i64 a1, .int .i64 a2, .int .i64 0, .int .i64 a4, .slice none 0 0, .slice Ar rs.length cr, .bool b1, .bool b2, .slice Au lu cu, .slice Ab lb cb] = W3 at *
        go_wp2_with fail
        refine bodyPost_ret (results_tmp_cell rfl _ _ (b + 1) 33 #[.int .i64 8, .int .i64 a1, .int .i64 a2, .int .i64 0, .int .i64 a4, .slice none 0 0, .slice Ar rs.length cr, .bool b1, .bool b2, .slice Au lu cu, .slice Ab lb cb] (0, 0) _ rfl HX.out Tryd.underlying33 rfl (by kernel_rfl)) rfl ?_
        exact ⟨by first | rfl | (rw [f2]; rfl) | simp_all, by rw [HBB.out]; exact HY.out⟩

set_option maxRecDepth 100000 in
set_option maxHeartbeats 1000000 in
theorem own_10 (a1 a2 a3 a4 : Int) (Ap : Option Addr) (lp cp : Nat) (Ar : Option Addr) (rs : List Int) (cr : Nat) (b1 b2 : Bool) (Au : Option Addr) (lu cu : Nat) (Ab : Option Addr) (lb cb : Nat) (w : World) (hT : LexTabs w) (hlp : lp ≤ 2000000) (hrs : rs.length ≤ 2000000) (hr : rdS (fun (n : Int) cs => cs = [.int .i64 n] ∧ inI n) 1 w (.slice Ar rs.length cr) rs) :
    Calls Tryd.prog 24 #[.agg #[.int .i64 10, .int .i64 a1, .int .i64 a2, .int .i64 a3, .int .i64 a4, .slice Ap lp cp, .slice Ar rs.length cr, .bool b1, .bool b2, .slice Au lu cu, .slice Ab lb cb]] w fun e w' => e = .returned (.tuple #[.bool (decide (0 ≤ a3) && decide (a3 < 4) && !b1 && !b2), .agg #[.int .i64 10, .int .i64 a1, .int .i64 a2, .int .i64 0, .int .i64 a4, .slice Ap lp cp, .slice Ar rs.length cr, .bool b1, .bool b2, .slice Au lu cu, .slice Ab lb cb]]) ∧ Below w.heap.size w w' := by
  obtain ⟨hA, hZ, hR, hB⟩ := three_blocks w (Obj.cells #[.int .i64 10, .int .i64 a1, .int .i64 a2, .int .i64 a3, .int .i64 a4, .slice Ap lp cp, .slice Ar rs.length cr, .bool b1, .bool b2, .slice Au lu cu, .slice Ab lb cb] 33) (Obj.cells #[.int .i64 0, .int .i64 0, .int .i64 0, .int .i64 0, .int .i64 0, .slice none 0 0, .slice none 0 0, .bool false, .bool false, .slice none 0 0, .slice none 0 0] 33) (Obj.cells #[.int .i64 10, .int .i64 a1, .int .i64 a2, .int .i64 0, .int .i64 a4, .slice Ap lp cp, .slice Ar rs.length cr, .bool b1, .bool b2, .slice Au lu cu, .slice Ab lb cb] 33)
  have HA := Lib.hid hA
  have HZ := Lib.hid hZ
  have HR := Lib.hid hR
  have HB := Lib.hid hB
  have HTT := Lib.hid hT
  have HRS := Lib.hid hr
  clear hA hZ hR hB hT hr
  have hmx : Tryd.prog.follows .mixedOrders = true := by kernel_rfl
  cases e1 : decide (0 ≤ a3)
  ·
    go_enter Tryd.func24, Tryd.ntmps24
    go_upto_region 1 with fail
    go_region
    go_wp2_with fail
    generalize hW2 : (((w.alloc (Obj.cells #[.int .i64 10, .int .i64 a1, .int .i64 a2, .int .i64 a3, .int .i64 a4, .slice Ap lp cp, .slice Ar rs.length cr, .bool b1, .bool b2, .slice Au lu cu, .slice Ab lb cb] 33)).alloc (Obj.cells #[.int .i64 0, .int .i64 0, .int .i64 0, .int .i64 0, .int .i64 0, .slice none 0 0, .slice none 0 0, .bool false, .bool false, .slice none 0 0, .slice none 0 0] 33)).alloc (Obj.cells #[.int .i64 10, .int .i64 a1, .int .i64 a2, .int .i64 0, .int .i64 a4, .slice Ap lp cp, .slice Ar rs.length cr, .bool b1, .bool b2, .slice Au lu cu, .slice Ab lb cb] 33)).drew = W2 at *
    clear hW2
    obtain ⟨b, hb⟩ : ∃ b, w.heap.size = b := ⟨_, rfl⟩
    rw [hb] at HA HZ HR HB ⊢
    have HBB := Lib.hid hb
    clear hb
    have q0 := kept_cell (nad_cells HR.out 0 _ rfl)
    have q1 := kept_cell (nad_cells HR.out 1 _ rfl)
    have q2 := kept_cell (nad_cells HR.out 2 _ rfl)
    have q3 := kept_cell (nad_cells HR.out 3 _ rfl)
    have q4 := kept_cell (nad_cells HR.out 4 _ rfl)
    have q5 := kept_cell (nad_cells HR.out 5 _ rfl)
    have q6 := kept_cell (nad_cells HR.out 6 _ rfl)
    have q7 := kept_cell (nad_cells HR.out 7 _ rfl)
    have q8 := kept_cell (nad_cells HR.out 8 _ rfl)
    have q9 := kept_cell (nad_cells HR.out 9 _ rfl)
    have q10 := kept_cell (nad_cells HR.out 10 _ rfl)
    have r3 := kept_cell (nad_cells HA.out 3 _ rfl)
    have r7 := kept_cell (nad_cells HA.out 7 _ rfl)
    have r8 := kept_cell (nad_cells HA.out 8 _ rfl)
    refine wp_region_kept_tail 20 hmx (by kernel_rfl) ?_
    simp only [List.take_succ_cons, List.take_zero, List.drop_succ_cons, List.drop_zero]
    repeat (go_big_quiet_step (fail))
    refine wpQuiet_nil ?_
    rintro _ ⟨pw, rfl⟩
    have hZ2 := (pw.h.block (b + 1) (blk_lt HZ.out)).trans HZ.out
    clear q0 q1 q2 q3 q4 q5 q6 q7 q8 q9 q10 r3 r7 r8
    refine wpList_store_row rfl 33 _ _ rfl (b + 1) #[.int .i64 10, .int .i64 a1, .int .i64 a2, .int .i64 0, .int .i64 a4, .slice Ap lp cp, .slice Ar rs.length cr, .bool b1, .bool b2, .slice Au lu cu, .slice Ab lb cb] rfl rfl 33 _ hZ2 (by kernel_rfl) rfl (by simp [Value.oneCell']) ?_
    refine wpList_nil ?_
    have HX := Lib.hid (setRow_heap pw.w' (b + 1) _ #[.int .i64 10, .int .i64 a1, .int .i64 a2, .int .i64 0, .int .i64 a4, .slice Ap lp cp, .slice Ar rs.length cr, .bool b1, .bool b2, .slice Au lu cu, .slice Ab lb cb] _ _ hZ2)
    have HY := Lib.hid (below_setRow (B := b) (g := b + 1) (HB.out.trans (pw.h.mono (blk_lt HA.out |> Nat.le_of_lt))) (by omega) #[.int .i64 10, .int .i64 a1, .int .i64 a2, .int .i64 0, .int .i64 a4, .slice Ap lp cp, .slice Ar rs.length cr, .bool b1, .bool b2, .slice Au lu cu, .slice Ab lb cb])
    clear hZ2
    generalize pw.w'.setRow (b + 1) #[.int .i64 10, .int .i64 a1, .int .i64 a2, .int .i64 0, .int .i64 a4, .slice Ap lp cp, .slice Ar rs.length cr, .bool b1, .bool b2, .slice Au lu cu, .slice Ab lb cb] = W3 at *
    go_wp2_with fail
    refine bodyPost_ret (results_tmp_cell rfl _ _ (b + 1) 33 #[.int .i64 10, .int .i64 a1, .int .i64 a2, .int .i64 0, .int .i64 a4, .slice Ap lp cp, .slice Ar rs.length cr, .bool b1, .bool b2, .slice Au lu cu, .slice Ab lb cb] (0, 0) _ rfl HX.out Tryd.underlying33 rfl (by kernel_rfl)) rfl ?_
    exact ⟨by first | rfl |  simp_all, by rw [HBB.out]; exact HY.out⟩
  ·
    cases e2 : decide (a3 < 4)
    ·
      go_enter Tryd.func24, Tryd.ntmps24
      go_upto_region 1 with fail
      go_region
      go_wp2_with fail
      generalize hW2 : (((w.alloc (Obj.cells #[.int .i64 10, .int .i64 a1, .int .i64 a2, .int .i64 a3, .int .i64 a4, .slice Ap lp cp, .slice Ar rs.length cr, .bool b1, .bool b2, .slice Au lu cu, .slice Ab lb cb] 33)).alloc (Obj.cells #[.int .i64 0, .int .i64 0, .int .i64 0, .int .i64 0, .int .i64 0, .slice none 0 0, .slice none 0 0, .bool false, .bool false, .slice none 0 0, .slice none 0 0] 33)).alloc (Obj.cells #[.int .i64 10, .int .i64 a1, .int .i64 a2, .int .i64 0, .int .i64 a4, .slice Ap lp cp, .slice Ar rs.length cr, .bool b1, .bool b2, .slice Au lu cu, .slice Ab lb cb] 33)).drew = W2 at *
      clear hW2
      obtain ⟨b, hb⟩ : ∃ b, w.heap.size = b := ⟨_, rfl⟩
      rw [hb] at HA HZ HR HB ⊢
      have HBB := Lib.hid hb
      clear hb
      have q0 := kept_cell (nad_cells HR.out 0 _ rfl)
      have q1 := kept_cell (nad_cells HR.out 1 _ rfl)
      have q2 := kept_cell (nad_cells HR.out 2 _ rfl)
      have q3 := kept_cell (nad_cells HR.out 3 _ rfl)
      have q4 := kept_cell (nad_cells HR.out 4 _ rfl)
      have q5 := kept_cell (nad_cells HR.out 5 _ rfl)
      have q6 := kept_cell (nad_cells HR.out 6 _ rfl)
      have q7 := kept_cell (nad_cells HR.out 7 _ rfl)
      have q8 := kept_cell (nad_cells HR.out 8 _ rfl)
      have q9 := kept_cell (nad_cells HR.out 9 _ rfl)
      have q10 := kept_cell (nad_cells HR.out 10 _ rfl)
      have r3 := kept_cell (nad_cells HA.out 3 _ rfl)
      have r7 := kept_cell (nad_cells HA.out 7 _ rfl)
      have r8 := kept_cell (nad_cells HA.out 8 _ rfl)
      refine wp_region_kept_tail 20 hmx (by kernel_rfl) ?_
      simp only [List.take_succ_cons, List.take_zero, List.drop_succ_cons, List.drop_zero]
      repeat (go_big_quiet_step (fail))
      refine wpQuiet_nil ?_
      rintro _ ⟨pw, rfl⟩
      have hZ2 := (pw.h.block (b + 1) (blk_lt HZ.out)).trans HZ.out
      clear q0 q1 q2 q3 q4 q5 q6 q7 q8 q9 q10 r3 r7 r8
      refine wpList_store_row rfl 33 _ _ rfl (b + 1) #[.int .i64 10, .int .i64 a1, .int .i64 a2, .int .i64 0, .int .i64 a4, .slice Ap lp cp, .slice Ar rs.length cr, .bool b1, .bool b2, .slice Au lu cu, .slice Ab lb cb] rfl rfl 33 _ hZ2 (by kernel_rfl) rfl (by simp [Value.oneCell']) ?_
      refine wpList_nil ?_
      have HX := Lib.hid (setRow_heap pw.w' (b + 1) _ #[.int .i64 10, .int .i64 a1, .int .i64 a2, .int .i64 0, .int .i64 a4, .slice Ap lp cp, .slice Ar rs.length cr, .bool b1, .bool b2, .slice Au lu cu, .slice Ab lb cb] _ _ hZ2)
      have HY := Lib.hid (below_setRow (B := b) (g := b + 1) (HB.out.trans (pw.h.mono (blk_lt HA.out |> Nat.le_of_lt))) (by omega) #[.int .i64 10, .int .i64 a1, .int .i64 a2, .int .i64 0, .int .i64 a4, .slice Ap lp cp, .slice Ar rs.length cr, .bool b1, .bool b2, .slice Au lu cu, .slice Ab lb cb])
      clear hZ2
      generalize pw.w'.setRow (b + 1) #[.int .i64 10, .int .i64 a1, .int .i64 a2, .int .i64 0, .int .i64 a4, .slice Ap lp cp, .slice Ar rs.length cr, .bool b1, .bool b2, .slice Au lu cu, .slice Ab lb cb] = W3 at *
      go_wp2_with fail
      refine bodyPost_ret (results_tmp_cell rfl _ _ (b + 1) 33 #[.int .i64 10, .int .i64 a1, .int .i64 a2, .int .i64 0, .int .i64 a4, .slice Ap lp cp, .slice Ar rs.length cr, .bool b1, .bool b2, .slice Au lu cu, .slice Ab lb cb] (0, 0) _ rfl HX.out Tryd.underlying33 rfl (by kernel_rfl)) rfl ?_
      exact ⟨by first | rfl |  simp_all, by rw [HBB.out]; exact HY.out⟩
    ·
      cases b1
      ·
        go_enter Tryd.func24, Tryd.ntmps24
        go_upto_region 1 with fail
        go_region
        go_wp2_with fail
        generalize hW2 : (((w.alloc (Obj.cells #[.int .i64 10, .int .i64 a1, .int .i64 a2, .int .i64 a3, .int .i64 a4, .slice Ap lp cp, .slice Ar rs.length cr, .bool false, .bool b2, .slice Au lu cu, .slice Ab lb cb] 33)).alloc (Obj.cells #[.int .i64 0, .int .i64 0, .int .i64 0, .int .i64 0, .int .i64 0, .slice none 0 0, .slice none 0 0, .bool false, .bool false, .slice none 0 0, .slice none 0 0] 33)).alloc (Obj.cells #[.int .i64 10, .int .i64 a1, .int .i64 a2, .int .i64 0, .int .i64 a4, .slice Ap lp cp, .slice Ar rs.length cr, .bool false, .bool b2, .slice Au lu cu, .slice Ab lb cb] 33)).drew = W2 at *
        clear hW2
        obtain ⟨b, hb⟩ : ∃ b, w.heap.size = b := ⟨_, rfl⟩
        rw [hb] at HA HZ HR HB ⊢
        have HBB := Lib.hid hb
        clear hb
        have q0 := kept_cell (nad_cells HR.out 0 _ rfl)
        have q1 := kept_cell (nad_cells HR.out 1 _ rfl)
        have q2 := kept_cell (nad_cells HR.out 2 _ rfl)
        have q3 := kept_cell (nad_cells HR.out 3 _ rfl)
        have q4 := kept_cell (nad_cells HR.out 4 _ rfl)
        have q5 := kept_cell (nad_cells HR.out 5 _ rfl)
        have q6 := kept_cell (nad_cells HR.out 6 _ rfl)
        have q7 := kept_cell (nad_cells HR.out 7 _ rfl)
        have q8 := kept_cell (nad_cells HR.out 8 _ rfl)
        have q9 := kept_cell (nad_cells HR.out 9 _ rfl)
        have q10 := kept_cell (nad_cells HR.out 10 _ rfl)
        have r3 := kept_cell (nad_cells HA.out 3 _ rfl)
        have r7 := kept_cell (nad_cells HA.out 7 _ rfl)
        have r8 := kept_cell (nad_cells HA.out 8 _ rfl)
        refine wp_region_kept_tail 20 hmx (by kernel_rfl) ?_
        simp only [List.take_succ_cons, List.take_zero, List.drop_succ_cons, List.drop_zero]
        repeat (go_big_quiet_step (fail))
        refine wpQuiet_nil ?_
        rintro _ ⟨pw, rfl⟩
        have hZ2 := (pw.h.block (b + 1) (blk_lt HZ.out)).trans HZ.out
        clear q0 q1 q2 q3 q4 q5 q6 q7 q8 q9 q10 r3 r7 r8
        refine wpList_store_row rfl 33 _ _ rfl (b + 1) #[.int .i64 10, .int .i64 a1, .int .i64 a2, .int .i64 0, .int .i64 a4, .slice Ap lp cp, .slice Ar rs.length cr, .bool false, .bool b2, .slice Au lu cu, .slice Ab lb cb] rfl rfl 33 _ hZ2 (by kernel_rfl) rfl (by simp [Value.oneCell']) ?_
        refine wpList_nil ?_
        have HX := Lib.hid (setRow_heap pw.w' (b + 1) _ #[.int .i64 10, .int .i64 a1, .int .i64 a2, .int .i64 0, .int .i64 a4, .slice Ap lp cp, .slice Ar rs.length cr, .bool false, .bool b2, .slice Au lu cu, .slice Ab lb cb] _ _ hZ2)
        have HY := Lib.hid (below_setRow (B := b) (g := b + 1) (HB.out.trans (pw.h.mono (blk_lt HA.out |> Nat.le_of_lt))) (by omega) #[.int .i64 10, .int .i64 a1, .int .i64 a2, .int .i64 0, .int .i64 a4, .slice Ap lp cp, .slice Ar rs.length cr, .bool false, .bool b2, .slice Au lu cu, .slice Ab lb cb])
        clear hZ2
        generalize pw.w'.setRow (b + 1) #[.int .i64 10, .int .i64 a1, .int .i64 a2, .int .i64 0, .int .i64 a4, .slice Ap lp cp, .slice Ar rs.length cr, .bool false, .bool b2, .slice Au lu cu, .slice Ab lb cb] = W3 at *
        go_wp2_with fail
        refine bodyPost_ret (results_tmp_cell rfl _ _ (b + 1) 33 #[.int .i64 10, .int .i64 a1, .int .i64 a2, .int .i64 0, .int .i64 a4, .slice Ap lp cp, .slice Ar rs.length cr, .bool false, .bool b2, .slice Au lu cu, .slice Ab lb cb] (0, 0) _ rfl HX.out Tryd.underlying33 rfl (by kernel_rfl)) rfl ?_
        exact ⟨by first | rfl |  simp_all, by rw [HBB.out]; exact HY.out⟩
      ·
        go_enter Tryd.func24, Tryd.ntmps24
        go_upto_region 1 with fail
        go_region
        go_wp2_with fail
        generalize hW2 : (((w.alloc (Obj.cells #[.int .i64 10, .int .i64 a1, .int .i64 a2, .int .i64 a3, .int .i64 a4, .slice Ap lp cp, .slice Ar rs.length cr, .bool true, .bool b2, .slice Au lu cu, .slice Ab lb cb] 33)).alloc (Obj.cells #[.int .i64 0, .int .i64 0, .int .i64 0, .int .i64 0, .int .i64 0, .slice none 0 0, .slice none 0 0, .bool false, .bool false, .slice none 0 0, .slice none 0 0] 33)).alloc (Obj.cells #[.int .i64 10, .int .i64 a1, .int .i64 a2, .int .i64 0, .int .i64 a4, .slice Ap lp cp, .slice Ar rs.length cr, .bool true, .bool b2, .slice Au lu cu, .slice Ab lb cb] 33)).drew = W2 at *
        clear hW2
        obtain ⟨b, hb⟩ : ∃ b, w.heap.size = b := ⟨_, rfl⟩
        rw [hb] at HA HZ HR HB ⊢
        have HBB := Lib.hid hb
        clear hb
        have q0 := kept_cell (nad_cells HR.out 0 _ rfl)
        have q1 := kept_cell (nad_cells HR.out 1 _ rfl)
        have q2 := kept_cell (nad_cells HR.out 2 _ rfl)
        have q3 := kept_cell (nad_cells HR.out 3 _ rfl)
        have q4 := kept_cell (nad_cells HR.out 4 _ rfl)
        have q5 := kept_cell (nad_cells HR.out 5 _ rfl)
        have q6 := kept_cell (nad_cells HR.out 6 _ rfl)
        have q7 := kept_cell (nad_cells HR.out 7 _ rfl)
        have q8 := kept_cell (nad_cells HR.out 8 _ rfl)
        have q9 := kept_cell (nad_cells HR.out 9 _ rfl)
        have q10 := kept_cell (nad_cells HR.out 10 _ rfl)
        have r3 := kept_cell (nad_cells HA.out 3 _ rfl)
        have r7 := kept_cell (nad_cells HA.out 7 _ rfl)
        have r8 := kept_cell (nad_cells HA.out 8 _ rfl)
        refine wp_region_kept_tail 20 hmx (by kernel_rfl) ?_
        simp only [List.take_succ_cons, List.take_zero, List.drop_succ_cons, List.drop_zero]
        repeat (go_big_quiet_step (fail))
        refine wpQuiet_nil ?_
        rintro _ ⟨pw, rfl⟩
        have hZ2 := (pw.h.block (b + 1) (blk_lt HZ.out)).trans HZ.out
        clear q0 q1 q2 q3 q4 q5 q6 q7 q8 q9 q10 r3 r7 r8
        refine wpList_store_row rfl 33 _ _ rfl (b + 1) #[.int .i64 10, .int .i64 a1, .int .i64 a2, .int .i64 0, .int .i64 a4, .slice Ap lp cp, .slice Ar rs.length cr, .bool true, .bool b2, .slice Au lu cu, .slice Ab lb cb] rfl rfl 33 _ hZ2 (by kernel_rfl) rfl (by simp [Value.oneCell']) ?_
        refine wpList_nil ?_
        have HX := Lib.hid (setRow_heap pw.w' (b + 1) _ #[.int .i64 10, .int .i64 a1, .int .i64 a2, .int .i64 0, .int .i64 a4, .slice Ap lp cp, .slice Ar rs.length cr, .bool true, .bool b2, .slice Au lu cu, .slice Ab lb cb] _ _ hZ2)
        have HY := Lib.hid (below_setRow (B := b) (g := b + 1) (HB.out.trans (pw.h.mono (blk_lt HA.out |> Nat.le_of_lt))) (by omega) #[.int .i64 10, .int .i64 a1, .int .i64 a2, .int .i64 0, .int .i64 a4, .slice Ap lp cp, .slice Ar rs.length cr, .bool true, .bool b2, .slice Au lu cu, .slice Ab lb cb])
        clear hZ2
        generalize pw.w'.setRow (b + 1) #[.int .i64 10, .int .i64 a1, .int .i64 a2, .int .i64 0, .int .i64 a4, .slice Ap lp cp, .slice Ar rs.length cr, .bool true, .bool b2, .slice Au lu cu, .slice Ab lb cb] = W3 at *
        go_wp2_with fail
        refine bodyPost_ret (results_tmp_cell rfl _ _ (b + 1) 33 #[.int .i64 10, .int .i64 a1, .int .i64 a2, .int .i64 0, .int .i64 a4, .slice Ap lp cp, .slice Ar rs.length cr, .bool true, .bool b2, .slice Au lu cu, .slice Ab lb cb] (0, 0) _ rfl HX.out Tryd.underlying33 rfl (by kernel_rfl)) rfl ?_
        exact ⟨by first | rfl |  simp_all, by rw [HBB.out]; exact HY.out⟩

set_option maxRecDepth 100000 in
set_option maxHeartbeats 1000000 in
theorem own_11 (a1 a2 a3 a4 : Int) (Ap : Option Addr) (lp cp : Nat) (Ar : Option Addr) (rs : List Int) (cr : Nat) (b1 b2 : Bool) (Au : Option Addr) (lu cu : Nat) (Ab : Option Addr) (lb cb : Nat) (w : World) (hT : LexTabs w) (hlp : lp ≤ 2000000) (hrs : rs.length ≤ 2000000) (hr : rdS (fun (n : Int) cs => cs = [.int .i64 n] ∧ inI n) 1 w (.slice Ar rs.length cr) rs) :
    Calls Tryd.prog 24 #[.agg #[.int .i64 11, .int .i64 a1, .int .i64 a2, .int .i64 a3, .int .i64 a4, .slice Ap lp cp, .slice Ar rs.length cr, .bool b1, .bool b2, .slice Au lu cu, .slice Ab lb cb]] w fun e w' => e = .returned (.tuple #[.bool (decide (-1000 ≤ a3) && decide (a3 ≤ 1000) && !b1 && !b2), .agg #[.int .i64 11, .int .i64 a1, .int .i64 a2, .int .i64 0, .int .i64 a4, .slice Ap lp cp, .slice Ar rs.length cr, .bool b1, .bool b2, .slice Au lu cu, .slice Ab lb cb]]) ∧ Below w.heap.size w w' := by
  obtain ⟨hA, hZ, hR, hB⟩ := three_blocks w (Obj.cells #[.int .i64 11, .int .i64 a1, .int .i64 a2, .int .i64 a3, .int .i64 a4, .slice Ap lp cp, .slice Ar rs.length cr, .bool b1, .bool b2, .slice Au lu cu, .slice Ab lb cb] 33) (Obj.cells #[.int .i64 0, .int .i64 0, .int .i64 0, .int .i64 0, .int .i64 0, .slice none 0 0, .slice none 0 0, .bool false, .bool false, .slice none 0 0, .slice none 0 0] 33) (Obj.cells #[.int .i64 11, .int .i64 a1, .int .i64 a2, .int .i64 0, .int .i64 a4, .slice Ap lp cp, .slice Ar rs.length cr, .bool b1, .bool b2, .slice Au lu cu, .slice Ab lb cb] 33)
  have HA := Lib.hid hA
  have HZ := Lib.hid hZ
  have HR := Lib.hid hR
  have HB := Lib.hid hB
  have HTT := Lib.hid hT
  have HRS := Lib.hid hr
  clear hA hZ hR hB hT hr
  have hmx : Tryd.prog.follows .mixedOrders = true := by kernel_rfl
  cases e1 : decide (-1000 ≤ a3)
  ·
    go_enter Tryd.func24, Tryd.ntmps24
    go_upto_region 1 with fail
    go_region
    go_wp2_with fail
    generalize hW2 : (((w.alloc (Obj.cells #[.int .i64 11, .int .i64 a1, .int .i64 a2, .int .i64 a3, .int .i64 a4, .slice Ap lp cp, .slice Ar rs.length cr, .bool b1, .bool b2, .slice Au lu cu, .slice Ab lb cb] 33)).alloc (Obj.cells #[.int .i64 0, .int .i64 0, .int .i64 0, .int .i64 0, .int .i64 0, .slice none 0 0, .slice none 0 0, .bool false, .bool false, .slice none 0 0, .slice none 0 0] 33)).alloc (Obj.cells #[.int .i64 11, .int .i64 a1, .int .i64 a2, .int .i64 0, .int .i64 a4, .slice Ap lp cp, .slice Ar rs.length cr, .bool b1, .bool b2, .slice Au lu cu, .slice Ab lb cb] 33)).drew = W2 at *
    clear hW2
    obtain ⟨b, hb⟩ : ∃ b, w.heap.size = b := ⟨_, rfl⟩
    rw [hb] at HA HZ HR HB ⊢
    have HBB := Lib.hid hb
    clear hb
    have q0 := kept_cell (nad_cells HR.out 0 _ rfl)
    have q1 := kept_cell (nad_cells HR.out 1 _ rfl)
    have q2 := kept_cell (nad_cells HR.out 2 _ rfl)
    have q3 := kept_cell (nad_cells HR.out 3 _ rfl)
    have q4 := kept_cell (nad_cells HR.out 4 _ rfl)
    have q5 := kept_cell (nad_cells HR.out 5 _ rfl)
    have q6 := kept_cell (nad_cells HR.out 6 _ rfl)
    have q7 := kept_cell (nad_cells HR.out 7 _ rfl)
    have q8 := kept_cell (nad_cells HR.out 8 _ rfl)
    have q9 := kept_cell (nad_cells HR.out 9 _ rfl)
    have q10 := kept_cell (nad_cells HR.out 10 _ rfl)
    have r3 := kept_cell (nad_cells HA.out 3 _ rfl)
    have r7 := kept_cell (nad_cells HA.out 7 _ rfl)
    have r8 := kept_cell (nad_cells HA.out 8 _ rfl)
    refine wp_region_kept_tail 20 hmx (by kernel_rfl) ?_
    simp only [List.take_succ_cons, List.take_zero, List.drop_succ_cons, List.drop_zero]
    repeat (go_big_quiet_step (fail))
    refine wpQuiet_nil ?_
    rintro _ ⟨pw, rfl⟩
    have hZ2 := (pw.h.block (b + 1) (blk_lt HZ.out)).trans HZ.out
    clear q0 q1 q2 q3 q4 q5 q6 q7 q8 q9 q10 r3 r7 r8
    refine wpList_store_row rfl 33 _ _ rfl (b + 1) #[.int .i64 11, .int .i64 a1, .int .i64 a2, .int .i64 0, .int .i64 a4, .slice Ap lp cp, .slice Ar rs.length cr, .bool b1, .bool b2, .slice Au lu cu, .slice Ab lb cb] rfl rfl 33 _ hZ2 (by kernel_rfl) rfl (by simp [Value.oneCell']) ?_
    refine wpList_nil ?_
    have HX := Lib.hid (setRow_heap pw.w' (b + 1) _ #[.int .i64 11, .int .i64 a1, .int .i64 a2, .int .i64 0, .int .i64 a4, .slice Ap lp cp, .slice Ar rs.length cr, .bool b1, .bool b2, .slice Au lu cu, .slice Ab lb cb] _ _ hZ2)
    have HY := Lib.hid (below_setRow (B := b) (g := b + 1) (HB.out.trans (pw.h.mono (blk_lt HA.out |> Nat.le_of_lt))) (by omega) #[.int .i64 11, .int .i64 a1, .int .i64 a2, .int .i64 0, .int .i64 a4, .slice Ap lp cp, .slice Ar rs.length cr, .bool b1, .bool b2, .slice Au lu cu, .slice Ab lb cb])
    clear hZ2
    generalize pw.w'.setRow (b + 1) #[.int .i64 11, .int .i64 a1, .int .i64 a2, .int .i64 0, .int .i64 a4, .slice Ap lp cp, .slice Ar rs.length cr, .bool b1, .bool b2, .slice Au lu cu, .slice Ab lb cb] = W3 at *
    go_wp2_with fail
    refine bodyPost_ret (results_tmp_cell rfl _ _ (b + 1) 33 #[.int .i64 11, .int .i64 a1, .int .i64 a2, .int .i64 0, .int .i64 a4, .slice Ap lp cp, .slice Ar rs.length cr, .bool b1, .bool b2, .slice Au lu cu, .slice Ab lb cb] (0, 0) _ rfl HX.out Tryd.underlying33 rfl (by kernel_rfl)) rfl ?_
    exact ⟨by first | rfl |  simp_all, by rw [HBB.out]; exact HY.out⟩
  ·
    cases e2 : decide (a3 ≤ 1000)
    ·
      go_enter Tryd.func24, Tryd.ntmps24
      go_upto_region 1 with fail
      go_region
      go_wp2_with fail
      generalize hW2 : (((w.alloc (Obj.cells #[.int .i64 11, .int .i64 a1, .int .i64 a2, .int .i64 a3, .int .i64 a4, .slice Ap lp cp, .slice Ar rs.length cr, .bool b1, .bool b2, .slice Au lu cu, .slice Ab lb cb] 33)).alloc (Obj.cells #[.int .i64 0, .int .i64 0, .int .i64 0, .int .i64 0, .int .i64 0, .slice none 0 0, .slice none 0 0, .bool false, .bool false, .slice none 0 0, .slice none 0 0] 33)).alloc (Obj.cells #[.int .i64 11, .int .i64 a1, .int .i64 a2, .int .i64 0, .int .i64 a4, .slice Ap lp cp, .slice Ar rs.length cr, .bool b1, .bool b2, .slice Au lu cu, .slice Ab lb cb] 33)).drew = W2 at *
      clear hW2
      obtain ⟨b, hb⟩ : ∃ b, w.heap.size = b := ⟨_, rfl⟩
      rw [hb] at HA HZ HR HB ⊢
      have HBB := Lib.hid hb
      clear hb
      have q0 := kept_cell (nad_cells HR.out 0 _ rfl)
      have q1 := kept_cell (nad_cells HR.out 1 _ rfl)
      have q2 := kept_cell (nad_cells HR.out 2 _ rfl)
      have q3 := kept_cell (nad_cells HR.out 3 _ rfl)
      have q4 := kept_cell (nad_cells HR.out 4 _ rfl)
      have q5 := kept_cell (nad_cells HR.out 5 _ rfl)
      have q6 := kept_cell (nad_cells HR.out 6 _ rfl)
      have q7 := kept_cell (nad_cells HR.out 7 _ rfl)
      have q8 := kept_cell (nad_cells HR.out 8 _ rfl)
      have q9 := kept_cell (nad_cells HR.out 9 _ rfl)
      have q10 := kept_cell (nad_cells HR.out 10 _ rfl)
      have r3 := kept_cell (nad_cells HA.out 3 _ rfl)
      have r7 := kept_cell (nad_cells HA.out 7 _ rfl)
      have r8 := kept_cell (nad_cells HA.out 8 _ rfl)
      refine wp_region_kept_tail 20 hmx (by kernel_rfl) ?_
      simp only [List.take_succ_cons, List.take_zero, List.drop_succ_cons, List.drop_zero]
      repeat (go_big_quiet_step (fail))
      refine wpQuiet_nil ?_
      rintro _ ⟨pw, rfl⟩
      have hZ2 := (pw.h.block (b + 1) (blk_lt HZ.out)).trans HZ.out
      clear q0 q1 q2 q3 q4 q5 q6 q7 q8 q9 q10 r3 r7 r8
      refine wpList_store_row rfl 33 _ _ rfl (b + 1) #[.int .i64 11, .int .i64 a1, .int .i64 a2, .int .i64 0, .int .i64 a4, .slice Ap lp cp, .slice Ar rs.length cr, .bool b1, .bool b2, .slice Au lu cu, .slice Ab lb cb] rfl rfl 33 _ hZ2 (by kernel_rfl) rfl (by simp [Value.oneCell']) ?_
      refine wpList_nil ?_
      have HX := Lib.hid (setRow_heap pw.w' (b + 1) _ #[.int .i64 11, .int .i64 a1, .int .i64 a2, .int .i64 0, .int .i64 a4, .slice Ap lp cp, .slice Ar rs.length cr, .bool b1, .bool b2, .slice Au lu cu, .slice Ab lb cb] _ _ hZ2)
      have HY := Lib.hid (below_setRow (B := b) (g := b + 1) (HB.out.trans (pw.h.mono (blk_lt HA.out |> Nat.le_of_lt))) (by omega) #[.int .i64 11, .int .i64 a1, .int .i64 a2, .int .i64 0, .int .i64 a4, .slice Ap lp cp, .slice Ar rs.length cr, .bool b1, .bool b2, .slice Au lu cu, .slice Ab lb cb])
      clear hZ2
      generalize pw.w'.setRow (b + 1) #[.int .i64 11, .int .i64 a1, .int .i64 a2, .int .i64 0, .int .i64 a4, .slice Ap lp cp, .slice Ar rs.length cr, .bool b1, .bool b2, .slice Au lu cu, .slice Ab lb cb] = W3 at *
      go_wp2_with fail
      refine bodyPost_ret (results_tmp_cell rfl _ _ (b + 1) 33 #[.int .i64 11, .int .i64 a1, .int .i64 a2, .int .i64 0, .int .i64 a4, .slice Ap lp cp, .slice Ar rs.length cr, .bool b1, .bool b2, .slice Au lu cu, .slice Ab lb cb] (0, 0) _ rfl HX.out Tryd.underlying33 rfl (by kernel_rfl)) rfl ?_
      exact ⟨by first | rfl |  simp_all, by rw [HBB.out]; exact HY.out⟩
    ·
      cases b1
      ·
        go_enter Tryd.func24, Tryd.ntmps24
        go_upto_region 1 with fail
        go_region
        go_wp2_with fail
        generalize hW2 : (((w.alloc (Obj.cells #[.int .i64 11, .int .i64 a1, .int .i64 a2, .int .i64 a3, .int .i64 a4, .slice Ap lp cp, .slice Ar rs.length cr, .bool false, .bool b2, .slice Au lu cu, .slice Ab lb cb] 33)).alloc (Obj.cells #[.int .i64 0, .int .i64 0, .int .i64 0, .int .i64 0, .int .i64 0, .slice none 0 0, .slice none 0 0, .bool false, .bool false, .slice none 0 0, .slice none 0 0] 33)).alloc (Obj.cells #[.int .i64 11, .int .i64 a1, .int .i64 a2, .int .i64 0, .int .i64 a4, .slice Ap lp cp, .slice Ar rs.length cr, .bool false, .bool b2, .slice Au lu cu, .slice Ab lb cb] 33)).drew = W2 at *
        clear hW2
        obtain ⟨b, hb⟩ : ∃ b, w.heap.size = b := ⟨_, rfl⟩
        rw [hb] at HA HZ HR HB ⊢
        have HBB := Lib.hid hb
        clear hb
        have q0 := kept_cell (nad_cells HR.out 0 _ rfl)
        have q1 := kept_cell (nad_cells HR.out 1 _ rfl)
        have q2 := kept_cell (nad_cells HR.out 2 _ rfl)
        have q3 := kept_cell (nad_cells HR.out 3 _ rfl)
        have q4 := kept_cell (nad_cells HR.out 4 _ rfl)
        have q5 := kept_cell (nad_cells HR.out 5 _ rfl)
        have q6 := kept_cell (nad_cells HR.out 6 _ rfl)
        have q7 := kept_cell (nad_cells HR.out 7 _ rfl)
        have q8 := kept_cell (nad_cells HR.out 8 _ rfl)
        have q9 := kept_cell (nad_cells HR.out 9 _ rfl)
        have q10 := kept_cell (nad_cells HR.out 10 _ rfl)
        have r3 := kept_cell (nad_cells HA.out 3 _ rfl)
        have r7 := kept_cell (nad_cells HA.out 7 _ rfl)
        have r8 := kept_cell (nad_cells HA.out 8 _ rfl)
        refine wp_region_kept_tail 20 hmx (by kernel_rfl) ?_
        simp only [List.take_succ_cons, List.take_zero, List.drop_succ_cons, List.drop_zero]
        repeat (go_big_quiet_step (fail))
        refine wpQuiet_nil ?_
        rintro _ ⟨pw, rfl⟩
        have hZ2 := (pw.h.block (b + 1) (blk_lt HZ.out)).trans HZ.out
        clear q0 q1 q2 q3 q4 q5 q6 q7 q8 q9 q10 r3 r7 r8
        refine wpList_store_row rfl 33 _ _ rfl (b + 1) #[.int .i64 11, .int .i64 a1, .int .i64 a2, .int .i64 0, .int .i64 a4, .slice Ap lp cp, .slice Ar rs.length cr, .bool false, .bool b2, .slice Au lu cu, .slice Ab lb cb] rfl rfl 33 _ hZ2 (by kernel_rfl) rfl (by simp [Value.oneCell']) ?_
        refine wpList_nil ?_
        have HX := Lib.hid (setRow_heap pw.w' (b + 1) _ #[.int .i64 11, .int .i64 a1, .int .i64 a2, .int .i64 0, .int .i64 a4, .slice Ap lp cp, .slice Ar rs.length cr, .bool false, .bool b2, .slice Au lu cu, .slice Ab lb cb] _ _ hZ2)
        have HY := Lib.hid (below_setRow (B := b) (g := b + 1) (HB.out.trans (pw.h.mono (blk_lt HA.out |> Nat.le_of_lt))) (by omega) #[.int .i64 11, .int .i64 a1, .int .i64 a2, .int .i64 0, .int .i64 a4, .slice Ap lp cp, .slice Ar rs.length cr, .bool false, .bool b2, .slice Au lu cu, .slice Ab lb cb])
        clear hZ2
        generalize pw.w'.setRow (b + 1) #[.int .i64 11, .int .i64 a1, .int .i64 a2, .int .i64 0, .int .i64 a4, .slice Ap lp cp, .slice Ar rs.length cr, .bool false, .bool b2, .slice Au lu cu, .slice Ab lb cb] = W3 at *
        go_wp2_with fail
        refine bodyPost_ret (results_tmp_cell rfl _ _ (b + 1) 33 #[.int .i64 11, .int .i64 a1, .int .i64 a2, .int .i64 0, .int .i64 a4, .slice Ap lp cp, .slice Ar rs.length cr, .bool false, .bool b2, .slice Au lu cu, .slice Ab lb cb] (0, 0) _ rfl HX.out Tryd.underlying33 rfl (by kernel_rfl)) rfl ?_
        exact ⟨by first | rfl |  simp_all, by rw [HBB.out]; exact HY.out⟩
      ·
        go_enter Tryd.func24, Tryd.ntmps24
        go_upto_region 1 with fail
        go_region
        go_wp2_with fail
        generalize hW2 : (((w.alloc (Obj.cells #[.int .i64 11, .int .i64 a1, .int .i64 a2, .int .i64 a3, .int .i64 a4, .slice Ap lp cp, .slice Ar rs.length cr, .bool true, .bool b2, .slice Au lu cu, .slice Ab lb cb] 33)).alloc (Obj.cells #[.int .i64 0, .int .i64 0, .int .i64 0, .int .i64 0, .int .i64 0, .slice none 0 0, .slice none 0 0, .bool false, .bool false, .slice none 0 0, .slice none 0 0] 33)).alloc (Obj.cells #[.int .i64 11, .int .i64 a1, .int .i64 a2, .int .i64 0, .int .i64 a4, .slice Ap lp cp, .slice Ar rs.length cr, .bool true, .bool b2, .slice Au lu cu, .slice Ab lb cb] 33)).drew = W2 at *
        clear hW2
        obtain ⟨b, hb⟩ : ∃ b, w.heap.size = b := ⟨_, rfl⟩
        rw [hb] at HA HZ HR HB ⊢
        have HBB := Lib.hid hb
        clear hb
        have q0 := kept_cell (nad_cells HR.out 0 _ rfl)
        have q1 := kept_cell (nad_cells HR.out 1 _ rfl)
        have q2 := kept_cell (nad_cells HR.out 2 _ rfl)
        have q3 := kept_cell (nad_cells HR.out 3 _ rfl)
        have q4 := kept_cell (nad_cells HR.out 4 _ rfl)
        have q5 := kept_cell (nad_cells HR.out 5 _ rfl)
        have q6 := kept_cell (nad_cells HR.out 6 _ rfl)
        have q7 := kept_cell (nad_cells HR.out 7 _ rfl)
        have q8 := kept_cell (nad_cells HR.out 8 _ rfl)
        have q9 := kept_cell (nad_cells HR.out 9 _ rfl)
        have q10 := kept_cell (nad_cells HR.out 10 _ rfl)
        have r3 := kept_cell (nad_cells HA.out 3 _ rfl)
        have r7 := kept_cell (nad_cells HA.out 7 _ rfl)
        have r8 := kept_cell (nad_cells HA.out 8 _ rfl)
        refine wp_region_kept_tail 20 hmx (by kernel_rfl) ?_
        simp only [List.take_succ_cons, List.take_zero, List.drop_succ_cons, List.drop_zero]
        repeat (go_big_quiet_step (fail))
        refine wpQuiet_nil ?_
        rintro _ ⟨pw, rfl⟩
        have hZ2 := (pw.h.block (b + 1) (blk_lt HZ.out)).trans HZ.out
        clear q0 q1 q2 q3 q4 q5 q6 q7 q8 q9 q10 r3 r7 r8
        refine wpList_store_row rfl 33 _ _ rfl (b + 1) #[.int .i64 11, .int .i64 a1, .int .i64 a2, .int .i64 0, .int .i64 a4, .slice Ap lp cp, .slice Ar rs.length cr, .bool true, .bool b2, .slice Au lu cu, .slice Ab lb cb] rfl rfl 33 _ hZ2 (by kernel_rfl) rfl (by simp [Value.oneCell']) ?_
        refine wpList_nil ?_
        have HX := Lib.hid (setRow_heap pw.w' (b + 1) _ #[.int .i64 11, .int .i64 a1, .int .i64 a2, .int .i64 0, .int .i64 a4, .slice Ap lp cp, .slice Ar rs.length cr, .bool true, .bool b2, .slice Au lu cu, .slice Ab lb cb] _ _ hZ2)
        have HY := Lib.hid (below_setRow (B := b) (g := b + 1) (HB.out.trans (pw.h.mono (blk_lt HA.out |> Nat.le_of_lt))) (by omega) #[.int .i64 11, .int .i64 a1, .int .i64 a2, .int .i64 0, .int .i64 a4, .slice Ap lp cp, .slice Ar rs.length cr, .bool true, .bool b2, .slice Au lu cu, .slice Ab lb cb])
        clear hZ2
        generalize pw.w'.setRow (b + 1) #[.int .i64 11, .int .i64 a1, .int .i64 a2, .int .i64 0, .int .i64 a4, .slice Ap lp cp, .slice Ar rs.length cr, .bool true, .bool b2, .slice Au lu cu, .slice Ab lb cb] = W3 at *
        go_wp2_with fail
        refine bodyPost_ret (results_tmp_cell rfl _ _ (b + 1) 33 #[.int .i64 11, .int .i64 a1, .int .i64 a2, .int .i64 0, .int .i64 a4, .slice Ap lp cp, .slice Ar rs.length cr, .bool true, .bool b2, .slice Au lu cu, .slice Ab lb cb] (0, 0) _ rfl HX.out Tryd.underlying33 rfl (by kernel_rfl)) rfl ?_
        exact ⟨by first | rfl |  simp_all, by rw [HBB.out]; exact HY.out⟩

set_option maxRecDepth 100000 in
set_option maxHeartbeats 1000000 in
theorem own_o (a0 : Int) (a1 a2 a3 a4 : Int) (Ap : Option Addr) (lp cp : Nat) (Ar : Option Addr) (rs : List Int) (cr : Nat) (b1 b2 : Bool) (Au : Option Addr) (lu cu : Nat) (Ab : Option Addr) (lb cb : Nat) (w : World) (hT : LexTabs w) (hlp : lp ≤ 2000000) (hrs : rs.length ≤ 2000000) (hr : rdS (fun (n : Int) cs => cs = [.int .i64 n] ∧ inI n) 1 w (.slice Ar rs.length cr) rs) (k0 : (a0 == 0) = false) (k1 : (a0 == 1) = false) (k2 : (a0 == 2) = false) (k3 : (a0 == 3) = false) (k4 : (a0 == 4) = false) (k5 : (a0 == 5) = false) (k6 : (a0 == 6) = false) (k7 : (a0 == 7) = false) (k8 : (a0 == 8) = false) (k9 : (a0 == 9) = false) (k10 : (a0 == 10) = false) (k11 : (a0 == 11) = false) :
    Calls Tryd.prog 24 #[.agg #[.int .i64 a0, .int .i64 a1, .int .i64 a2, .int .i64 a3, .int .i64 a4, .slice Ap lp cp, .slice Ar rs.length cr, .bool b1, .bool b2, .slice Au lu cu, .slice Ab lb cb]] w fun e w' => e = .returned (.tuple #[.bool false, .agg #[.int .i64 a0, .int .i64 a1, .int .i64 a2, .int .i64 a3, .int .i64 a4, .slice none 0 0, .slice Ar rs.length cr, .bool b1, .bool b2, .slice Au lu cu, .slice Ab lb cb]]) ∧ Below w.heap.size w w' := by
  obtain ⟨hA, hZ, hR, hB⟩ := three_blocks w (Obj.cells #[.int .i64 a0, .int .i64 a1, .int .i64 a2, .int .i64 a3, .int .i64 a4, .slice Ap lp cp, .slice Ar rs.length cr, .bool b1, .bool b2, .slice Au lu cu, .slice Ab lb cb] 33) (Obj.cells #[.int .i64 0, .int .i64 0, .int .i64 0, .int .i64 0, .int .i64 0, .slice none 0 0, .slice none 0 0, .bool false, .bool false, .slice none 0 0, .slice none 0 0] 33) (Obj.cells #[.int .i64 a0, .int .i64 a1, .int .i64 a2, .int .i64 a3, .int .i64 a4, .slice none 0 0, .slice Ar rs.length cr, .bool b1, .bool b2, .slice Au lu cu, .slice Ab lb cb] 33)
  have HA := Lib.hid hA
  have HZ := Lib.hid hZ
  have HR := Lib.hid hR
  have HB := Lib.hid hB
  have HTT := Lib.hid hT
  have HRS := Lib.hid hr
  have k10' : (a0 != 10) = true := by simp [bne, k10]
  have k11' : (a0 != 11) = true := by simp [bne, k11]
  clear hA hZ hR hB hT hr
  have hmx : Tryd.prog.follows .mixedOrders = true := by kernel_rfl
  go_enter Tryd.func24, Tryd.ntmps24
  go_upto_region 1 with fail
  go_region
  go_wp2_with fail
  generalize hW2 : (((w.alloc (Obj.cells #[.int .i64 a0, .int .i64 a1, .int .i64 a2, .int .i64 a3, .int .i64 a4, .slice Ap lp cp, .slice Ar rs.length cr, .bool b1, .bool b2, .slice Au lu cu, .slice Ab lb cb] 33)).alloc (Obj.cells #[.int .i64 0, .int .i64 0, .int .i64 0, .int .i64 0, .int .i64 0, .slice none 0 0, .slice none 0 0, .bool false, .bool false, .slice none 0 0, .slice none 0 0] 33)).alloc (Obj.cells #[.int .i64 a0, .int .i64 a1, .int .i64 a2, .int .i64 a3, .int .i64 a4, .slice none 0 0, .slice Ar rs.length cr, .bool b1, .bool b2, .slice Au lu cu, .slice Ab lb cb] 33)).drew = W2 at *
  clear hW2
  obtain ⟨b, hb⟩ : ∃ b, w.heap.size = b := ⟨_, rfl⟩
  rw [hb] at HA HZ HR HB ⊢
  have HBB := Lib.hid hb
  clear hb
  have q0 := kept_cell (nad_cells HR.out 0 _ rfl)
  have q1 := kept_cell (nad_cells HR.out 1 _ rfl)
  have q2 := kept_cell (nad_cells HR.out 2 _ rfl)
  have q3 := kept_cell (nad_cells HR.out 3 _ rfl)
  have q4 := kept_cell (nad_cells HR.out 4 _ rfl)
  have q5 := kept_cell (nad_cells HR.out 5 _ rfl)
  have q6 := kept_cell (nad_cells HR.out 6 _ rfl)
  have q7 := kept_cell (nad_cells HR.out 7 _ rfl)
  have q8 := kept_cell (nad_cells HR.out 8 _ rfl)
  have q9 := kept_cell (nad_cells HR.out 9 _ rfl)
  have q10 := kept_cell (nad_cells HR.out 10 _ rfl)
  refine wp_region_kept_tail 2 hmx (by kernel_rfl) ?_
  simp only [List.take_succ_cons, List.take_zero, List.drop_succ_cons, List.drop_zero]
  repeat (go_big_quiet_step (fail))
  refine wpQuiet_nil ?_
  rintro _ ⟨pw, rfl⟩
  have hZ2 := (pw.h.block (b + 1) (blk_lt HZ.out)).trans HZ.out
  clear q0 q1 q2 q3 q4 q5 q6 q7 q8 q9 q10 
  refine wpList_store_row rfl 33 _ _ rfl (b + 1) #[.int .i64 a0, .int .i64 a1, .int .i64 a2, .int .i64 a3, .int .i64 a4, .slice none 0 0, .slice Ar rs.length cr, .bool b1, .bool b2, .slice Au lu cu, .slice Ab lb cb] rfl rfl 33 _ hZ2 (by kernel_rfl) rfl (by simp [Value.oneCell']) ?_
  refine wpList_nil ?_
  have HX := Lib.hid (setRow_heap pw.w' (b + 1) _ #[.int .i64 a0, .int .i64 a1, .int .i64 a2, .int .i64 a3, .int .i64 a4, .slice none 0 0, .slice Ar rs.length cr, .bool b1, .bool b2, .slice Au lu cu, .slice Ab lb cb] _ _ hZ2)
  have HY := Lib.hid (below_setRow (B := b) (g := b + 1) (HB.out.trans (pw.h.mono (blk_lt HA.out |> Nat.le_of_lt))) (by omega) #[.int .i64 a0, .int .i64 a1, .int .i64 a2, .int .i64 a3, .int .i64 a4, .slice none 0 0, .slice Ar rs.length cr, .bool b1, .bool b2, .slice Au lu cu, .slice Ab lb cb])
  clear hZ2
  generalize pw.w'.setRow (b + 1) #[.int .i64 a0, .int .i64 a1, .int .i64 a2, .int .i64 a3, .int .i64 a4, .slice none 0 0, .slice Ar rs.length cr, .bool b1, .bool b2, .slice Au lu cu, .slice Ab lb cb] = W3 at *
  go_wp2_with fail
  refine bodyPost_ret (results_tmp_cell rfl _ _ (b + 1) 33 #[.int .i64 a0, .int .i64 a1, .int .i64 a2, .int .i64 a3, .int .i64 a4, .slice none 0 0, .slice Ar rs.length cr, .bool b1, .bool b2, .slice Au lu cu, .slice Ab lb cb] (0, 0) _ rfl HX.out Tryd.underlying33 rfl (by kernel_rfl)) rfl ?_
  exact ⟨by first | rfl |  simp_all, by rw [HBB.out]; exact HY.out⟩

/-- A noad, but for what is in it: is it right? -/
def ownB {α : Type} (x : Nz α) : Bool :=
  if x.kind = 0 then (((x.parts.length : Int) == 0) && runeB x.rune && (x.cls == clsR x.rune) && limB x.cls x.lim) else
  if x.kind = 1 then (((x.parts.length : Int) == 1) && decide (0 ≤ x.cls) && decide (x.cls ≤ 7) && limB x.cls x.lim) else
  if x.kind = 2 then (((x.parts.length : Int) == 2) && ((x.n == 0) || (x.n == 1))) else
  if x.kind = 3 then (((x.parts.length : Int) == 1) || ((x.parts.length : Int) == 2)) else
  if x.kind = 4 ∨ x.kind = 5 ∨ x.kind = 9 then ((x.parts.length : Int) == 1) else
  if x.kind = 6 then (((x.parts.length : Int) == 1) && runeB x.rune) else
  if x.kind = 7 then delimsB x.parts.length x.runes else
  if x.kind = 8 then (decide (1 ≤ x.n) && decide (x.n ≤ 64) && decide (1 ≤ (x.parts.length : Int)) && ((x.parts.length : Int) % x.n == 0)) else
  if x.kind = 10 then (decide (0 ≤ x.n) && decide (x.n < 4) && !x.hs && !x.hb) else
  if x.kind = 11 then (decide (-1000 ≤ x.n) && decide (x.n ≤ 1000) && !x.hs && !x.hb) else false
def rCls {α : Type} (x : Nz α) : Int := if x.kind = 0 ∨ x.kind = 1 then 0 else x.cls
def rRune {α : Type} (x : Nz α) : Int := if x.kind = 0 ∨ x.kind = 6 then 0 else x.rune
def rN {α : Type} (x : Nz α) : Int := if x.kind = 2 ∨ x.kind = 8 ∨ x.kind = 10 ∨ x.kind = 11 then 0 else x.n
def rLim {α : Type} (x : Nz α) : Int := if x.kind = 0 ∨ x.kind = 1 then 0 else x.lim
def rPl {α : Type} (x : Nz α) : Nat := if x.kind = 10 ∨ x.kind = 11 then x.parts.length else 0
def rRl {α : Type} (x : Nz α) : Nat := if x.kind = 7 then 0 else x.runes.length
theorem own_calls {α : Type} (x : Nz α) (Ap : Option Addr) (cp : Nat) (Ar : Option Addr) (cr : Nat) (Au : Option Addr) (lu cu : Nat) (Ab : Option Addr) (lb cb : Nat) (w : World) (hT : LexTabs w) (hlp : x.parts.length ≤ 2000000) (hrs : x.runes.length ≤ 2000000)
    (hr : rdS (fun (n : Int) cs => cs = [.int .i64 n] ∧ inI n) 1 w (.slice Ar x.runes.length cr) x.runes) :
    Calls Tryd.prog 24 #[.agg #[.int .i64 x.kind, .int .i64 x.cls, .int .i64 x.rune, .int .i64 x.n, .int .i64 x.lim, .slice Ap x.parts.length cp, .slice Ar x.runes.length cr, .bool x.hs, .bool x.hb, .slice Au lu cu, .slice Ab lb cb]] w fun e w' =>
      (∃ (Ap' : Option Addr) (cp' : Nat) (Ar' : Option Addr) (cr' : Nat), e = .returned (.tuple #[.bool (ownB x), .agg #[.int .i64 x.kind, .int .i64 (rCls x), .int .i64 (rRune x), .int .i64 (rN x), .int .i64 (rLim x), .slice Ap' (rPl x) cp', .slice Ar' (rRl x) cr', .bool x.hs, .bool x.hb, .slice Au lu cu, .slice Ab lb cb]])) ∧ Below w.heap.size w w' := by
  obtain ⟨kind, cls, rune, n, lim, parts, runes, hs, hb, sup, sub⟩ := x
  dsimp only at hT hlp hrs hr ⊢
  by_cases h0 : kind = 0
  · subst h0; exact (own_0 cls rune n lim Ap parts.length cp Ar runes cr hs hb Au lu cu Ab lb cb w hT hlp hrs hr).mono fun e w' h => ⟨⟨_, _, _, _, h.1⟩, h.2⟩
  by_cases h1 : kind = 1
  · subst h1; exact (own_1 cls rune n lim Ap parts.length cp Ar runes cr hs hb Au lu cu Ab lb cb w hT hlp hrs hr).mono fun e w' h => ⟨⟨_, _, _, _, h.1⟩, h.2⟩
  by_cases h2 : kind = 2
  · subst h2; exact (own_2 cls rune n lim Ap parts.length cp Ar runes cr hs hb Au lu cu Ab lb cb w hT hlp hrs hr).mono fun e w' h => ⟨⟨_, _, _, _, h.1⟩, h.2⟩
  by_cases h3 : kind = 3
  · subst h3; exact (own_3 cls rune n lim Ap parts.length cp Ar runes cr hs hb Au lu cu Ab lb cb w hT hlp hrs hr).mono fun e w' h => ⟨⟨_, _, _, _, h.1⟩, h.2⟩
  by_cases h4 : kind = 4
  · subst h4; exact (own_4 cls rune n lim Ap parts.length cp Ar runes cr hs hb Au lu cu Ab lb cb w hT hlp hrs hr).mono fun e w' h => ⟨⟨_, _, _, _, h.1⟩, h.2⟩
  by_cases h5 : kind = 5
  · subst h5; exact (own_5 cls rune n lim Ap parts.length cp Ar runes cr hs hb Au lu cu Ab lb cb w hT hlp hrs hr).mono fun e w' h => ⟨⟨_, _, _, _, h.1⟩, h.2⟩
  by_cases h6 : kind = 6
  · subst h6; exact (own_6 cls rune n lim Ap parts.length cp Ar runes cr hs hb Au lu cu Ab lb cb w hT hlp hrs hr).mono fun e w' h => ⟨⟨_, _, _, _, h.1⟩, h.2⟩
  by_cases h7 : kind = 7
  · subst h7; exact (own_7 cls rune n lim Ap parts.length cp Ar runes cr hs hb Au lu cu Ab lb cb w hT hlp hrs hr).mono fun e w' h => ⟨⟨_, _, _, _, h.1⟩, h.2⟩
  by_cases h8 : kind = 8
  · subst h8; exact (own_8 cls rune n lim Ap parts.length cp Ar runes cr hs hb Au lu cu Ab lb cb w hT hlp hrs hr).mono fun e w' h => ⟨⟨_, _, _, _, h.1⟩, h.2⟩
  by_cases h9 : kind = 9
  · subst h9; exact (own_9 cls rune n lim Ap parts.length cp Ar runes cr hs hb Au lu cu Ab lb cb w hT hlp hrs hr).mono fun e w' h => ⟨⟨_, _, _, _, h.1⟩, h.2⟩
  by_cases h10 : kind = 10
  · subst h10; exact (own_10 cls rune n lim Ap parts.length cp Ar runes cr hs hb Au lu cu Ab lb cb w hT hlp hrs hr).mono fun e w' h => ⟨⟨_, _, _, _, h.1⟩, h.2⟩
  by_cases h11 : kind = 11
  · subst h11; exact (own_11 cls rune n lim Ap parts.length cp Ar runes cr hs hb Au lu cu Ab lb cb w hT hlp hrs hr).mono fun e w' h => ⟨⟨_, _, _, _, h.1⟩, h.2⟩
  refine (own_o kind cls rune n lim Ap parts.length cp Ar runes cr hs hb Au lu cu Ab lb cb w hT hlp hrs hr (beq_eq_false_iff_ne.2 h0) (beq_eq_false_iff_ne.2 h1) (beq_eq_false_iff_ne.2 h2) (beq_eq_false_iff_ne.2 h3) (beq_eq_false_iff_ne.2 h4) (beq_eq_false_iff_ne.2 h5) (beq_eq_false_iff_ne.2 h6) (beq_eq_false_iff_ne.2 h7) (beq_eq_false_iff_ne.2 h8) (beq_eq_false_iff_ne.2 h9) (beq_eq_false_iff_ne.2 h10) (beq_eq_false_iff_ne.2 h11)).mono fun e w' h => ⟨⟨none, 0, Ar, cr, ?_⟩, h.2⟩
  rw [h.1]
  simp [ownB, rCls, rRune, rN, rLim, rPl, rRl, h0, h1, h2, h3, h4, h5, h6, h7, h8, h9, h10, h11]
end Go.Proofs.YtaoepeiadhdbaaaDoor.ND
