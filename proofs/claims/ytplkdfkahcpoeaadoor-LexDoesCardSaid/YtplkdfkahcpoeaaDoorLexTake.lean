/- lex.next, walked: the first reader that takes something decides. Condition: a text that is not empty and no longer than 10^9 bytes; the library's tables stand. -/
import Derived.Test.YtplkdfkahcpoeaaDoorLexNext
namespace Go.Proofs.YtplkdfkahcpoeaaDoor.P
open Go.Shelf Go.RowKit Go.Proofs.YtplkdfkahcpoeaaDoorW.PrintWords Go.Proofs.YtplkdfkahcpoeaaDoorW.PrintLast Go.Proofs.YtplkdfkahcpoeaaDoorW.PrintMore
set_option linter.unusedVariables false
set_option linter.unusedSimpArgs false
set_option maxRecDepth 100000
def liveT (T : Tk) : Bool := decide (0 < T.2.2.2.1) || decide (T.2.2.2.2 ≠ 0)
def nextT (T0 T1 T2 T3 : Tk) : Tk := if liveT T0 then T0 else if liveT T1 then T1 else if liveT T2 then T2 else if liveT T3 then T3 else tkNo 5
theorem live_cases (a b : Int) (c : ByteArray) (n e : Int) : (liveT (a, b, c, n, e) = true ∧ (decide (0 < n) = true ∨ (decide (0 < n) = false ∧ (e != 0) = true))) ∨ (liveT (a, b, c, n, e) = false ∧ decide (0 < n) = false ∧ (e != 0) = false) := by
  unfold liveT
  by_cases h : 0 < n
  · simp [h]
  · by_cases h2 : e = 0
    · simp [h, h2]
    · simp [h, h2]
theorem store_fn (W : World) (b : Nat) (t : TypeId) (old v : Value) (hv : v.oneCell' = true) (hb : b = W.heap.size) :
    (store ⟨b, 0, none⟩ v).run Tryd.prog (W.alloc (.cells #[old] t)) = .ok () (W.alloc (.cells #[v] t)) := by
  rw [run_store _ _ _ _ _ hv, World.cell?_alloc_at (w := W) #[old] t b 0 hb, World.frozen?_alloc_at (w := W) #[old] t b 0 hb, World.setCell_alloc_at (w := W) #[old] t b 0 v hb]
  rfl
set_option maxHeartbeats 8000000 in
theorem next_main (s : ByteArray) (w : World)
(a0 b0 : Int) (c0 : ByteArray) (n0 e0 : Int) (a1 b1 : Int) (c1 : ByteArray) (n1 e1 : Int) (a2 b2 : Int) (c2 : ByteArray) (n2 e2 : Int) (a3 b3 : Int) (c3 : ByteArray) (n3 e3 : Int) (R : Tk)
    (hR : nextT (a0, b0, c0, n0, e0) (a1, b1, c1, n1, e1) (a2, b2, c2, n2, e2) (a3, b3, c3, n3, e3) = R)
    (h0 : ∀ w1, Below w.heap.size w w1 → Calls Tryd.prog 35 #[.string s] w1 fun e w2 => e = .returned (.tuple #[.agg #[.int .i64 a0, .int .i64 b0, .string c0, .int .i64 0], .int .i64 n0, .int .i64 e0]) ∧ Below w1.heap.size w1 w2)
    (h1 : ∀ w1, Below w.heap.size w w1 → Calls Tryd.prog 36 #[.string s] w1 fun e w2 => e = .returned (.tuple #[.agg #[.int .i64 a1, .int .i64 b1, .string c1, .int .i64 0], .int .i64 n1, .int .i64 e1]) ∧ Below w1.heap.size w1 w2)
    (h2 : ∀ w1, Below w.heap.size w w1 → Calls Tryd.prog 37 #[.string s] w1 fun e w2 => e = .returned (.tuple #[.agg #[.int .i64 a2, .int .i64 b2, .string c2, .int .i64 0], .int .i64 n2, .int .i64 e2]) ∧ Below w1.heap.size w1 w2)
    (h3 : ∀ w1, Below w.heap.size w w1 → Calls Tryd.prog 38 #[.string s] w1 fun e w2 => e = .returned (.tuple #[.agg #[.int .i64 a3, .int .i64 b3, .string c3, .int .i64 0], .int .i64 n3, .int .i64 e3]) ∧ Below w1.heap.size w1 w2)
    : Calls Tryd.prog 21 #[.string s] w fun e w' => e = TokE R ∧ Below w.heap.size w w' := by
  have HR := Lib.hid hR
  clear hR
  have hst : ∀ (W : World) (b : Nat) (t : TypeId) (old : Value) (f : Fn) (c : Array Value), b = W.heap.size → (store ⟨b, 0, none⟩ (.func f #[] c)).run Tryd.prog (W.alloc (.cells #[old] t)) = .ok () (W.alloc (.cells #[.func f #[] c] t)) := fun W b t old f c hb => store_fn W b t old _ rfl hb
  have HD0 := Lib.hid h0
  have HD1 := Lib.hid h1
  have HD2 := Lib.hid h2
  have HD3 := Lib.hid h3
  clear h0 h1 h2 h3
  have HL0 := Lib.hid (live_cases a0 b0 c0 n0 e0)
  have HL1 := Lib.hid (live_cases a1 b1 c1 n1 e1)
  have HL2 := Lib.hid (live_cases a2 b2 c2 n2 e2)
  have HL3 := Lib.hid (live_cases a3 b3 c3 n3 e3)
  go_enter Tryd.func21, Tryd.ntmps21
  go_wp2_with fail
  generalize hW0 : w.alloc (.cells #[.int .i64 0, .int .i64 0, .string ⟨#[]⟩, .int .i64 0] 37) = W0
  have hws : W0.heap.size = w.heap.size + 1 := by rw [← hW0]; simp
  have hwb : Below w.heap.size w W0 := by rw [← hW0]; exact (Below.refl w.heap.size w).alloc (Nat.le_refl _) _
  have hc1 : W0.heap[w.heap.size]? = some (.cells #[.int .i64 0, .int .i64 0, .string ⟨#[]⟩, .int .i64 0] 37) := by rw [← hW0]; exact heap_alloc_new w _
  clear hW0
  have HWS := Lib.hid hws
  have HWB := Lib.hid hwb
  have HC1 := Lib.hid hc1
  have H0 := Lib.hid (Below.refl W0.heap.size W0)
  clear hws hwb hc1
  generalize hCH : (#[.func (.func 35) #[] #[], .func (.func 36) #[] #[], .func (.func 37) #[] #[], .func (.func 38) #[] #[]] : Array Value) = CH
  have i0 : ∀ W, (Instr.index 57 (.agg CH) (.int .i64 0)).run Tryd.prog W = .ok (.agg #[.func (.func 35) #[] #[]]) W := fun W => by rw [← hCH]; kernel_rfl
  have i1 : ∀ W, (Instr.index 57 (.agg CH) (.int .i64 1)).run Tryd.prog W = .ok (.agg #[.func (.func 36) #[] #[]]) W := fun W => by rw [← hCH]; kernel_rfl
  have i2 : ∀ W, (Instr.index 57 (.agg CH) (.int .i64 2)).run Tryd.prog W = .ok (.agg #[.func (.func 37) #[] #[]]) W := fun W => by rw [← hCH]; kernel_rfl
  have i3 : ∀ W, (Instr.index 57 (.agg CH) (.int .i64 3)).run Tryd.prog W = .ok (.agg #[.func (.func 38) #[] #[]]) W := fun W => by rw [← hCH]; kernel_rfl
  clear hCH
  go_loopw [15] (fun i wr => ∃ k : Nat, k ≤ 4 ∧ i = .int .i64 k ∧ Hid ((1 ≤ k → liveT (a0, b0, c0, n0, e0) = false) ∧ (2 ≤ k → liveT (a1, b1, c1, n1, e1) = false) ∧ (3 ≤ k → liveT (a2, b2, c2, n2, e2) = false) ∧ (4 ≤ k → liveT (a3, b3, c3, n3, e3) = false)) ∧ Hid (Below W0.heap.size W0 wr)) (fun i _ => 4 - (intOf i).toNat)
  case atStart => exact ⟨0, by omega, rfl, Lib.hid ⟨by omega, by omega, by omega, by omega⟩, H0⟩
  case round =>
    clear H0
    obtain ⟨k, hk, rfl, HA, HB⟩ := hrel
    have hl0 : w.heap.size < W0.heap.size := by have := HWS.out; omega
    have hwa : ∀ o, Below W0.heap.size W0 (wr.alloc o) := fun o => HB.out.alloc HB.out.size o
    have HWA := Lib.hid hwa
    have HL0' := Lib.hid hl0
    clear hwa hl0
    obtain rfl | rfl | rfl | rfl | rfl : k = 0 ∨ k = 1 ∨ k = 2 ∨ k = 3 ∨ k = 4 := by omega
    · rcases HL0.out with ⟨hlv, htest⟩ | ⟨hlv, t1, t2⟩
      · have hRe : R = (a0, b0, c0, n0, e0) := by
          rw [← HR.out]
          unfold nextT
          rw [hlv, if_pos rfl]
        have HRE := Lib.hid hRe
        clear hlv hRe
        rcases htest with t1 | ⟨t1, t2⟩
        · go_wp2_with fail
          refine (HD0.out _ (HWB.out.trans ((HWA.out _).mono (by have := HWS.out; omega)))).mono ?_
          rintro e w2 ⟨rfl, hb⟩
          have HB2 := Lib.hid ((HWA.out _).trans (hb.mono (HWA.out _).size))
          clear hb
          have hblk := (HB2.out.block w.heap.size HL0'.out).trans HC1.out
          have q0 : w2.cell? ⟨w.heap.size, 0, none⟩ = some (.int .i64 0) := Joins.cell_of_block hblk 0
          have f0 : w2.frozen? ⟨w.heap.size, 0, none⟩ = false := Joins.unfrozen_of_block hblk 0
          have q1 : w2.cell? ⟨w.heap.size, 1, none⟩ = some (.int .i64 0) := Joins.cell_of_block hblk 1
          have f1 : w2.frozen? ⟨w.heap.size, 1, none⟩ = false := Joins.unfrozen_of_block hblk 1
          have q2 : w2.cell? ⟨w.heap.size, 2, none⟩ = some (.string ⟨#[]⟩) := Joins.cell_of_block hblk 2
          have f2 : w2.frozen? ⟨w.heap.size, 2, none⟩ = false := Joins.unfrozen_of_block hblk 2
          have q3 : w2.cell? ⟨w.heap.size, 3, none⟩ = some (.int .i64 0) := Joins.cell_of_block hblk 3
          have f3 : w2.frozen? ⟨w.heap.size, 3, none⟩ = false := Joins.unfrozen_of_block hblk 3
          have hlt2 : w.heap.size < w2.heap.size := Nat.lt_of_lt_of_le HL0'.out HB2.out.size
          clear hblk
          go_wp2_with fail
          refine bodyPost_ret (v := .tuple #[.agg #[.int .i64 a0, .int .i64 b0, .string c0, .int .i64 0], .int .i64 n0, .int .i64 e0]) (by simp [results, Tryd.results21, go_sem, q0, q1, q2, q3, hlt2]) rfl ⟨by rw [HRE.out]; rfl, ?_⟩
          have hB : Below w.heap.size w w2 := HWB.out.trans (HB2.out.mono (by have := HWS.out; omega))
          exact ((((hB.setCell (Nat.le_refl _) _).setCell (Nat.le_refl _) _).setCell (Nat.le_refl _) _).setCell (Nat.le_refl _) _).alloc (by simp; exact hB.size) _
        · go_wp2_with fail
          refine (HD0.out _ (HWB.out.trans ((HWA.out _).mono (by have := HWS.out; omega)))).mono ?_
          rintro e w2 ⟨rfl, hb⟩
          have HB2 := Lib.hid ((HWA.out _).trans (hb.mono (HWA.out _).size))
          clear hb
          have hblk := (HB2.out.block w.heap.size HL0'.out).trans HC1.out
          have q0 : w2.cell? ⟨w.heap.size, 0, none⟩ = some (.int .i64 0) := Joins.cell_of_block hblk 0
          have f0 : w2.frozen? ⟨w.heap.size, 0, none⟩ = false := Joins.unfrozen_of_block hblk 0
          have q1 : w2.cell? ⟨w.heap.size, 1, none⟩ = some (.int .i64 0) := Joins.cell_of_block hblk 1
          have f1 : w2.frozen? ⟨w.heap.size, 1, none⟩ = false := Joins.unfrozen_of_block hblk 1
          have q2 : w2.cell? ⟨w.heap.size, 2, none⟩ = some (.string ⟨#[]⟩) := Joins.cell_of_block hblk 2
          have f2 : w2.frozen? ⟨w.heap.size, 2, none⟩ = false := Joins.unfrozen_of_block hblk 2
          have q3 : w2.cell? ⟨w.heap.size, 3, none⟩ = some (.int .i64 0) := Joins.cell_of_block hblk 3
          have f3 : w2.frozen? ⟨w.heap.size, 3, none⟩ = false := Joins.unfrozen_of_block hblk 3
          have hlt2 : w.heap.size < w2.heap.size := Nat.lt_of_lt_of_le HL0'.out HB2.out.size
          clear hblk
          go_wp2_with fail
          refine bodyPost_ret (v := .tuple #[.agg #[.int .i64 a0, .int .i64 b0, .string c0, .int .i64 0], .int .i64 n0, .int .i64 e0]) (by simp [results, Tryd.results21, go_sem, q0, q1, q2, q3, hlt2]) rfl ⟨by rw [HRE.out]; rfl, ?_⟩
          have hB : Below w.heap.size w w2 := HWB.out.trans (HB2.out.mono (by have := HWS.out; omega))
          exact ((((hB.setCell (Nat.le_refl _) _).setCell (Nat.le_refl _) _).setCell (Nat.le_refl _) _).setCell (Nat.le_refl _) _).alloc (by simp; exact hB.size) _
      · have HLV := Lib.hid hlv
        clear hlv
        go_wp2_with fail
        refine (HD0.out _ (HWB.out.trans ((HWA.out _).mono (by have := HWS.out; omega)))).mono ?_
        rintro e w2 ⟨rfl, hb⟩
        have HB2 := Lib.hid ((HWA.out _).trans (hb.mono (HWA.out _).size))
        clear hb
        go_wp2_with fail
        go_roundw
        case rel => exact ⟨1, by omega, by go_num, Lib.hid (by have := HA.out; have := HLV.out; simp_all), Lib.hid (HB2.out.alloc HB2.out.size _)⟩
        case measure => simp [intOf]
    · rcases HL1.out with ⟨hlv, htest⟩ | ⟨hlv, t1, t2⟩
      · have hRe : R = (a1, b1, c1, n1, e1) := by
          rw [← HR.out]
          unfold nextT
          rw [HA.out.1 (by decide), if_neg (by decide), hlv, if_pos rfl]
        have HRE := Lib.hid hRe
        clear hlv hRe
        rcases htest with t1 | ⟨t1, t2⟩
        · go_wp2_with fail
          refine (HD1.out _ (HWB.out.trans ((HWA.out _).mono (by have := HWS.out; omega)))).mono ?_
          rintro e w2 ⟨rfl, hb⟩
          have HB2 := Lib.hid ((HWA.out _).trans (hb.mono (HWA.out _).size))
          clear hb
          have hblk := (HB2.out.block w.heap.size HL0'.out).trans HC1.out
          have q0 : w2.cell? ⟨w.heap.size, 0, none⟩ = some (.int .i64 0) := Joins.cell_of_block hblk 0
          have f0 : w2.frozen? ⟨w.heap.size, 0, none⟩ = false := Joins.unfrozen_of_block hblk 0
          have q1 : w2.cell? ⟨w.heap.size, 1, none⟩ = some (.int .i64 0) := Joins.cell_of_block hblk 1
          have f1 : w2.frozen? ⟨w.heap.size, 1, none⟩ = false := Joins.unfrozen_of_block hblk 1
          have q2 : w2.cell? ⟨w.heap.size, 2, none⟩ = some (.string ⟨#[]⟩) := Joins.cell_of_block hblk 2
          have f2 : w2.frozen? ⟨w.heap.size, 2, none⟩ = false := Joins.unfrozen_of_block hblk 2
          have q3 : w2.cell? ⟨w.heap.size, 3, none⟩ = some (.int .i64 0) := Joins.cell_of_block hblk 3
          have f3 : w2.frozen? ⟨w.heap.size, 3, none⟩ = false := Joins.unfrozen_of_block hblk 3
          have hlt2 : w.heap.size < w2.heap.size := Nat.lt_of_lt_of_le HL0'.out HB2.out.size
          clear hblk
          go_wp2_with fail
          refine bodyPost_ret (v := .tuple #[.agg #[.int .i64 a1, .int .i64 b1, .string c1, .int .i64 0], .int .i64 n1, .int .i64 e1]) (by simp [results, Tryd.results21, go_sem, q0, q1, q2, q3, hlt2]) rfl ⟨by rw [HRE.out]; rfl, ?_⟩
          have hB : Below w.heap.size w w2 := HWB.out.trans (HB2.out.mono (by have := HWS.out; omega))
          exact ((((hB.setCell (Nat.le_refl _) _).setCell (Nat.le_refl _) _).setCell (Nat.le_refl _) _).setCell (Nat.le_refl _) _).alloc (by simp; exact hB.size) _
        · go_wp2_with fail
          refine (HD1.out _ (HWB.out.trans ((HWA.out _).mono (by have := HWS.out; omega)))).mono ?_
          rintro e w2 ⟨rfl, hb⟩
          have HB2 := Lib.hid ((HWA.out _).trans (hb.mono (HWA.out _).size))
          clear hb
          have hblk := (HB2.out.block w.heap.size HL0'.out).trans HC1.out
          have q0 : w2.cell? ⟨w.heap.size, 0, none⟩ = some (.int .i64 0) := Joins.cell_of_block hblk 0
          have f0 : w2.frozen? ⟨w.heap.size, 0, none⟩ = false := Joins.unfrozen_of_block hblk 0
          have q1 : w2.cell? ⟨w.heap.size, 1, none⟩ = some (.int .i64 0) := Joins.cell_of_block hblk 1
          have f1 : w2.frozen? ⟨w.heap.size, 1, none⟩ = false := Joins.unfrozen_of_block hblk 1
          have q2 : w2.cell? ⟨w.heap.size, 2, none⟩ = some (.string ⟨#[]⟩) := Joins.cell_of_block hblk 2
          have f2 : w2.frozen? ⟨w.heap.size, 2, none⟩ = false := Joins.unfrozen_of_block hblk 2
          have q3 : w2.cell? ⟨w.heap.size, 3, none⟩ = some (.int .i64 0) := Joins.cell_of_block hblk 3
          have f3 : w2.frozen? ⟨w.heap.size, 3, none⟩ = false := Joins.unfrozen_of_block hblk 3
          have hlt2 : w.heap.size < w2.heap.size := Nat.lt_of_lt_of_le HL0'.out HB2.out.size
          clear hblk
          go_wp2_with fail
          refine bodyPost_ret (v := .tuple #[.agg #[.int .i64 a1, .int .i64 b1, .string c1, .int .i64 0], .int .i64 n1, .int .i64 e1]) (by simp [results, Tryd.results21, go_sem, q0, q1, q2, q3, hlt2]) rfl ⟨by rw [HRE.out]; rfl, ?_⟩
          have hB : Below w.heap.size w w2 := HWB.out.trans (HB2.out.mono (by have := HWS.out; omega))
          exact ((((hB.setCell (Nat.le_refl _) _).setCell (Nat.le_refl _) _).setCell (Nat.le_refl _) _).setCell (Nat.le_refl _) _).alloc (by simp; exact hB.size) _
      · have HLV := Lib.hid hlv
        clear hlv
        go_wp2_with fail
        refine (HD1.out _ (HWB.out.trans ((HWA.out _).mono (by have := HWS.out; omega)))).mono ?_
        rintro e w2 ⟨rfl, hb⟩
        have HB2 := Lib.hid ((HWA.out _).trans (hb.mono (HWA.out _).size))
        clear hb
        go_wp2_with fail
        go_roundw
        case rel => exact ⟨2, by omega, by go_num, Lib.hid (by have := HA.out; have := HLV.out; simp_all), Lib.hid (HB2.out.alloc HB2.out.size _)⟩
        case measure => simp [intOf]
    · rcases HL2.out with ⟨hlv, htest⟩ | ⟨hlv, t1, t2⟩
      · have hRe : R = (a2, b2, c2, n2, e2) := by
          rw [← HR.out]
          unfold nextT
          rw [HA.out.1 (by decide), if_neg (by decide), HA.out.2.1 (by decide), if_neg (by decide), hlv, if_pos rfl]
        have HRE := Lib.hid hRe
        clear hlv hRe
        rcases htest with t1 | ⟨t1, t2⟩
        · go_wp2_with fail
          refine (HD2.out _ (HWB.out.trans ((HWA.out _).mono (by have := HWS.out; omega)))).mono ?_
          rintro e w2 ⟨rfl, hb⟩
          have HB2 := Lib.hid ((HWA.out _).trans (hb.mono (HWA.out _).size))
          clear hb
          have hblk := (HB2.out.block w.heap.size HL0'.out).trans HC1.out
          have q0 : w2.cell? ⟨w.heap.size, 0, none⟩ = some (.int .i64 0) := Joins.cell_of_block hblk 0
          have f0 : w2.frozen? ⟨w.heap.size, 0, none⟩ = false := Joins.unfrozen_of_block hblk 0
          have q1 : w2.cell? ⟨w.heap.size, 1, none⟩ = some (.int .i64 0) := Joins.cell_of_block hblk 1
          have f1 : w2.frozen? ⟨w.heap.size, 1, none⟩ = false := Joins.unfrozen_of_block hblk 1
          have q2 : w2.cell? ⟨w.heap.size, 2, none⟩ = some (.string ⟨#[]⟩) := Joins.cell_of_block hblk 2
          have f2 : w2.frozen? ⟨w.heap.size, 2, none⟩ = false := Joins.unfrozen_of_block hblk 2
          have q3 : w2.cell? ⟨w.heap.size, 3, none⟩ = some (.int .i64 0) := Joins.cell_of_block hblk 3
          have f3 : w2.frozen? ⟨w.heap.size, 3, none⟩ = false := Joins.unfrozen_of_block hblk 3
          have hlt2 : w.heap.size < w2.heap.size := Nat.lt_of_lt_of_le HL0'.out HB2.out.size
          clear hblk
          go_wp2_with fail
          refine bodyPost_ret (v := .tuple #[.agg #[.int .i64 a2, .int .i64 b2, .string c2, .int .i64 0], .int .i64 n2, .int .i64 e2]) (by simp [results, Tryd.results21, go_sem, q0, q1, q2, q3, hlt2]) rfl ⟨by rw [HRE.out]; rfl, ?_⟩
          have hB : Below w.heap.size w w2 := HWB.out.trans (HB2.out.mono (by have := HWS.out; omega))
          exact ((((hB.setCell (Nat.le_refl _) _).setCell (Nat.le_refl _) _).setCell (Nat.le_refl _) _).setCell (Nat.le_refl _) _).alloc (by simp; exact hB.size) _
        · go_wp2_with fail
          refine (HD2.out _ (HWB.out.trans ((HWA.out _).mono (by have := HWS.out; omega)))).mono ?_
          rintro e w2 ⟨rfl, hb⟩
          have HB2 := Lib.hid ((HWA.out _).trans (hb.mono (HWA.out _).size))
          clear hb
          have hblk := (HB2.out.block w.heap.size HL0'.out).trans HC1.out
          have q0 : w2.cell? ⟨w.heap.size, 0, none⟩ = some (.int .i64 0) := Joins.cell_of_block hblk 0
          have f0 : w2.frozen? ⟨w.heap.size, 0, none⟩ = false := Joins.unfrozen_of_block hblk 0
          have q1 : w2.cell? ⟨w.heap.size, 1, none⟩ = some (.int .i64 0) := Joins.cell_of_block hblk 1
          have f1 : w2.frozen? ⟨w.heap.size, 1, none⟩ = false := Joins.unfrozen_of_block hblk 1
          have q2 : w2.cell? ⟨w.heap.size, 2, none⟩ = some (.string ⟨#[]⟩) := Joins.cell_of_block hblk 2
          have f2 : w2.frozen? ⟨w.heap.size, 2, none⟩ = false := Joins.unfrozen_of_block hblk 2
          have q3 : w2.cell? ⟨w.heap.size, 3, none⟩ = some (.int .i64 0) := Joins.cell_of_block hblk 3
          have f3 : w2.frozen? ⟨w.heap.size, 3, none⟩ = false := Joins.unfrozen_of_block hblk 3
          have hlt2 : w.heap.size < w2.heap.size := Nat.lt_of_lt_of_le HL0'.out HB2.out.size
          clear hblk
          go_wp2_with fail
          refine bodyPost_ret (v := .tuple #[.agg #[.int .i64 a2, .int .i64 b2, .string c2, .int .i64 0], .int .i64 n2, .int .i64 e2]) (by simp [results, Tryd.results21, go_sem, q0, q1, q2, q3, hlt2]) rfl ⟨by rw [HRE.out]; rfl, ?_⟩
          have hB : Below w.heap.size w w2 := HWB.out.trans (HB2.out.mono (by have := HWS.out; omega))
          exact ((((hB.setCell (Nat.le_refl _) _).setCell (Nat.le_refl _) _).setCell (Nat.le_refl _) _).setCell (Nat.le_refl _) _).alloc (by simp; exact hB.size) _
      · have HLV := Lib.hid hlv
        clear hlv
        go_wp2_with fail
        refine (HD2.out _ (HWB.out.trans ((HWA.out _).mono (by have := HWS.out; omega)))).mono ?_
        rintro e w2 ⟨rfl, hb⟩
        have HB2 := Lib.hid ((HWA.out _).trans (hb.mono (HWA.out _).size))
        clear hb
        go_wp2_with fail
        go_roundw
        case rel => exact ⟨3, by omega, by go_num, Lib.hid (by have := HA.out; have := HLV.out; simp_all), Lib.hid (HB2.out.alloc HB2.out.size _)⟩
        case measure => simp [intOf]
    · rcases HL3.out with ⟨hlv, htest⟩ | ⟨hlv, t1, t2⟩
      · have hRe : R = (a3, b3, c3, n3, e3) := by
          rw [← HR.out]
          unfold nextT
          rw [HA.out.1 (by decide), if_neg (by decide), HA.out.2.1 (by decide), if_neg (by decide), HA.out.2.2.1 (by decide), if_neg (by decide), hlv, if_pos rfl]
        have HRE := Lib.hid hRe
        clear hlv hRe
        rcases htest with t1 | ⟨t1, t2⟩
        · go_wp2_with fail
          refine (HD3.out _ (HWB.out.trans ((HWA.out _).mono (by have := HWS.out; omega)))).mono ?_
          rintro e w2 ⟨rfl, hb⟩
          have HB2 := Lib.hid ((HWA.out _).trans (hb.mono (HWA.out _).size))
          clear hb
          have hblk := (HB2.out.block w.heap.size HL0'.out).trans HC1.out
          have q0 : w2.cell? ⟨w.heap.size, 0, none⟩ = some (.int .i64 0) := Joins.cell_of_block hblk 0
          have f0 : w2.frozen? ⟨w.heap.size, 0, none⟩ = false := Joins.unfrozen_of_block hblk 0
          have q1 : w2.cell? ⟨w.heap.size, 1, none⟩ = some (.int .i64 0) := Joins.cell_of_block hblk 1
          have f1 : w2.frozen? ⟨w.heap.size, 1, none⟩ = false := Joins.unfrozen_of_block hblk 1
          have q2 : w2.cell? ⟨w.heap.size, 2, none⟩ = some (.string ⟨#[]⟩) := Joins.cell_of_block hblk 2
          have f2 : w2.frozen? ⟨w.heap.size, 2, none⟩ = false := Joins.unfrozen_of_block hblk 2
          have q3 : w2.cell? ⟨w.heap.size, 3, none⟩ = some (.int .i64 0) := Joins.cell_of_block hblk 3
          have f3 : w2.frozen? ⟨w.heap.size, 3, none⟩ = false := Joins.unfrozen_of_block hblk 3
          have hlt2 : w.heap.size < w2.heap.size := Nat.lt_of_lt_of_le HL0'.out HB2.out.size
          clear hblk
          go_wp2_with fail
          refine bodyPost_ret (v := .tuple #[.agg #[.int .i64 a3, .int .i64 b3, .string c3, .int .i64 0], .int .i64 n3, .int .i64 e3]) (by simp [results, Tryd.results21, go_sem, q0, q1, q2, q3, hlt2]) rfl ⟨by rw [HRE.out]; rfl, ?_⟩
          have hB : Below w.heap.size w w2 := HWB.out.trans (HB2.out.mono (by have := HWS.out; omega))
          exact ((((hB.setCell (Nat.le_refl _) _).setCell (Nat.le_refl _) _).setCell (Nat.le_refl _) _).setCell (Nat.le_refl _) _).alloc (by simp; exact hB.size) _
        · go_wp2_with fail
          refine (HD3.out _ (HWB.out.trans ((HWA.out _).mono (by have := HWS.out; omega)))).mono ?_
          rintro e w2 ⟨rfl, hb⟩
          have HB2 := Lib.hid ((HWA.out _).trans (hb.mono (HWA.out _).size))
          clear hb
          have hblk := (HB2.out.block w.heap.size HL0'.out).trans HC1.out
          have q0 : w2.cell? ⟨w.heap.size, 0, none⟩ = some (.int .i64 0) := Joins.cell_of_block hblk 0
          have f0 : w2.frozen? ⟨w.heap.size, 0, none⟩ = false := Joins.unfrozen_of_block hblk 0
          have q1 : w2.cell? ⟨w.heap.size, 1, none⟩ = some (.int .i64 0) := Joins.cell_of_block hblk 1
          have f1 : w2.frozen? ⟨w.heap.size, 1, none⟩ = false := Joins.unfrozen_of_block hblk 1
          have q2 : w2.cell? ⟨w.heap.size, 2, none⟩ = some (.string ⟨#[]⟩) := Joins.cell_of_block hblk 2
          have f2 : w2.frozen? ⟨w.heap.size, 2, none⟩ = false := Joins.unfrozen_of_block hblk 2
          have q3 : w2.cell? ⟨w.heap.size, 3, none⟩ = some (.int .i64 0) := Joins.cell_of_block hblk 3
          have f3 : w2.frozen? ⟨w.heap.size, 3, none⟩ = false := Joins.unfrozen_of_block hblk 3
          have hlt2 : w.heap.size < w2.heap.size := Nat.lt_of_lt_of_le HL0'.out HB2.out.size
          clear hblk
          go_wp2_with fail
          refine bodyPost_ret (v := .tuple #[.agg #[.int .i64 a3, .int .i64 b3, .string c3, .int .i64 0], .int .i64 n3, .int .i64 e3]) (by simp [results, Tryd.results21, go_sem, q0, q1, q2, q3, hlt2]) rfl ⟨by rw [HRE.out]; rfl, ?_⟩
          have hB : Below w.heap.size w w2 := HWB.out.trans (HB2.out.mono (by have := HWS.out; omega))
          exact ((((hB.setCell (Nat.le_refl _) _).setCell (Nat.le_refl _) _).setCell (Nat.le_refl _) _).setCell (Nat.le_refl _) _).alloc (by simp; exact hB.size) _
      · have HLV := Lib.hid hlv
        clear hlv
        go_wp2_with fail
        refine (HD3.out _ (HWB.out.trans ((HWA.out _).mono (by have := HWS.out; omega)))).mono ?_
        rintro e w2 ⟨rfl, hb⟩
        have HB2 := Lib.hid ((HWA.out _).trans (hb.mono (HWA.out _).size))
        clear hb
        go_wp2_with fail
        go_roundw
        case rel => exact ⟨4, by omega, by go_num, Lib.hid (by have := HA.out; have := HLV.out; simp_all), Lib.hid (HB2.out.alloc HB2.out.size _)⟩
        case measure => simp [intOf]
    · have hRe : R = tkNo 5 := by
        rw [← HR.out]
        unfold nextT
        rw [HA.out.1 (by decide), if_neg (by decide), HA.out.2.1 (by decide), if_neg (by decide), HA.out.2.2.1 (by decide), if_neg (by decide), HA.out.2.2.2 (by decide), if_neg (by decide)]
      have HRE := Lib.hid hRe
      clear hRe
      have hblk := (HB.out.block w.heap.size HL0'.out).trans HC1.out
      have q0 : wr.cell? ⟨w.heap.size, 0, none⟩ = some (.int .i64 0) := Joins.cell_of_block hblk 0
      have f0 : wr.frozen? ⟨w.heap.size, 0, none⟩ = false := Joins.unfrozen_of_block hblk 0
      have q1 : wr.cell? ⟨w.heap.size, 1, none⟩ = some (.int .i64 0) := Joins.cell_of_block hblk 1
      have f1 : wr.frozen? ⟨w.heap.size, 1, none⟩ = false := Joins.unfrozen_of_block hblk 1
      have q2 : wr.cell? ⟨w.heap.size, 2, none⟩ = some (.string ⟨#[]⟩) := Joins.cell_of_block hblk 2
      have f2 : wr.frozen? ⟨w.heap.size, 2, none⟩ = false := Joins.unfrozen_of_block hblk 2
      have q3 : wr.cell? ⟨w.heap.size, 3, none⟩ = some (.int .i64 0) := Joins.cell_of_block hblk 3
      have f3 : wr.frozen? ⟨w.heap.size, 3, none⟩ = false := Joins.unfrozen_of_block hblk 3
      clear hblk
      go_wp2_with fail
      refine bodyPost_ret (v := .tuple #[.agg #[.int .i64 0, .int .i64 0, .string ⟨#[]⟩, .int .i64 0], .int .i64 0, .int .i64 5]) (by simp [results, Tryd.results21, go_sem, q0, q1, q2, q3]) rfl ⟨by rw [HRE.out]; rfl, ?_⟩
      exact ((((HWB.out.trans (HB.out.mono (by have := HWS.out; omega))).setCell (Nat.le_refl _) _).setCell (Nat.le_refl _) _).setCell (Nat.le_refl _) _).setCell (Nat.le_refl _) _
def nextS (s : ByteArray) : Tk := nextT (tokP s) (tokG s) (tokB s) (tokW s)
theorem next_calls (s : ByteArray) (hs : 0 < s.size) (hz : s.size ≤ 1000000000) (w : World) (hT : LexTabs w) : Calls Tryd.prog 21 #[.string s] w fun e w' => e = TokE (nextS s) ∧ Below w.heap.size w w' :=
  next_main s w _ _ _ _ _ _ _ _ _ _ _ _ _ _ _ _ _ _ _ _ (nextS s) rfl (fun w1 hb => plainRune_calls s w1 (hT.below hb)) (fun w1 _ => sign_tok s hs w1) (fun w1 _ => bent_calls s hs w1) (fun w1 _ => word_calls s hs hz w1)
end Go.Proofs.YtplkdfkahcpoeaaDoor.P
