/- head.Is, walked. -/
import Derived.Test.YtfeodnceegkmjaaHeadLeaf
namespace Go.Proofs.Ytfeodnceegkmjaa.P
open Go.RowKit Go.Proofs.YtfeodnceegkmjaaW.PrintWords Go.Proofs.YtfeodnceegkmjaaW.PrintLast Go.Proofs.YtfeodnceegkmjaaW.PrintMore
set_option linter.unusedVariables false
set_option linter.unusedSimpArgs false
theorem store_fn (W : World) (b : Nat) (t : TypeId) (old v : Value) (hv : v.oneCell' = true) (hb : b = W.heap.size) :
    (store ⟨b, 0, none⟩ v).run Try.prog (W.alloc (.cells #[old] t)) = .ok () (W.alloc (.cells #[v] t)) := by
  rw [run_store _ _ _ _ _ hv, World.cell?_alloc_at (w := W) #[old] t b 0 hb, World.frozen?_alloc_at (w := W) #[old] t b 0 hb, World.setCell_alloc_at (w := W) #[old] t b 0 v hb]
  rfl
set_option maxHeartbeats 4000000 in
theorem head_main (a0 a1 a2 a3 a4 : Int) (a5 d0 d1 d2 d3 R : Bool) (w : World) (hR : (d0 && d1 && d2 && d3) = R)
    (h2 : ∀ w, Calls Try.prog 26 #[.agg (HV a0 a1 a2 a3 a4 a5)] w fun e w' => e = .returned (.bool d0) ∧ Below w.heap.size w w')
    (h3 : ∀ w, Calls Try.prog 27 #[.agg (HV a0 a1 a2 a3 a4 a5)] w fun e w' => e = .returned (.bool d1) ∧ Below w.heap.size w w')
    (h4 : ∀ w, Calls Try.prog 28 #[.agg (HV a0 a1 a2 a3 a4 a5)] w fun e w' => e = .returned (.bool d2) ∧ Below w.heap.size w w')
    (h5 : ∀ (s : Nat) w, w.cell? ⟨s, 0, none⟩ = some (.func (.func 25) #[] #[]) → s < w.heap.size → Calls Try.prog 29 #[.agg (HV a0 a1 a2 a3 a4 a5), .pointer (some ⟨s, 0, none⟩)] w fun e w' => e = .returned (.bool d3) ∧ Below w.heap.size w w') :
    Calls Try.prog 14 #[.agg (HV a0 a1 a2 a3 a4 a5)] w fun e w' => e = .returned (.bool R) ∧ Below w.heap.size w w' := by
  have HR := Lib.hid hR
  clear hR
  have hst : ∀ (W : World) (b : Nat) (t : TypeId) (old : Value) (f : Fn) (c : Array Value), b = W.heap.size → (store ⟨b, 0, none⟩ (.func f #[] c)).run Try.prog (W.alloc (.cells #[old] t)) = .ok () (W.alloc (.cells #[.func f #[] c] t)) := fun W b t old f c hb => store_fn W b t old _ rfl hb
  unfold HV at h2 h3 h4 h5
  unfold HV
  have HD0 := Lib.hid h2
  have HD1 := Lib.hid h3
  have HD2 := Lib.hid h4
  have HD3 := Lib.hid h5
  clear h2 h3 h4 h5
  go_enter Try.func14, Try.ntmps14
  go_wp2_with fail
  generalize hW0 : (w.alloc (.cells #[.int .i64 a0, .int .i64 a1, .int .i64 a2, .int .i64 a3, .int .i64 a4, .bool a5] 23)).alloc (.cells #[.func (.func 25) #[] #[]] 53) = W0
  have hws : W0.heap.size = w.heap.size + 2 := by rw [← hW0]; simp
  have hwb : Below w.heap.size w W0 := by rw [← hW0]; exact ((Below.refl w.heap.size w).alloc (Nat.le_refl _) _).alloc (by simp) _
  have hc1 : W0.heap[w.heap.size]? = some (.cells #[.int .i64 a0, .int .i64 a1, .int .i64 a2, .int .i64 a3, .int .i64 a4, .bool a5] 23 (0, 0)) := by
    rw [← hW0, heap_alloc_old _ _ (by simp)]; exact heap_alloc_new w _
  have hc2 : W0.cell? ⟨w.heap.size + 1, 0, none⟩ = some (.func (.func 25) #[] #[]) := by
    rw [← hW0]; simp only [World.cell?, heap_alloc2_new]; rfl
  clear hW0
  have HWS := Lib.hid hws
  have HWB := Lib.hid hwb
  have HC1 := Lib.hid hc1
  have HC2 := Lib.hid hc2
  have H0 := Lib.hid (Below.refl W0.heap.size W0)
  clear hws hwb hc1 hc2
  generalize hCH : (#[.func (.func 26) #[] #[], .func (.func 27) #[] #[], .func (.func 28) #[] #[], .func (.func 29) #[] #[.pointer (some ⟨w.heap.size + 1, 0, none⟩)]] : Array Value) = CH
  have i0 : ∀ W, (Instr.index 56 (.agg CH) (.int .i64 0)).run Try.prog W = .ok (.agg #[.func (.func 26) #[] #[]]) W := fun W => by rw [← hCH]; kernel_rfl
  have i1 : ∀ W, (Instr.index 56 (.agg CH) (.int .i64 1)).run Try.prog W = .ok (.agg #[.func (.func 27) #[] #[]]) W := fun W => by rw [← hCH]; kernel_rfl
  have i2 : ∀ W, (Instr.index 56 (.agg CH) (.int .i64 2)).run Try.prog W = .ok (.agg #[.func (.func 28) #[] #[]]) W := fun W => by rw [← hCH]; kernel_rfl
  have i3 : ∀ W, (Instr.index 56 (.agg CH) (.int .i64 3)).run Try.prog W = .ok (.agg #[.func (.func 29) #[] #[.pointer (some ⟨w.heap.size + 1, 0, none⟩)]]) W := fun W => by rw [← hCH]; kernel_rfl
  clear hCH
  go_loopw [12] (fun i wr => ∃ k : Nat, k ≤ 4 ∧ i = .int .i64 k ∧ Hid ((1 ≤ k → d0 = true) ∧ (2 ≤ k → d1 = true) ∧ (3 ≤ k → d2 = true) ∧ (4 ≤ k → d3 = true)) ∧ Hid (Below W0.heap.size W0 wr)) (fun i _ => 4 - (intOf i).toNat)
  case atStart => exact ⟨0, by omega, rfl, Lib.hid ⟨by omega, by omega, by omega, by omega⟩, H0⟩
  case round =>
    clear H0
    obtain ⟨k, hk, rfl, HA, HB⟩ := hrel
    have hl0 : w.heap.size < W0.heap.size := by have := HWS.out; omega
    have hl1 : w.heap.size + 1 < W0.heap.size := by have := HWS.out; omega
    have hltw : w.heap.size < wr.heap.size := Nat.lt_of_lt_of_le hl0 HB.out.size
    have hlt1 : w.heap.size + 1 < wr.heap.size := Nat.lt_of_lt_of_le hl1 HB.out.size
    have q0 : wr.cell? ⟨w.heap.size, 0, none⟩ = some (.int .i64 a0) := (HB.out.cell hl0).trans (by simp only [World.cell?, HC1.out]; rfl)
    have q1 : wr.cell? ⟨w.heap.size, 1, none⟩ = some (.int .i64 a1) := (HB.out.cell hl0).trans (by simp only [World.cell?, HC1.out]; rfl)
    have q2 : wr.cell? ⟨w.heap.size, 2, none⟩ = some (.int .i64 a2) := (HB.out.cell hl0).trans (by simp only [World.cell?, HC1.out]; rfl)
    have q3 : wr.cell? ⟨w.heap.size, 3, none⟩ = some (.int .i64 a3) := (HB.out.cell hl0).trans (by simp only [World.cell?, HC1.out]; rfl)
    have q4 : wr.cell? ⟨w.heap.size, 4, none⟩ = some (.int .i64 a4) := (HB.out.cell hl0).trans (by simp only [World.cell?, HC1.out]; rfl)
    have q5 : wr.cell? ⟨w.heap.size, 5, none⟩ = some (.bool a5) := (HB.out.cell hl0).trans (by simp only [World.cell?, HC1.out]; rfl)
    have q6 : wr.cell? ⟨w.heap.size + 1, 0, none⟩ = some (.func (.func 25) #[] #[]) := (HB.out.cell hl1).trans HC2.out
    have Q6 := Lib.hid q6
    clear q6 hl0 hl1
    have hwa : ∀ o, Below W0.heap.size W0 (wr.alloc o) := fun o => HB.out.alloc HB.out.size o
    have HWA := Lib.hid hwa
    clear hwa
    obtain rfl | rfl | rfl | rfl | rfl : k = 0 ∨ k = 1 ∨ k = 2 ∨ k = 3 ∨ k = 4 := by omega
    · cases hdk : d0
      · have hRf : R = false := by rw [← HR.out]; simp [hdk]
        rw [hdk] at HD0
        clear hdk
        go_wp2_with (go_at_call 26; refine ((HD0.out _)).mono ?_; rintro e w2 ⟨rfl, hb⟩; have HB2 := Lib.hid ((HWA.out _).trans (hb.mono (HWA.out _).size)); clear hb)
        go_ret
        exact ⟨by rw [hRf]; rfl, HWB.out.trans (HB2.out.mono (by have := HWS.out; omega))⟩
      · rw [hdk] at HD0
        have HK := Lib.hid hdk
        clear hdk
        go_wp2_with (go_at_call 26; refine ((HD0.out _)).mono ?_; rintro e w2 ⟨rfl, hb⟩; have HB2 := Lib.hid ((HWA.out _).trans (hb.mono (HWA.out _).size)); clear hb)
        go_roundw
        case rel => exact ⟨1, by omega, by go_num, Lib.hid (by have := HA.out; have := HK.out; simp_all), HB2⟩
        case measure => simp [intOf]
    · cases hdk : d1
      · have hRf : R = false := by rw [← HR.out]; simp [hdk]
        rw [hdk] at HD1
        clear hdk
        go_wp2_with (go_at_call 27; refine ((HD1.out _)).mono ?_; rintro e w2 ⟨rfl, hb⟩; have HB2 := Lib.hid ((HWA.out _).trans (hb.mono (HWA.out _).size)); clear hb)
        go_ret
        exact ⟨by rw [hRf]; rfl, HWB.out.trans (HB2.out.mono (by have := HWS.out; omega))⟩
      · rw [hdk] at HD1
        have HK := Lib.hid hdk
        clear hdk
        go_wp2_with (go_at_call 27; refine ((HD1.out _)).mono ?_; rintro e w2 ⟨rfl, hb⟩; have HB2 := Lib.hid ((HWA.out _).trans (hb.mono (HWA.out _).size)); clear hb)
        go_roundw
        case rel => exact ⟨2, by omega, by go_num, Lib.hid (by have := HA.out; have := HK.out; simp_all), HB2⟩
        case measure => simp [intOf]
    · cases hdk : d2
      · have hRf : R = false := by rw [← HR.out]; simp [hdk]
        rw [hdk] at HD2
        clear hdk
        go_wp2_with (go_at_call 28; refine ((HD2.out _)).mono ?_; rintro e w2 ⟨rfl, hb⟩; have HB2 := Lib.hid ((HWA.out _).trans (hb.mono (HWA.out _).size)); clear hb)
        go_ret
        exact ⟨by rw [hRf]; rfl, HWB.out.trans (HB2.out.mono (by have := HWS.out; omega))⟩
      · rw [hdk] at HD2
        have HK := Lib.hid hdk
        clear hdk
        go_wp2_with (go_at_call 28; refine ((HD2.out _)).mono ?_; rintro e w2 ⟨rfl, hb⟩; have HB2 := Lib.hid ((HWA.out _).trans (hb.mono (HWA.out _).size)); clear hb)
        go_roundw
        case rel => exact ⟨3, by omega, by go_num, Lib.hid (by have := HA.out; have := HK.out; simp_all), HB2⟩
        case measure => simp [intOf]
    · cases hdk : d3
      · have hRf : R = false := by rw [← HR.out]; simp [hdk]
        rw [hdk] at HD3
        clear hdk
        go_wp2_with (go_at_call 29; refine ((HD3.out (w.heap.size + 1) _ (by rw [World.cell?_alloc_past _ _ _ hlt1]; exact Q6.out) (by simp; omega))).mono ?_; rintro e w2 ⟨rfl, hb⟩; have HB2 := Lib.hid ((HWA.out _).trans (hb.mono (HWA.out _).size)); clear hb)
        go_ret
        exact ⟨by rw [hRf]; rfl, HWB.out.trans (HB2.out.mono (by have := HWS.out; omega))⟩
      · rw [hdk] at HD3
        have HK := Lib.hid hdk
        clear hdk
        go_wp2_with (go_at_call 29; refine ((HD3.out (w.heap.size + 1) _ (by rw [World.cell?_alloc_past _ _ _ hlt1]; exact Q6.out) (by simp; omega))).mono ?_; rintro e w2 ⟨rfl, hb⟩; have HB2 := Lib.hid ((HWA.out _).trans (hb.mono (HWA.out _).size)); clear hb)
        go_roundw
        case rel => exact ⟨4, by omega, by go_num, Lib.hid (by have := HA.out; have := HK.out; simp_all), HB2⟩
        case measure => simp [intOf]
    · have hA := HA.out
      have hRt : R = true := by rw [← HR.out, hA.1 (by decide), hA.2.1 (by decide), hA.2.2.1 (by decide), hA.2.2.2 (by decide)]; rfl
      clear hA
      go_wp2_with fail
      go_ret
      exact ⟨by rw [hRt]; rfl, HWB.out.trans (HB.out.mono (by have := HWS.out; omega))⟩
def head_Is.f (a0 a1 a2 a3 a4 : Int) (a5 : Bool) : Option Bool :=
  some (decide (16 ≤ a0 ∧ a0 ≤ 16384) && decide (1 ≤ a1 ∧ a1 ≤ 65535) && decide (1 ≤ a2 ∧ a2 ≤ a1) && decide ((-32768 ≤ a3 ∧ a3 < 32768) ∧ (-32768 ≤ a4 ∧ a4 < 32768)))
theorem head_Is.calls (a0 a1 a2 a3 a4 : Int) (a5 : Bool) (r : Bool) (w : World) (h : head_Is.f a0 a1 a2 a3 a4 a5 = some r) :
    Calls Try.prog 14 #[.agg #[.int .i64 a0, .int .i64 a1, .int .i64 a2, .int .i64 a3, .int .i64 a4, .bool a5]] w fun e w' => e = .returned (.bool r) ∧ Below w.heap.size w w' :=
  head_main a0 a1 a2 a3 a4 a5 _ _ _ _ r w (Option.some.inj h) (hd2 a0 a1 a2 a3 a4 a5) (hd3 a0 a1 a2 a3 a4 a5) (hd4 a0 a1 a2 a3 a4 a5) (hd5 a0 a1 a2 a3 a4 a5)
end Go.Proofs.Ytfeodnceegkmjaa.P
