/- Layer 5: the law HeadOnly, walked: it returns true. -/
import Derived.Test.YtfeodnceegkmjaaHeaded
import Derived.Laws.IdiomStrings
namespace Go.Proofs.Ytfeodnceegkmjaa.P
open Go.RowKit Go.Proofs.YtfeodnceegkmjaaW.PrintWords Go.Proofs.YtfeodnceegkmjaaW.PrintLast Go.Proofs.YtfeodnceegkmjaaW.PrintMore Go.Proofs.Ytfeodnceegkmjaa.BN
set_option linter.unusedVariables false
set_option linter.unusedSimpArgs false
attribute [local go_sem high] eqA23
theorem set_part (l : List UInt8) (n at_ m : Nat) (x : UInt8) (h : n < at_ ∨ at_ + m ≤ n) : ((l.set n x).drop at_).take m = (l.drop at_).take m := by
  apply List.ext_getElem?
  intro i
  rw [List.getElem?_take, List.getElem?_take]
  split
  · rw [List.getElem?_drop, List.getElem?_drop, List.getElem?_set_ne (by omega)]
  · rfl
theorem ff_set (s t : ByteArray) (n at_ m : Nat) (x : UInt8) (z : Int) (ht : bytesl t = (bytesl s).set n x) (h : n < at_ ∨ at_ + m ≤ n) : ff t at_ m z = ff s at_ m z := by
  unfold ff
  rw [← tvl_take ((bytesl t).drop at_), ← tvl_take ((bytesl s).drop at_), ht, set_part _ _ _ _ _ h]
theorem getS_set (a b c t : ByteArray) (n : Nat) (x : UInt8) (ht : bytesl t = (bytesl a).set n x) (h1 : n < 12 ∨ 16 ≤ n) (h2 : n < 18 ∨ 20 ≤ n) (h3 : n < 50 ∨ 52 ≤ n) : getS t b c = getS a b c := by
  have hs : t.size = a.size := by rw [size_eq, size_eq, ht, List.length_set]
  unfold getS
  rw [hs, ff_set a t n 12 4 x 4 ht h1, ff_set a t n 50 2 x (-2) ht h3, ff_set a t n 18 2 x 2 ht h2]
theorem getS_err {a b c : ByteArray} {x1 x2 x3 x4 x5 : Int} {x6 : Bool} {x7 : Int} (h : getS a b c = (x1, x2, x3, x4, x5, x6, x7)) :
    (x7 ≠ 0 → x1 = 0 ∧ x2 = 0 ∧ x3 = 0 ∧ x4 = 0 ∧ x5 = 0 ∧ x6 = false) ∧ (x7 = 0 → headB x1 x2 x3 x4 x5 = true ∧ 54 ≤ a.size) := by
  unfold getS noHead at h
  split at h
  · simp only [Prod.mk.injEq] at h
    obtain ⟨rfl, rfl, rfl, rfl, rfl, rfl, rfl⟩ := h
    exact ⟨fun _ => ⟨rfl, rfl, rfl, rfl, rfl, rfl⟩, fun h => absurd h (by decide)⟩
  · split at h
    · simp only [Prod.mk.injEq] at h
      obtain ⟨rfl, rfl, rfl, rfl, rfl, rfl, rfl⟩ := h
      exact ⟨fun _ => ⟨rfl, rfl, rfl, rfl, rfl, rfl⟩, fun h => absurd h (by decide)⟩
    · split at h
      · rename_i hs _ hh
        simp only [Prod.mk.injEq] at h
        obtain ⟨rfl, rfl, rfl, rfl, rfl, rfl, rfl⟩ := h
        exact ⟨fun h => absurd rfl h, fun _ => ⟨hh, by omega⟩⟩
      · simp only [Prod.mk.injEq] at h
        obtain ⟨rfl, rfl, rfl, rfl, rfl, rfl, rfl⟩ := h
        exact ⟨fun _ => ⟨rfl, rfl, rfl, rfl, rfl, rfl⟩, fun h => absurd h (by decide)⟩
theorem u8_wf {x : Int} (h : (Lit.int .u8 x).wf = true) : 0 ≤ x ∧ x < 256 := by
  have : 0 ≤ x ∧ x ≤ 255 := by simpa [Lit.wf, IntKind.min, IntKind.max, IntKind.bits, IntKind.signed] using h
  omega
/-- '[]byte(s)', one byte of it set, and '.. as a string' again. -/
theorem conv_set (s : ByteArray) (n : Nat) (x : Int) (hn : n < s.size) (hx : 0 ≤ x ∧ x < 256) (w : World) : ∃ (W : World) (C : Nat) (S : ByteArray), (convert 9 35 (.string s)).run Try.prog w = .ok (.slice (some ⟨w.heap.size, 0, none⟩) s.size C) W ∧ Below w.heap.size w W ∧
    (∃ v, W.cell? ⟨w.heap.size, n, none⟩ = some v) ∧ W.frozen? ⟨w.heap.size, n, none⟩ = false ∧ s.size ≤ C ∧
    (convert 35 9 (.slice (some ⟨w.heap.size, 0, none⟩) s.size C)).run Try.prog (W.setCell ⟨w.heap.size, n, none⟩ (.int .u8 x)) = .ok (.string S) (W.setCell ⟨w.heap.size, n, none⟩ (.int .u8 x)) ∧ bytesl S = (bytesl s).set n (UInt8.ofNat x.toNat) := by
  have hb : Below w.heap.size w (Lib.bytesWorld w 5 s) := bytes_below (Below.refl _ _) (Nat.le_refl _) _ _
  have hc := Lib.bytesWorld_at_new w 5 s
  have hsz : s.size ≤ (Lib.bytesCells w 5 s).size := by
    unfold Lib.bytesCells
    rw [Array.size_append, Array.size_map]
    exact Nat.le_add_right _ _
  have hle : s.size ≤ grownCap w s.size 0 5 := grownCap_ge w s.size 0 5
  refine ⟨Lib.bytesWorld w 5 s, grownCap w s.size 0 5, ⟨((bytesl s).set n (UInt8.ofNat x.toNat)).toArray⟩, Lib.run_convert_string_bytes (P := Try.prog) w 9 35 5 s Try.underlying9 Try.underlying35 Try.underlying5, hb, ⟨_, Lib.bytesWorld_cell w 5 s n hn⟩, ?_, hle, ?_, rfl⟩
  · simp only [World.frozen?, hc]
    rw [decide_eq_false (by omega)]
    rfl
  · have := run_convert_bytes_back (P := Try.prog) ((Lib.bytesWorld w 5 s).setCell ⟨w.heap.size, n, none⟩ (.int .u8 x)) 35 9 5 ⟨w.heap.size, 0, none⟩ (grownCap w s.size 0 5) ((bytesl s).set n (UInt8.ofNat x.toNat)) Try.underlying35 Try.underlying5 Try.underlying9 (fun j hj => ?_)
    · rw [List.length_set, bytesl_length] at this
      exact this
    · have hj' : j < s.size := by rw [List.length_set, bytesl_length] at hj; exact hj
      have hadd : (⟨w.heap.size, 0, none⟩ : Addr).add j = ⟨w.heap.size, j, none⟩ := by unfold Addr.add; by_cases h : j = 0 <;> simp [h]
      rw [hadd]
      have hcell := Joins.cell_of_block (Joins.block_setCell (i := n) hc (.int .u8 x)) j
      rw [hcell, Array.getElem?_setIfInBounds]
      by_cases hnj : n = j
      · subst hnj
        rw [if_pos rfl, if_pos (by omega), List.getElem_set_self]
        have : ((UInt8.ofNat x.toNat).toNat : Int) = x := by rw [UInt8.toNat_ofNat']; omega
        rw [this]
      · rw [if_neg hnj, List.getElem_set_ne hnj]
        have h1 := Lib.bytesWorld_cell w 5 s j hj'
        rw [Joins.cell_of_block hc j] at h1
        rw [h1]
        have hd : j < s.data.size := hj'
        simp [List.getD, bytesl, Array.getElem?_eq_getElem hd]
set_option maxHeartbeats 16000000 in
set_option maxRecDepth 100000 in
theorem headOnly_true (a b c : ByteArray) (at_ x : Int) (w : World) (ha : a.size ≤ 140737488351232) (hb : b.size ≤ 140737488351232) (hc : c.size ≤ 140737488351232) (hxb : 0 ≤ x ∧ x < 256) :
    Calls Try.prog 5 #[.string a, .string b, .string c, .int .i64 at_, .int .u8 x] w fun e w' => e = .returned (.bool true) ∧ Below w.heap.size w w' := by
  have wr1 : IntKind.i64.wrap ((a.size : Int) + (b.size : Int)) = (a.size : Int) + (b.size : Int) := IntWalk.i64_in _ (by omega)
  have wr2 : IntKind.i64.wrap ((a.size : Int) + (b.size : Int) + (c.size : Int)) = (a.size : Int) + (b.size : Int) + (c.size : Int) := IntWalk.i64_in _ (by omega)
  by_cases h3 : (3000 : Int) < (a.size : Int) + (b.size : Int) + (c.size : Int)
  · clear ha hb hc hxb
    go_enter Try.func5, Try.ntmps5
    go_wp2_with fail
    go_ret
    exact ⟨rfl, Below.refl _ _⟩
  obtain ⟨⟨x1, x2, x3, x4, x5, x6, x7⟩, hx⟩ : ∃ x, getS a b c = x := ⟨_, rfl⟩
  have hg := fun w => head_Get.calls a b c x1 x2 x3 x4 x5 x6 x7 w (by unfold head_Get.f; rw [if_pos ⟨by omega, by omega, by omega⟩, hx])
  obtain ⟨hz, hok⟩ := getS_err hx
  have HG := Lib.hid hg
  by_cases he : x7 = 0
  · subst he
    obtain ⟨hh, h54⟩ := hok rfl
    have hp : putS x1 x2 x3 x4 x5 x6 = (⟨(hdA x1 x6).toArray⟩, ⟨(hdB x2).toArray⟩, ⟨(hdC x3 x4 x5).toArray⟩, 0) := by unfold putS; rw [hh]; rfl
    have hg2 := get_put x1 x2 x3 x4 x5 x6 hh ⟨(hdA x1 x6).toArray⟩ ⟨(hdB x2).toArray⟩ ⟨(hdC x3 x4 x5).toArray⟩ [] [] [] (by rw [bytesl_mk, List.append_nil]) (by rw [bytesl_mk, List.append_nil]) (by rw [bytesl_mk, List.append_nil])
    have sP : (⟨(hdA x1 x6).toArray⟩ : ByteArray).size = 54 := by rw [size_eq, bytesl_mk, hdA_len]
    have sQ : (⟨(hdB x2).toArray⟩ : ByteArray).size = 6 := by rw [size_eq, bytesl_mk, hdB_len]
    have sR : (⟨(hdC x3 x4 x5).toArray⟩ : ByteArray).size = 36 := by rw [size_eq, bytesl_mk, hdC_len]
    generalize (⟨(hdA x1 x6).toArray⟩ : ByteArray) = P at hp hg2 sP
    generalize (⟨(hdB x2).toArray⟩ : ByteArray) = Q at hp hg2 sQ
    generalize (⟨(hdC x3 x4 x5).toArray⟩ : ByteArray) = R at hp hg2 sR
    have hpu := fun w => head_Put.calls x1 x2 x3 x4 x5 x6 P Q R 0 w (by unfold head_Put.f; rw [hp])
    have hgg := fun w => head_Get.calls P Q R x1 x2 x3 x4 x5 x6 0 w (by unfold head_Get.f; rw [if_pos ⟨by omega, by omega, by omega⟩, hg2])
    have his := fun w => head_Is.calls x1 x2 x3 x4 x5 x6 true w (by rw [head_is_f, hh])
    have HPU := Lib.hid hpu
    have HGG := Lib.hid hgg
    have HIS := Lib.hid his
    have HSZ := Lib.hid (show _ ∧ _ ∧ _ ∧ _ ∧ _ from ⟨ha, hb, hc, hxb, h54⟩)
    have HX := Lib.hid hx
    clear hz hok hh h54 hp hg2 sP sQ sR hpu hgg his hg ha hb hc hxb hx
    go_enter Try.func5, Try.ntmps5
    go_wp2_with fail
    refine (HG.out _).mono ?_
    rintro e w1 ⟨rfl, hb⟩
    have HB1 := Lib.hid hb
    clear hb wr1 wr2
    go_wp2_with fail
    refine (HPU.out _).mono ?_
    rintro e w2 ⟨rfl, hb⟩
    have HX2 := Lib.hid ((hb.block w1.heap.size (by simp)).trans (heap_alloc_new w1 _))
    have hb4 := HB1.out.alloc HB1.out.size (.cells #[.int .i64 x1, .int .i64 x2, .int .i64 x3, .int .i64 x4, .int .i64 x5, .bool x6] 23)
    have HB2 := Lib.hid (hb4.trans (hb.mono hb4.size))
    clear hb hb4 HB1 HPU
    go_wp2_with fail
    refine (HGG.out _).mono ?_
    rintro e w3 ⟨rfl, hb⟩
    have HX3 := Lib.hid ((hb.block _ (nocell_lt HX2.out)).trans HX2.out)
    have HB3 := Lib.hid (HB2.out.trans (hb.mono HB2.out.size))
    clear hb HB2 HX2 HGG
    have hs := HX3.out
    have hlt := nocell_lt HX3.out
    have q0 := Joins.cell_of_block hs 0
    have q1 := Joins.cell_of_block hs 1
    have q2 := Joins.cell_of_block hs 2
    have q3 := Joins.cell_of_block hs 3
    have q4 := Joins.cell_of_block hs 4
    have q5 := Joins.cell_of_block hs 5
    simp at q0 q1 q2 q3 q4 q5
    clear hs
    go_wp2_with fail
    refine (HIS.out _).mono ?_
    rintro e w4 ⟨rfl, hb⟩
    have HX4 := Lib.hid ((hb.block _ (by simp; omega)).trans ((heap_alloc_old _ _ hlt).trans HX3.out))
    have HY4 := Lib.hid ((hb.block w3.heap.size (by simp)).trans (heap_alloc_new w3 _))
    have hb4 := HB3.out.alloc HB3.out.size (.cells #[.int .i64 x1, .int .i64 x2, .int .i64 x3, .int .i64 x4, .int .i64 x5, .bool x6] 23)
    have HB4 := Lib.hid (hb4.trans (hb.mono hb4.size))
    clear hb hb4 HB3 HX3 HIS hlt q0 q1 q2 q3 q4 q5
    have hs := HX4.out
    have hy := HY4.out
    have q0 := Joins.cell_of_block hs 0
    have q1 := Joins.cell_of_block hs 1
    have q2 := Joins.cell_of_block hs 2
    have q3 := Joins.cell_of_block hs 3
    have q4 := Joins.cell_of_block hs 4
    have q5 := Joins.cell_of_block hs 5
    simp at q0 q1 q2 q3 q4 q5
    have r0 := Joins.cell_of_block hy 0
    have r1 := Joins.cell_of_block hy 1
    have r2 := Joins.cell_of_block hy 2
    have r3 := Joins.cell_of_block hy 3
    have r4 := Joins.cell_of_block hy 4
    have r5 := Joins.cell_of_block hy 5
    simp at r0 r1 r2 r3 r4 r5
    clear hs hy
    have hfin : ∀ W, Below w.heap.size w W → Calls Try.prog 13 #[] W fun e w' => e = .returned (.bool true) ∧ Below w.heap.size w w' := fun W hW => (headed_true W).mono fun e w' ⟨h1, h2⟩ => ⟨h1, hW.trans (h2.mono hW.size)⟩
    have HFIN := Lib.hid hfin
    clear hfin
    have hasz := HSZ.out.2.2.2.2
    rcases (show at_ < 0 ∨ (0 ≤ at_ ∧ at_ < 12) ∨ (12 ≤ at_ ∧ at_ < 16) ∨ (16 ≤ at_ ∧ at_ < 18) ∨ (18 ≤ at_ ∧ at_ < 20) ∨ (20 ≤ at_ ∧ at_ < 50) ∨ (50 ≤ at_ ∧ at_ < 52) ∨ (52 ≤ at_ ∧ at_ < (a.size : Int)) ∨ (a.size : Int) ≤ at_ by omega) with h | h | h | h | h | h | h | h | h
    · have t0 : at_ < 0 := by omega
      have t1 : at_ < 12 := by omega
      have t2 : at_ < 16 := by omega
      have t3 : at_ < 18 := by omega
      have t4 : at_ < 20 := by omega
      have t5 : at_ < 50 := by omega
      have t6 : at_ < 52 := by omega
      have t7 : at_ < (a.size : Int) := by omega
      clear h hasz HX HG HSZ HX4 HY4
      go_wp2_with (go_at_call 13; refine (HFIN.out _ HB4.out).mono ?_; rintro e w5 ⟨rfl, hb⟩)
      go_ret
      exact ⟨rfl, hb⟩
    · obtain ⟨kn, rfl⟩ : ∃ n : Nat, at_ = n := ⟨at_.toNat, by omega⟩
      obtain ⟨W5, C, S, hcv, hb5, ⟨v5, hc5⟩, hf5, hC5, hcb, hS⟩ := conv_set a kn x (by omega) HSZ.out.2.2.2.1 w4
      have hg3 : getS S b c = (x1, x2, x3, x4, x5, x6, 0) := (getS_set a b c S kn _ hS (by omega) (by omega) (by omega)).trans HX.out
      have sS : S.size = a.size := by rw [size_eq, size_eq, hS, List.length_set]
      have hgs := fun w => head_Get.calls S b c x1 x2 x3 x4 x5 x6 0 w (by unfold head_Get.f; rw [if_pos ⟨by have := HSZ.out.1; omega, HSZ.out.2.1, HSZ.out.2.2.1⟩, hg3])
      have HGS := Lib.hid hgs
      have hb6 : Below w4.heap.size w4 (W5.setCell ⟨w4.heap.size, kn, none⟩ (.int .u8 x)) := hb5.setCell (Nat.le_refl _) _
      have HB6 := Lib.hid (HB4.out.trans (hb6.mono HB4.out.size))
      have HX6 := Lib.hid ((hb6.block _ (nocell_lt HX4.out)).trans HX4.out)
      have u0 : (0 : Int) ≤ (kn : Int) := by omega
      have u1 : (kn : Int) < (a.size : Int) := by omega
      have t0 : (0 : Int) ≤ (kn : Int) := by omega
      have t1 : (kn : Int) < 12 := by omega
      have t2 : (kn : Int) < 16 := by omega
      have t3 : (kn : Int) < 18 := by omega
      have t4 : (kn : Int) < 20 := by omega
      have t5 : (kn : Int) < 50 := by omega
      have t6 : (kn : Int) < 52 := by omega
      have t7 : (kn : Int) < (a.size : Int) := by omega
      have hC6 : (a.size : Int) ≤ (C : Int) := by omega
      clear hS hg3 sS hgs hb5 hb6 HX HG HSZ HB4 HX4 HY4 h hasz hC5 u0 u1
      go_wp2_with fail
      refine (HGS.out _).mono ?_
      rintro e w7 ⟨rfl, hb⟩
      have HX7 := Lib.hid ((hb.block _ (nocell_lt HX6.out)).trans HX6.out)
      have HB7 := Lib.hid (HB6.out.trans (hb.mono HB6.out.size))
      clear hb HB6 HX6 HGS q0 q1 q2 q3 q4 q5 r0 r1 r2 r3 r4 r5 hcv hcb hc5 hf5
      go_wp2_with fail
      refine (headed_true _).mono ?_
      rintro e w8 ⟨rfl, hb⟩
      have hs := (hb.block _ (by simp; have := nocell_lt HX7.out; omega)).trans ((heap_alloc_old _ _ (nocell_lt HX7.out)).trans HX7.out)
      have hy := (hb.block w7.heap.size (by simp)).trans (heap_alloc_new w7 _)
      have q0 := Joins.cell_of_block hs 0
      have q1 := Joins.cell_of_block hs 1
      have q2 := Joins.cell_of_block hs 2
      have q3 := Joins.cell_of_block hs 3
      have q4 := Joins.cell_of_block hs 4
      have q5 := Joins.cell_of_block hs 5
      simp at q0 q1 q2 q3 q4 q5
      have r0 := Joins.cell_of_block hy 0
      have r1 := Joins.cell_of_block hy 1
      have r2 := Joins.cell_of_block hy 2
      have r3 := Joins.cell_of_block hy 3
      have r4 := Joins.cell_of_block hy 4
      have r5 := Joins.cell_of_block hy 5
      simp at r0 r1 r2 r3 r4 r5
      have hb4 := HB7.out.alloc HB7.out.size (.cells #[.int .i64 x1, .int .i64 x2, .int .i64 x3, .int .i64 x4, .int .i64 x5, .bool x6] 23)
      have HB8 := Lib.hid (hb4.trans (hb.mono hb4.size))
      clear hb hb4 HB7 hs hy HX7
      go_wp2_with fail
      go_ret
      exact ⟨rfl, HB8.out⟩
    · have t0 : (0 : Int) ≤ at_ := by omega
      have t1 : 12 ≤ at_ := by omega
      have t2 : at_ < 16 := by omega
      have t3 : at_ < 18 := by omega
      have t4 : at_ < 20 := by omega
      have t5 : at_ < 50 := by omega
      have t6 : at_ < 52 := by omega
      have t7 : at_ < (a.size : Int) := by omega
      clear h hasz HX HG HSZ HX4 HY4
      go_wp2_with (go_at_call 13; refine (HFIN.out _ HB4.out).mono ?_; rintro e w5 ⟨rfl, hb⟩)
      go_ret
      exact ⟨rfl, hb⟩
    · obtain ⟨kn, rfl⟩ : ∃ n : Nat, at_ = n := ⟨at_.toNat, by omega⟩
      obtain ⟨W5, C, S, hcv, hb5, ⟨v5, hc5⟩, hf5, hC5, hcb, hS⟩ := conv_set a kn x (by omega) HSZ.out.2.2.2.1 w4
      have hg3 : getS S b c = (x1, x2, x3, x4, x5, x6, 0) := (getS_set a b c S kn _ hS (by omega) (by omega) (by omega)).trans HX.out
      have sS : S.size = a.size := by rw [size_eq, size_eq, hS, List.length_set]
      have hgs := fun w => head_Get.calls S b c x1 x2 x3 x4 x5 x6 0 w (by unfold head_Get.f; rw [if_pos ⟨by have := HSZ.out.1; omega, HSZ.out.2.1, HSZ.out.2.2.1⟩, hg3])
      have HGS := Lib.hid hgs
      have hb6 : Below w4.heap.size w4 (W5.setCell ⟨w4.heap.size, kn, none⟩ (.int .u8 x)) := hb5.setCell (Nat.le_refl _) _
      have HB6 := Lib.hid (HB4.out.trans (hb6.mono HB4.out.size))
      have HX6 := Lib.hid ((hb6.block _ (nocell_lt HX4.out)).trans HX4.out)
      have u0 : (0 : Int) ≤ (kn : Int) := by omega
      have u1 : (kn : Int) < (a.size : Int) := by omega
      have t0 : (0 : Int) ≤ (kn : Int) := by omega
      have t1 : 12 ≤ (kn : Int) := by omega
      have t2 : 16 ≤ (kn : Int) := by omega
      have t3 : (kn : Int) < 18 := by omega
      have t4 : (kn : Int) < 20 := by omega
      have t5 : (kn : Int) < 50 := by omega
      have t6 : (kn : Int) < 52 := by omega
      have t7 : (kn : Int) < (a.size : Int) := by omega
      have hC6 : (a.size : Int) ≤ (C : Int) := by omega
      clear hS hg3 sS hgs hb5 hb6 HX HG HSZ HB4 HX4 HY4 h hasz hC5 u0 u1
      go_wp2_with fail
      refine (HGS.out _).mono ?_
      rintro e w7 ⟨rfl, hb⟩
      have HX7 := Lib.hid ((hb.block _ (nocell_lt HX6.out)).trans HX6.out)
      have HB7 := Lib.hid (HB6.out.trans (hb.mono HB6.out.size))
      clear hb HB6 HX6 HGS q0 q1 q2 q3 q4 q5 r0 r1 r2 r3 r4 r5 hcv hcb hc5 hf5
      go_wp2_with fail
      refine (headed_true _).mono ?_
      rintro e w8 ⟨rfl, hb⟩
      have hs := (hb.block _ (by simp; have := nocell_lt HX7.out; omega)).trans ((heap_alloc_old _ _ (nocell_lt HX7.out)).trans HX7.out)
      have hy := (hb.block w7.heap.size (by simp)).trans (heap_alloc_new w7 _)
      have q0 := Joins.cell_of_block hs 0
      have q1 := Joins.cell_of_block hs 1
      have q2 := Joins.cell_of_block hs 2
      have q3 := Joins.cell_of_block hs 3
      have q4 := Joins.cell_of_block hs 4
      have q5 := Joins.cell_of_block hs 5
      simp at q0 q1 q2 q3 q4 q5
      have r0 := Joins.cell_of_block hy 0
      have r1 := Joins.cell_of_block hy 1
      have r2 := Joins.cell_of_block hy 2
      have r3 := Joins.cell_of_block hy 3
      have r4 := Joins.cell_of_block hy 4
      have r5 := Joins.cell_of_block hy 5
      simp at r0 r1 r2 r3 r4 r5
      have hb4 := HB7.out.alloc HB7.out.size (.cells #[.int .i64 x1, .int .i64 x2, .int .i64 x3, .int .i64 x4, .int .i64 x5, .bool x6] 23)
      have HB8 := Lib.hid (hb4.trans (hb.mono hb4.size))
      clear hb hb4 HB7 hs hy HX7
      go_wp2_with fail
      go_ret
      exact ⟨rfl, HB8.out⟩
    · have t0 : (0 : Int) ≤ at_ := by omega
      have t1 : 12 ≤ at_ := by omega
      have t2 : 16 ≤ at_ := by omega
      have t3 : 18 ≤ at_ := by omega
      have t4 : at_ < 20 := by omega
      have t5 : at_ < 50 := by omega
      have t6 : at_ < 52 := by omega
      have t7 : at_ < (a.size : Int) := by omega
      clear h hasz HX HG HSZ HX4 HY4
      go_wp2_with (go_at_call 13; refine (HFIN.out _ HB4.out).mono ?_; rintro e w5 ⟨rfl, hb⟩)
      go_ret
      exact ⟨rfl, hb⟩
    · obtain ⟨kn, rfl⟩ : ∃ n : Nat, at_ = n := ⟨at_.toNat, by omega⟩
      obtain ⟨W5, C, S, hcv, hb5, ⟨v5, hc5⟩, hf5, hC5, hcb, hS⟩ := conv_set a kn x (by omega) HSZ.out.2.2.2.1 w4
      have hg3 : getS S b c = (x1, x2, x3, x4, x5, x6, 0) := (getS_set a b c S kn _ hS (by omega) (by omega) (by omega)).trans HX.out
      have sS : S.size = a.size := by rw [size_eq, size_eq, hS, List.length_set]
      have hgs := fun w => head_Get.calls S b c x1 x2 x3 x4 x5 x6 0 w (by unfold head_Get.f; rw [if_pos ⟨by have := HSZ.out.1; omega, HSZ.out.2.1, HSZ.out.2.2.1⟩, hg3])
      have HGS := Lib.hid hgs
      have hb6 : Below w4.heap.size w4 (W5.setCell ⟨w4.heap.size, kn, none⟩ (.int .u8 x)) := hb5.setCell (Nat.le_refl _) _
      have HB6 := Lib.hid (HB4.out.trans (hb6.mono HB4.out.size))
      have HX6 := Lib.hid ((hb6.block _ (nocell_lt HX4.out)).trans HX4.out)
      have u0 : (0 : Int) ≤ (kn : Int) := by omega
      have u1 : (kn : Int) < (a.size : Int) := by omega
      have t0 : (0 : Int) ≤ (kn : Int) := by omega
      have t1 : 12 ≤ (kn : Int) := by omega
      have t2 : 16 ≤ (kn : Int) := by omega
      have t3 : 18 ≤ (kn : Int) := by omega
      have t4 : 20 ≤ (kn : Int) := by omega
      have t5 : (kn : Int) < 50 := by omega
      have t6 : (kn : Int) < 52 := by omega
      have t7 : (kn : Int) < (a.size : Int) := by omega
      have hC6 : (a.size : Int) ≤ (C : Int) := by omega
      clear hS hg3 sS hgs hb5 hb6 HX HG HSZ HB4 HX4 HY4 h hasz hC5 u0 u1
      go_wp2_with fail
      refine (HGS.out _).mono ?_
      rintro e w7 ⟨rfl, hb⟩
      have HX7 := Lib.hid ((hb.block _ (nocell_lt HX6.out)).trans HX6.out)
      have HB7 := Lib.hid (HB6.out.trans (hb.mono HB6.out.size))
      clear hb HB6 HX6 HGS q0 q1 q2 q3 q4 q5 r0 r1 r2 r3 r4 r5 hcv hcb hc5 hf5
      go_wp2_with fail
      refine (headed_true _).mono ?_
      rintro e w8 ⟨rfl, hb⟩
      have hs := (hb.block _ (by simp; have := nocell_lt HX7.out; omega)).trans ((heap_alloc_old _ _ (nocell_lt HX7.out)).trans HX7.out)
      have hy := (hb.block w7.heap.size (by simp)).trans (heap_alloc_new w7 _)
      have q0 := Joins.cell_of_block hs 0
      have q1 := Joins.cell_of_block hs 1
      have q2 := Joins.cell_of_block hs 2
      have q3 := Joins.cell_of_block hs 3
      have q4 := Joins.cell_of_block hs 4
      have q5 := Joins.cell_of_block hs 5
      simp at q0 q1 q2 q3 q4 q5
      have r0 := Joins.cell_of_block hy 0
      have r1 := Joins.cell_of_block hy 1
      have r2 := Joins.cell_of_block hy 2
      have r3 := Joins.cell_of_block hy 3
      have r4 := Joins.cell_of_block hy 4
      have r5 := Joins.cell_of_block hy 5
      simp at r0 r1 r2 r3 r4 r5
      have hb4 := HB7.out.alloc HB7.out.size (.cells #[.int .i64 x1, .int .i64 x2, .int .i64 x3, .int .i64 x4, .int .i64 x5, .bool x6] 23)
      have HB8 := Lib.hid (hb4.trans (hb.mono hb4.size))
      clear hb hb4 HB7 hs hy HX7
      go_wp2_with fail
      go_ret
      exact ⟨rfl, HB8.out⟩
    · have t0 : (0 : Int) ≤ at_ := by omega
      have t1 : 12 ≤ at_ := by omega
      have t2 : 16 ≤ at_ := by omega
      have t3 : 18 ≤ at_ := by omega
      have t4 : 20 ≤ at_ := by omega
      have t5 : 50 ≤ at_ := by omega
      have t6 : at_ < 52 := by omega
      have t7 : at_ < (a.size : Int) := by omega
      clear h hasz HX HG HSZ HX4 HY4
      go_wp2_with (go_at_call 13; refine (HFIN.out _ HB4.out).mono ?_; rintro e w5 ⟨rfl, hb⟩)
      go_ret
      exact ⟨rfl, hb⟩
    · obtain ⟨kn, rfl⟩ : ∃ n : Nat, at_ = n := ⟨at_.toNat, by omega⟩
      obtain ⟨W5, C, S, hcv, hb5, ⟨v5, hc5⟩, hf5, hC5, hcb, hS⟩ := conv_set a kn x (by omega) HSZ.out.2.2.2.1 w4
      have hg3 : getS S b c = (x1, x2, x3, x4, x5, x6, 0) := (getS_set a b c S kn _ hS (by omega) (by omega) (by omega)).trans HX.out
      have sS : S.size = a.size := by rw [size_eq, size_eq, hS, List.length_set]
      have hgs := fun w => head_Get.calls S b c x1 x2 x3 x4 x5 x6 0 w (by unfold head_Get.f; rw [if_pos ⟨by have := HSZ.out.1; omega, HSZ.out.2.1, HSZ.out.2.2.1⟩, hg3])
      have HGS := Lib.hid hgs
      have hb6 : Below w4.heap.size w4 (W5.setCell ⟨w4.heap.size, kn, none⟩ (.int .u8 x)) := hb5.setCell (Nat.le_refl _) _
      have HB6 := Lib.hid (HB4.out.trans (hb6.mono HB4.out.size))
      have HX6 := Lib.hid ((hb6.block _ (nocell_lt HX4.out)).trans HX4.out)
      have u0 : (0 : Int) ≤ (kn : Int) := by omega
      have u1 : (kn : Int) < (a.size : Int) := by omega
      have t0 : (0 : Int) ≤ (kn : Int) := by omega
      have t1 : 12 ≤ (kn : Int) := by omega
      have t2 : 16 ≤ (kn : Int) := by omega
      have t3 : 18 ≤ (kn : Int) := by omega
      have t4 : 20 ≤ (kn : Int) := by omega
      have t5 : 50 ≤ (kn : Int) := by omega
      have t6 : 52 ≤ (kn : Int) := by omega
      have t7 : (kn : Int) < (a.size : Int) := by omega
      have hC6 : (a.size : Int) ≤ (C : Int) := by omega
      clear hS hg3 sS hgs hb5 hb6 HX HG HSZ HB4 HX4 HY4 h hasz hC5 u0 u1
      go_wp2_with fail
      refine (HGS.out _).mono ?_
      rintro e w7 ⟨rfl, hb⟩
      have HX7 := Lib.hid ((hb.block _ (nocell_lt HX6.out)).trans HX6.out)
      have HB7 := Lib.hid (HB6.out.trans (hb.mono HB6.out.size))
      clear hb HB6 HX6 HGS q0 q1 q2 q3 q4 q5 r0 r1 r2 r3 r4 r5 hcv hcb hc5 hf5
      go_wp2_with fail
      refine (headed_true _).mono ?_
      rintro e w8 ⟨rfl, hb⟩
      have hs := (hb.block _ (by simp; have := nocell_lt HX7.out; omega)).trans ((heap_alloc_old _ _ (nocell_lt HX7.out)).trans HX7.out)
      have hy := (hb.block w7.heap.size (by simp)).trans (heap_alloc_new w7 _)
      have q0 := Joins.cell_of_block hs 0
      have q1 := Joins.cell_of_block hs 1
      have q2 := Joins.cell_of_block hs 2
      have q3 := Joins.cell_of_block hs 3
      have q4 := Joins.cell_of_block hs 4
      have q5 := Joins.cell_of_block hs 5
      simp at q0 q1 q2 q3 q4 q5
      have r0 := Joins.cell_of_block hy 0
      have r1 := Joins.cell_of_block hy 1
      have r2 := Joins.cell_of_block hy 2
      have r3 := Joins.cell_of_block hy 3
      have r4 := Joins.cell_of_block hy 4
      have r5 := Joins.cell_of_block hy 5
      simp at r0 r1 r2 r3 r4 r5
      have hb4 := HB7.out.alloc HB7.out.size (.cells #[.int .i64 x1, .int .i64 x2, .int .i64 x3, .int .i64 x4, .int .i64 x5, .bool x6] 23)
      have HB8 := Lib.hid (hb4.trans (hb.mono hb4.size))
      clear hb hb4 HB7 hs hy HX7
      go_wp2_with fail
      go_ret
      exact ⟨rfl, HB8.out⟩
    · have t0 : (0 : Int) ≤ at_ := by omega
      have t1 : 12 ≤ at_ := by omega
      have t2 : 16 ≤ at_ := by omega
      have t3 : 18 ≤ at_ := by omega
      have t4 : 20 ≤ at_ := by omega
      have t5 : 50 ≤ at_ := by omega
      have t6 : 52 ≤ at_ := by omega
      have t7 : (a.size : Int) ≤ at_ := by omega
      clear h hasz HX HG HSZ HX4 HY4
      go_wp2_with (go_at_call 13; refine (HFIN.out _ HB4.out).mono ?_; rintro e w5 ⟨rfl, hb⟩)
      go_ret
      exact ⟨rfl, hb⟩
  · obtain ⟨rfl, rfl, rfl, rfl, rfl, rfl⟩ := hz he
    have e1 : (x7 == 0) = false := by simpa using he
    have e2 : (x7 != 0) = true := by simpa using he
    clear hz hok he ha hb hc hxb hg hx
    go_enter Try.func5, Try.ntmps5
    go_wp2_with fail
    refine (HG.out _).mono ?_
    rintro e w1 ⟨rfl, hb⟩
    have HB1 := Lib.hid hb
    clear hb wr1 wr2
    go_wp2_with fail
    refine (headed_true _).mono ?_
    rintro e w2 ⟨rfl, hb⟩
    have hs := (hb.block w1.heap.size (by simp)).trans (heap_alloc_new w1 _)
    have q0 := Joins.cell_of_block hs 0
    have q1 := Joins.cell_of_block hs 1
    have q2 := Joins.cell_of_block hs 2
    have q3 := Joins.cell_of_block hs 3
    have q4 := Joins.cell_of_block hs 4
    have q5 := Joins.cell_of_block hs 5
    simp at q0 q1 q2 q3 q4 q5
    have hb4 := HB1.out.alloc HB1.out.size (.cells #[.int .i64 0, .int .i64 0, .int .i64 0, .int .i64 0, .int .i64 0, .bool false] 23)
    have HB2 := Lib.hid (hb4.trans (hb.mono hb4.size))
    clear hb hb4 HB1 hs
    go_wp2_with fail
    go_ret
    exact ⟨rfl, HB2.out⟩
end Go.Proofs.Ytfeodnceegkmjaa.P
