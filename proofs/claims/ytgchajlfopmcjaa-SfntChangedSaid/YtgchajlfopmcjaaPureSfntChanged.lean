/- Layer 4: the law SfntChanged, walked; a file of which one byte of a table is another one is none, unless it is one of the bytes 8 to 11 of head. No condition but the statement's own. -/
import Derived.Test.YtgchajlfopmcjaaTabOpen
import Derived.Test.YtgchajlfopmcjaaBinGet
import Derived.Lib.ConvBytes
namespace Go.Proofs.Ytgchajlfopmcjaa.P
open Go.Shelf Go.RowKit Go.Proofs.YtgchajlfopmcjaaW.PrintWords Go.Proofs.YtgchajlfopmcjaaW.PrintLast Go.Proofs.YtgchajlfopmcjaaW.PrintMore Go.Proofs.Ytgchajlfopmcjaa.BN
set_option linter.unusedVariables false
set_option linter.unusedSimpArgs false
set_option maxRecDepth 100000
set_option maxHeartbeats 8000000
theorem changed_stop (A : Option Addr) (c : Nat) (l : List S33) (a1 a2 a3 : Int) (w : World) (hr : Kd.C k33 w A l.length l) (hc : l.length ≤ c) (fb : Bool) (kf : Nat) (hf : vinculumref04_Few.f kf l = some fb)
    (h : fb = false ∨ a1 < 0 ∨ (l.length : Int) ≤ a1 ∨ a2 < 0 ∨ ((rd_T33 l a1).f1.size : Int) ≤ a2 ∨ bt (rd_T33 l a1).f1 a2 = a3) :
    Calls Try.prog 6 #[.slice A l.length c, .int .i64 a1, .int .i64 a2, .int .u8 a3] w fun e w' => e = .returned (.bool true) ∧ Below w.heap.size w w' := by
  obtain ⟨kd, hd⟩ := Ev.rounds filed_ev
  have HFEW := Lib.hid (fun w' (hr' : Kd.C k33 w' A l.length l) => vinculumref04_Few.calls kf A c l fb w' hr' hc hf)
  have HFD := Lib.hid (fun w' => vinculumlaw04_filed.calls kd true w' hd)
  have HR := Lib.hid hr
  have HH := Lib.hid h
  clear hf hd h hr
  have start : ∀ (P : Prop), P → P := fun _ h => h
  cases fb with
  | false =>
    clear HH
    go_enter Try.func6, Try.ntmps6
    go_wp2_with (first | (go_at_call 8; refine (HFEW.out _ HR.out).mono ?_; rintro e w' ⟨rfl, ⟨nd, rfl⟩⟩) | (go_at_call 17; refine (HFD.out _).mono ?_; rintro e w' ⟨rfl, hb⟩))
    go_ret
    exact ⟨rfl, (Drawn0.below ⟨_, rfl⟩).trans hb⟩
  | true =>
  rcases Int.lt_or_le a1 0 with h1 | h1
  · clear HH
    have d1 : decide (a1 < 0) = true := decide_eq_true h1
    go_enter Try.func6, Try.ntmps6
    go_wp2_with (first | (go_at_call 8; refine (HFEW.out _ HR.out).mono ?_; rintro e w' ⟨rfl, ⟨nd, rfl⟩⟩) | (go_at_call 17; refine (HFD.out _).mono ?_; rintro e w' ⟨rfl, hb⟩))
    go_ret
    exact ⟨rfl, (Drawn0.below ⟨_, rfl⟩).trans hb⟩
  have d1 : decide (a1 < 0) = false := decide_eq_false (by omega)
  rcases Int.lt_or_le a1 (l.length : Int) with h2 | h2
  rotate_left
  · clear HH
    have d2 : decide ((l.length : Int) ≤ a1) = true := decide_eq_true h2
    clear h1 h2
    go_enter Try.func6, Try.ntmps6
    go_wp2_with (first | (go_at_call 8; refine (HFEW.out _ HR.out).mono ?_; rintro e w' ⟨rfl, ⟨nd, rfl⟩⟩) | (go_at_call 17; refine (HFD.out _).mono ?_; rintro e w' ⟨rfl, hb⟩))
    go_ret
    exact ⟨rfl, (Drawn0.below ⟨_, rfl⟩).trans hb⟩
  have d2 : decide ((l.length : Int) ≤ a1) = false := decide_eq_false (by omega)
  rcases Int.lt_or_le a2 0 with h3 | h3
  · clear HH
    have d3 : decide (a2 < 0) = true := decide_eq_true h3
    clear h1 h2 h3
    go_enter Try.func6, Try.ntmps6
    go_wp2_with (first | (go_at_call 8; refine (HFEW.out _ HR.out).mono ?_; rintro e w' ⟨rfl, ⟨nd, rfl⟩⟩) | (go_at_call 17; refine (HFD.out _).mono ?_; rintro e w' ⟨rfl, hb⟩))
    go_ret
    exact ⟨rfl, (Drawn0.below ⟨_, rfl⟩).trans hb⟩
  have d3 : decide (a2 < 0) = false := decide_eq_false (by omega)
  obtain ⟨ad, rfl, x0, x1⟩ := at_T33 HR.out a1 h1 h2
  have p1 := eq_true h1
  have q1 := eq_true h2
  rcases Int.lt_or_le a2 ((rd_T33 l a1).f1.size : Int) with h4 | h4
  rotate_left
  · clear HH
    have d4 : decide (((rd_T33 l a1).f1.size : Int) ≤ a2) = true := decide_eq_true h4
    clear h1 h2 h3 h4
    go_enter Try.func6, Try.ntmps6
    go_wp2_with (first | (go_at_call 8; refine (HFEW.out _ HR.out).mono ?_; rintro e w' ⟨rfl, ⟨nd, rfl⟩⟩) | (go_at_call 17; refine (HFD.out _).mono ?_; rintro e w' ⟨rfl, hb⟩))
    go_ret
    exact ⟨rfl, (Drawn0.below ⟨_, rfl⟩).trans hb⟩
  have d4 : decide (((rd_T33 l a1).f1.size : Int) ≤ a2) = false := decide_eq_false (by omega)
  have h5 : bt (rd_T33 l a1).f1 a2 = a3 := by
    rcases HH.out with h | h | h | h | h | h
    · cases h
    all_goals first | exact h | omega
  have d5 : (bt (rd_T33 l a1).f1 a2 == a3) = true := beq_iff_eq.mpr h5
  have p2 := eq_true h3
  have q2 := eq_true h4
  have hx := bt_at (rd_T33 l a1).f1 a2
  clear h1 h2 h3 h4 h5 HH
  go_enter Try.func6, Try.ntmps6
  go_wp2_with (first | (go_at_call 8; refine (HFEW.out _ HR.out).mono ?_; rintro e w' ⟨rfl, ⟨nd, rfl⟩⟩) | (go_at_call 17; refine (HFD.out _).mono ?_; rintro e w' ⟨rfl, hb⟩))
  go_ret
  exact ⟨rfl, (Drawn0.below ⟨_, rfl⟩).trans hb⟩
end Go.Proofs.Ytgchajlfopmcjaa.P
namespace Go.Proofs.Ytgchajlfopmcjaa.P
open Go.Shelf Go.RowKit Go.Proofs.YtgchajlfopmcjaaW.PrintWords Go.Proofs.YtgchajlfopmcjaaW.PrintLast Go.Proofs.YtgchajlfopmcjaaW.PrintMore Go.Proofs.Ytgchajlfopmcjaa.BN
set_option linter.unusedVariables false
set_option linter.unusedSimpArgs false
set_option maxRecDepth 100000
set_option maxHeartbeats 8000000
theorem get1 (s : ByteArray) (a : Nat) (hs : s.size ≤ 16777216) (ha : a + 4 ≤ s.size) : bin_Get.f s (a : Int) [4] = some ([nm s a], 0) := by
  rw [get_spec s (a : Int) [4] (by omega) (by simp)]
  unfold gspec
  have hr : rightB [4] = true := by decide
  rw [if_neg (by rw [hr]; simp), if_neg (by omega)]
  simp [tot, vals, tvl, nm, List.drop_drop]
  omega
theorem one_get (s : ByteArray) (a : Nat) (hs : s.size ≤ 16777216) (ha : a + 4 ≤ s.size) (w : World) (g : Nat) (hg : g = w.heap.size) :
    Calls Try.prog 19 #[.string s, .int .i64 (a : Int), .slice (some ⟨g, 0, none⟩) 1 1] (w.alloc (.cells #[.int .i64 4] 3)) fun e w' => ∃ (b c : Nat), e = .returned (.tuple #[.slice (some ⟨b, 0, none⟩) 1 c, .int .i64 0]) ∧
      w'.cell? ⟨b, 0, none⟩ = some (.int .i64 (nm s a)) ∧ b < w'.heap.size ∧ Below w.heap.size w w' := by
  subst hg
  have hr : Kd.C (Kd.int .i64) (w.alloc (.cells #[.int .i64 4] 3)) (some ⟨w.heap.size, 0, none⟩) 1 [4] := K_row [4] _ _ (by simp) (fun j hj => by
    simp only [World.cell?, heap_alloc_new]
    obtain rfl : j = 0 := by simp at hj; omega
    rfl)
  refine (bin_Get.calls s (a : Int) _ 1 [4] _ _ _ hr (Nat.le_refl _) (get1 s a hs ha)).mono ?_
  rintro e w' ⟨v, he, hv, hb⟩
  obtain ⟨b, c, rfl, hb1, hb2, cells, hbc⟩ := Kd.R_form hv (by simp)
  have hq := Kd.own_of_R hv
  exact ⟨b, c, he, World.ownsRow.cellAt hq 0 (by simp), hb2, ((Below.refl w.heap.size w).alloc (Nat.le_refl _) _).trans (hb.mono (by simp))⟩
/-- A text with one byte another. -/
def setB (s : ByteArray) (k : Nat) (x : Int) : ByteArray := strOfNums ((bytesOf s).set k x)
theorem changed_reads (W : World) (s : ByteArray) (hs : s.size ≤ 9223372036854775807) (k : Nat) (hk : k < s.size) (x : Int) :
    ReadsInt ((Lib.bytesWorld W 5 s).setCell ⟨W.heap.size, k, none⟩ (.int .u8 x)) .u8 (some ⟨W.heap.size, 0, none⟩) s.size ((bytesOf s).set k x) := by
  have h := bytes_reads W 5 s hs
  obtain ⟨h1, h2, h3⟩ := h
  refine ⟨by rw [List.length_set]; exact h1, h2, fun hp => ⟨_, rfl, fun j hj => ?_⟩⟩
  obtain ⟨ad, e, hc⟩ := h3 hp
  cases e
  have c0 := hc j hj
  rw [add_plain] at c0 ⊢
  by_cases q : k = j
  · subst q
    rw [World.cell?_setCell_same (h := c0), List.getD_eq_getElem?_getD, List.getElem?_set_self (by rw [h1]; exact hj)]
    rfl
  · rw [World.cell?_setCell_other (h := by intro e; cases e; exact q rfl), c0, List.getD_eq_getElem?_getD, List.getD_eq_getElem?_getD, List.getElem?_set_ne q]
theorem changed_bad (ad : Addr) (c : Nat) (l : List S33) (a1 a2 a3 : Int) (w : World) (hr : Kd.C k33 w (some ad) l.length l) (hc : l.length ≤ c) (kf : Nat) (hf : vinculumref04_Few.f kf l = some true)
    (h1 : 0 ≤ a1) (h2 : a1 < (l.length : Int)) (h3 : 0 ≤ a2) (h4 : a2 < ((rd_T33 l a1).f1.size : Int)) (h5 : bt (rd_T33 l a1).f1 a2 ≠ a3) (s : ByteArray) (hp : sfnt_Put.f 65536 l = some (s, 1)) :
    Calls Try.prog 6 #[.slice (some ad) l.length c, .int .i64 a1, .int .i64 a2, .int .u8 a3] w fun e w' => e = .returned (.bool true) ∧ Below w.heap.size w w' := by
  obtain ⟨kd, hd⟩ := Ev.rounds filed_ev
  have HFEW := Lib.hid (fun w' (hr' : Kd.C k33 w' (some ad) l.length l) => vinculumref04_Few.calls kf (some ad) c l true w' hr' hc hf)
  have HFD := Lib.hid (fun w' => vinculumlaw04_filed.calls kd true w' hd)
  have HPUT := Lib.hid (fun w' (hr' : Kd.C k33 w' (some ad) l.length l) => sfnt_Put.calls 65536 (some ad) c l s 1 w' hr' hc hp)
  have HR := Lib.hid hr
  have d1 : decide (a1 < 0) = false := decide_eq_false (by omega)
  have d2 : decide ((l.length : Int) ≤ a1) = false := decide_eq_false (by omega)
  have d3 : decide (a2 < 0) = false := decide_eq_false (by omega)
  have d4 : decide (((rd_T33 l a1).f1.size : Int) ≤ a2) = false := decide_eq_false (by omega)
  have d5 : (bt (rd_T33 l a1).f1 a2 == a3) = false := beq_eq_false_iff_ne.mpr h5
  obtain ⟨ad', e', x0, x1⟩ := at_T33 hr a1 h1 h2
  cases e'
  have p1 : (0 ≤ a1) = True := eq_true (by omega)
  have q1 := eq_true h2
  have p2 := eq_true h3
  have q2 := eq_true h4
  have hx := bt_at (rd_T33 l a1).f1 a2
  clear hf hd hr hp h1 h2 h3 h4 h5
  go_enter Try.func6, Try.ntmps6
  go_wp2_with (first
    | (go_at_call 8; refine (HFEW.out _ HR.out).mono ?_; rintro e w' ⟨rfl, ⟨nd, rfl⟩⟩)
    | (go_at_call 11; refine (HPUT.out _ (Kd.C_drewN HR.out _)).mono ?_; rintro e w1 ⟨rfl, hb1⟩)
    | (go_at_call 17; refine (HFD.out _).mono ?_; rintro e w2 ⟨rfl, hb2⟩))
  go_ret
  exact ⟨rfl, ((Drawn0.below ⟨_, rfl⟩).trans hb1).trans (hb2.mono hb1.size)⟩
def headBytes : List UInt8 := [104, 101, 97, 100]
/-- Is it one of head's four bytes that no sum counts? -/
def freeB (t d : ByteArray) (a2 : Int) : Bool := (t.toList == headBytes) && (decide (8 ≤ a2) && (decide (a2 ≤ 11) && decide (12 ≤ (d.size : Int))))
theorem changed_ok (ad : Addr) (c : Nat) (l : List S33) (a1 a2 a3 : Int) (w : World) (hr : Kd.C k33 w (some ad) l.length l) (hc : l.length ≤ c) (kf : Nat) (hf : vinculumref04_Few.f kf l = some true)
    (h1 : 0 ≤ a1) (h2 : a1 < (l.length : Int)) (h3 : 0 ≤ a2) (h4 : a2 < ((rd_T33 l a1).f1.size : Int)) (h5 : bt (rd_T33 l a1).f1 a2 ≠ a3) (s : ByteArray) (hp : sfnt_Put.f 65536 l = some (s, 0))
    (hs : s.size ≤ 16777216) (hl : a1 ≤ 1000) (a : Nat) (ha : (a : Int) = 12 + 16 * a1 + 8) (has : a + 4 ≤ s.size) (N : Int) (hN : nm s a = N) (n0 : 0 ≤ N) (n1 : N + a2 < (s.size : Int)) (n2 : bt s (N + a2) = bt (rd_T33 l a1).f1 a2)
    (v' : Int) (l' : List S33) (g : Int) (hg : getS (setB s (N + a2).toNat a3) = (v', l', g)) (hg1 : freeB (rd_T33 l a1).f0 (rd_T33 l a1).f1 a2 = true → g = 0) (hg2 : freeB (rd_T33 l a1).f0 (rd_T33 l a1).f1 a2 = false → g = 5) :
    Calls Try.prog 6 #[.slice (some ad) l.length c, .int .i64 a1, .int .i64 a2, .int .u8 a3] w fun e w' => e = .returned (.bool true) ∧ Below w.heap.size w w' := by
  obtain ⟨kd, hd⟩ := Ev.rounds filed_ev
  have HFEW := Lib.hid (fun w' (hr' : Kd.C k33 w' (some ad) l.length l) => vinculumref04_Few.calls kf (some ad) c l true w' hr' hc hf)
  have HFD := Lib.hid (fun w' => vinculumlaw04_filed.calls kd true w' hd)
  have HPUT := Lib.hid (fun w' (hr' : Kd.C k33 w' (some ad) l.length l) => sfnt_Put.calls 65536 (some ad) c l s 0 w' hr' hc hp)
  have HGET := Lib.hid (fun w' => one_get s a hs has w' _ rfl)
  have hsz2 : (setB s (N + a2).toNat a3).size ≤ 140737488351232 := by
    unfold setB
    have : ∀ xs : List Int, (strOfNums xs).size = xs.length := fun xs => by simp [strOfNums, ByteArray.size]
    rw [this, List.length_set, bytesOf_length]
    omega
  have HGOT := Lib.hid (fun w' => sfnt_Get.calls (setB s (N + a2).toNat a3) v' l' g w' (by unfold sfnt_Get.f; rw [if_pos hsz2, hg]))
  have HSZ := Lib.hid hs
  have HR := Lib.hid hr
  have d1 : decide (a1 < 0) = false := decide_eq_false (by omega)
  have d2 : decide ((l.length : Int) ≤ a1) = false := decide_eq_false (by omega)
  have d3 : decide (a2 < 0) = false := decide_eq_false (by omega)
  have d4 : decide (((rd_T33 l a1).f1.size : Int) ≤ a2) = false := decide_eq_false (by omega)
  have d5 : (bt (rd_T33 l a1).f1 a2 == a3) = false := beq_eq_false_iff_ne.mpr h5
  obtain ⟨ad', e', x0, x1⟩ := at_T33 hr a1 h1 h2
  cases e'
  have p1 := eq_true h1
  have q1 := eq_true h2
  have p2 := eq_true h3
  have q2 := eq_true h4
  have hx := bt_at (rd_T33 l a1).f1 a2
  have wr1 : IntKind.i64.wrap (16 * a1) = 16 * a1 := IntWalk.i64_in _ (by omega)
  have wr2 : IntKind.i64.wrap (12 + 16 * a1) = 12 + 16 * a1 := IntWalk.i64_in _ (by omega)
  have wr3 : IntKind.i64.wrap (12 + 16 * a1 + 8) = (a : Int) := (IntWalk.i64_in _ (by omega)).trans ha.symm
  obtain ⟨M, hM⟩ : ∃ M, N + a2 = M := ⟨_, rfl⟩
  have wr4 : IntKind.i64.wrap (N + a2) = M := (IntWalk.i64_in _ (by omega)).trans hM
  rw [hM] at n1 n2 HGOT
  rw [hN] at HGET
  have m0 : 0 ≤ M := by omega
  have e1 : decide (N < 0) = false := decide_eq_false (by omega)
  have e2 : decide ((s.size : Int) ≤ M) = false := decide_eq_false (by omega)
  have e3 : (bt s M != bt (rd_T33 l a1).f1 a2) = false := bne_eq_false_iff_eq.mpr n2
  have p3 := eq_true m0
  have q3 := eq_true n1
  have hy := bt_at s M
  clear hf hd hr hp h1 h2 h3 h4 h5 hg hM ha hN n0 n1 m0 n2 has hs hl hsz2
  go_enter Try.func6, Try.ntmps6
  go_wp2_with (first
    | (go_at_call 8; refine (HFEW.out _ HR.out).mono ?_; rintro e w' ⟨rfl, ⟨nd, rfl⟩⟩)
    | (go_at_call 11; refine (HPUT.out _ (Kd.C_drewN HR.out _)).mono ?_; rintro e w1 ⟨rfl, hb1⟩)
    | (go_at_call 19; refine (HGET.out _).mono ?_; rintro e w2 ⟨b, c2, rfl, hb, hbs, hb2⟩))
  have hB : Below w.heap.size w w2 := ((Drawn0.below ⟨nd, rfl⟩).trans hb1).trans (hb2.mono hb1.size)
  have y0 := (hB.cell (World.block_lt_of_cell? w _ x0)).trans x0
  have y1 := (hB.cell (World.block_lt_of_cell? w _ x1)).trans x1
  have HB := Lib.hid hB
  have HX0 := Lib.hid x0
  have HX1 := Lib.hid x1
  clear x0 x1 hb1 hb2 hB HR HFEW HPUT HGET
  have k0 := kept_cell hb
  have k1 := kept_cell y0
  have k2 := kept_cell y1
  have hmx : Try.prog.follows .mixedOrders = true := by kernel_rfl
  refine wp_region_kept hmx (by kernel_rfl) ?_
  repeat (go_big_quiet_step (fail))
  refine wpQuiet_nil ?_
  rintro _ ⟨pw, rfl⟩
  have z0 := k0 pw
  have z1 := k1 pw
  have z2 := k2 pw
  have hB3 : Below w.heap.size w pw.w' := HB.out.trans (pw.h.mono HB.out.size)
  have hbs3 : b < pw.w'.heap.size := Nat.lt_of_lt_of_le hbs pw.h.size
  generalize pw.w' = W3 at z0 z1 z2 hB3 hbs3 ⊢
  clear k0 k1 k2 hb y0 y1 HB hbs pw
  have kb := fun W => print_bytes (P := Try.prog) 9 42 5 Try.underlying9 Try.underlying42 Try.underlying5 s W
  have c0 : (Lib.bytesWorld W3 5 s).cell? ⟨b, 0, none⟩ = some (.int .i64 N) := (Lib.bytesWorld_old W3 _ s _ hbs3).trans z0
  have hm : M.toNat < s.size := by have := of_eq_true p3; have := of_eq_true q3; omega
  have c1 := Lib.bytesWorld_cell W3 5 s M.toNat hm
  have c2f : (Lib.bytesWorld W3 5 s).frozen? ⟨W3.heap.size, M.toNat, none⟩ = false := by
    simp [World.frozen?, Lib.bytesWorld_at_new, Lib.bytesCells]
    omega
  have hs9 : s.size ≤ 9223372036854775807 := by have := HSZ.out; omega
  have ks := string_of_reads (P := Try.prog) (c := grownCap W3 s.size 0 5) Try.underlying42 Try.underlying5 Try.underlying9 (changed_reads W3 s hs9 M.toNat hm a3)
  rw [show strOfNums ((bytesOf s).set M.toNat a3) = setB s M.toNat a3 from rfl] at ks
  have hB4 : Below w.heap.size w ((Lib.bytesWorld W3 5 s).setCell ⟨W3.heap.size, M.toNat, none⟩ (.int .u8 a3)) := (bytes_below hB3 hB3.size _ _).setCell hB3.size _
  have HB4 := Lib.hid hB4
  generalize setB s M.toNat a3 = s2 at ks HGOT
  clear hm hs9 hB3 hB4
  go_upto_region 12 with (first
    | (go_at_call 9; refine (HGOT.out _).mono ?_; rintro e w5 ⟨v5, rfl, hv5, hb5⟩))
  have hB5 : Below w.heap.size w w5 := HB4.out.trans (hb5.mono HB4.out.size)
  have u0 := (hB5.cell (World.block_lt_of_cell? w _ HX0.out)).trans HX0.out
  have u1 := (hB5.cell (World.block_lt_of_cell? w _ HX1.out)).trans HX1.out
  have HB5 := Lib.hid hB5
  clear hv5 hb5 hB5 HB4 HX0 HX1 c0 c1 c2f z0 z1 z2 ks kb hbs3
  generalize (rd_T33 l a1).f0 = tg at hg1 hg2 u0
  generalize (rd_T33 l a1).f1 = dt at hg1 hg2 u1 d4 d5 q2 hx e3
  unfold freeB headBytes at hg1 hg2
  have fin : ∀ free : Bool, free = ((tg.toList == ([104, 101, 97, 100] : List UInt8)) && (decide (8 ≤ a2) && (decide (a2 ≤ 11) && decide (12 ≤ (dt.size : Int))))) → (free = true ∧ g = 0) ∨ (free = false ∧ g = 5) := fun free hf => by
    rw [← hf] at hg1 hg2
    cases free
    · exact .inr ⟨rfl, hg2 rfl⟩
    · exact .inl ⟨rfl, hg1 rfl⟩
  have FIN := Lib.hid fin
  clear fin hg1 hg2
  cases f1 : (tg.toList == ([104, 101, 97, 100] : List UInt8))
  · rcases FIN.out false (by rw [f1]; rfl) with ⟨h, _⟩ | ⟨_, rfl⟩
    · cases h
    clear FIN
    go_wp2_with (first | (go_at_call 17; refine (HFD.out _).mono ?_; rintro e w6 ⟨rfl, hb6⟩))
    go_ret
    exact ⟨rfl, HB5.out.trans (hb6.mono HB5.out.size)⟩
  cases f2 : decide (8 ≤ a2)
  · rcases FIN.out false (by rw [f1, f2]; rfl) with ⟨h, _⟩ | ⟨_, rfl⟩
    · cases h
    clear FIN
    go_wp2_with (first | (go_at_call 17; refine (HFD.out _).mono ?_; rintro e w6 ⟨rfl, hb6⟩))
    go_ret
    exact ⟨rfl, HB5.out.trans (hb6.mono HB5.out.size)⟩
  cases f3 : decide (a2 ≤ 11)
  · rcases FIN.out false (by rw [f1, f2, f3]; rfl) with ⟨h, _⟩ | ⟨_, rfl⟩
    · cases h
    clear FIN
    go_wp2_with (first | (go_at_call 17; refine (HFD.out _).mono ?_; rintro e w6 ⟨rfl, hb6⟩))
    go_ret
    exact ⟨rfl, HB5.out.trans (hb6.mono HB5.out.size)⟩
  cases f4 : decide (12 ≤ (dt.size : Int))
  · rcases FIN.out false (by rw [f1, f2, f3, f4]; rfl) with ⟨h, _⟩ | ⟨_, rfl⟩
    · cases h
    clear FIN
    go_wp2_with (first | (go_at_call 17; refine (HFD.out _).mono ?_; rintro e w6 ⟨rfl, hb6⟩))
    go_ret
    exact ⟨rfl, HB5.out.trans (hb6.mono HB5.out.size)⟩
  · rcases FIN.out true (by rw [f1, f2, f3, f4]; rfl) with ⟨_, rfl⟩ | ⟨h, _⟩
    rotate_left
    · cases h
    clear FIN
    go_wp2_with (first | (go_at_call 17; refine (HFD.out _).mono ?_; rintro e w6 ⟨rfl, hb6⟩))
    go_ret
    exact ⟨rfl, HB5.out.trans (hb6.mono HB5.out.size)⟩
end Go.Proofs.Ytgchajlfopmcjaa.P
namespace Go.Proofs.Ytgchajlfopmcjaa.P
open Go.Shelf Go.RowKit Go.Proofs.YtgchajlfopmcjaaW.PrintWords Go.Proofs.YtgchajlfopmcjaaW.PrintLast Go.Proofs.YtgchajlfopmcjaaW.PrintMore Go.Proofs.Ytgchajlfopmcjaa.BN
set_option linter.unusedVariables false
set_option linter.unusedSimpArgs false
set_option maxRecDepth 100000
theorem bytesl_map (s : ByteArray) : bytesOf s = (bytesl s).map fun b => (b.toNat : Int) := rfl
theorem back_byte (b : UInt8) : UInt8.ofNat ((b.toNat : Int)).toNat = b := by simp
theorem setB_bytes (s : ByteArray) (k : Nat) (x : Int) : bytesl (setB s k x) = (bytesl s).set k (UInt8.ofNat x.toNat) := by
  unfold setB strOfNums
  rw [bytesl_mk, List.map_set, bytesl_map, List.map_map]
  congr 1
  rw [show ((fun n : Int => UInt8.ofNat n.toNat) ∘ fun b : UInt8 => (b.toNat : Int)) = id from funext fun b => back_byte b, List.map_id]
theorem setB_size (s : ByteArray) (k : Nat) (x : Int) : (setB s k x).size = s.size := by
  rw [← bytesl_length, setB_bytes, List.length_set, bytesl_length]
theorem bt_bytes (s : ByteArray) (k : Nat) (h : k < s.size) : bt s (k : Int) = (((bytesl s)[k]'(by rw [bytesl_length]; exact h)).toNat : Int) := by
  unfold bt
  rw [dif_pos (by rw [Int.toNat_natCast]; exact h)]
  rfl
theorem sumF_set : ∀ (L : List UInt8) (j i : Nat) (x : UInt8) (h : j < L.length), sumF (L.set j x) i = sumF L i + ((x.toNat : Int) - (L[j].toNat : Int)) * 256 ^ (3 - (i + j) % 4)
  | [], j, i, x, h => absurd h (Nat.not_lt_zero _)
  | c :: L, 0, i, x, h => by
    simp only [List.set_cons_zero, sumF, List.getElem_cons_zero, Nat.add_zero]
    rw [Int.sub_mul]
    omega
  | c :: L, j + 1, i, x, h => by
    have := sumF_set L j (i + 1) x (by simpa using h)
    simp only [List.set_cons_succ, sumF, List.getElem_cons_succ]
    rw [this, show i + 1 + j = i + (j + 1) by omega]
    omega
/-- The bytes of a table of which its sum is taken. -/
def sumL (head : Bool) (L : List UInt8) : List UInt8 := if head then L.take 8 ++ ([0, 0, 0, 0] ++ L.drop 12) else L
def headed (t d : ByteArray) : Bool := decide (t.toList = headT) && decide (12 ≤ d.size)
theorem tab_sumL (t d : ByteArray) : tabSum t d = sumF (sumL (headed t d) (bytesl d)) 0 % 4294967296 := by
  unfold tabSum sumOf sumL headed
  by_cases h : t.toList = headT ∧ 12 ≤ d.size
  · rw [if_pos h, decide_eq_true h.1, decide_eq_true h.2]
    simp only [Bool.and_self, if_true]
    rw [bytesl_app, bytesl_app, cut_bytes, bytesl_extract, List.drop_zero, List.append_assoc, show (bytesl d).take d.size = bytesl d from List.take_of_length_le (by rw [bytesl_length]; omega)]
    rfl
  · have hb : (decide (t.toList = headT) && decide (12 ≤ d.size)) = false := by
      rw [Bool.and_eq_false_iff]
      by_cases h1 : t.toList = headT
      · exact .inr (decide_eq_false (fun h2 => h ⟨h1, h2⟩))
      · exact .inl (decide_eq_false h1)
    rw [if_neg h, hb]
    rfl
theorem sumL_set (b : Bool) (L : List UInt8) (j : Nat) (x : UInt8) (h : j < L.length) (h12 : b = true → 12 ≤ L.length) :
    sumF (sumL b (L.set j x)) 0 = sumF (sumL b L) 0 + (if b = true ∧ 8 ≤ j ∧ j < 12 then 0 else ((x.toNat : Int) - (L[j].toNat : Int)) * 256 ^ (3 - j % 4)) := by
  cases b with
  | false =>
    unfold sumL
    rw [if_neg (show ¬ (false = true ∧ 8 ≤ j ∧ j < 12) by simp)]
    simp only [Bool.false_eq_true, if_false]
    have := sumF_set L j 0 x h
    rw [Nat.zero_add] at this
    exact this
  | true =>
    have h12 := h12 rfl
    unfold sumL
    simp only [if_true, true_and]
    rw [List.take_set, List.drop_set]
    have l8 : (L.take 8).length = 8 := by rw [List.length_take]; omega
    by_cases c1 : j < 8
    · rw [if_pos (by omega), if_neg (by omega)]
      rw [sumF_append ((L.take 8).set j x), sumF_append (L.take 8), List.length_set, sumF_set (L.take 8) j 0 x (by omega), List.getElem_take, Nat.zero_add]
      omega
    · have s8 : (L.take 8).set j x = L.take 8 := List.set_eq_of_length_le (by omega)
      rw [s8]
      by_cases c2 : j < 12
      · rw [if_pos c2, if_pos (by omega), Int.add_zero]
      · rw [if_neg c2, if_neg (by omega)]
        have hd : j - 12 < (L.drop 12).length := by rw [List.length_drop]; omega
        rw [sumF_append, sumF_append (L.take 8), sumF_append, sumF_append [0, 0, 0, 0] (L.drop 12), sumF_set (L.drop 12) (j - 12) _ x hd, List.getElem_drop]
        have e1 : (L[12 + (j - 12)]'(by omega)) = L[j] := by congr 1; omega
        rw [e1, l8, show (3 - (0 + 8 + ([0, 0, 0, 0] : List UInt8).length + (j - 12)) % 4) = 3 - j % 4 by simp; omega]
        omega
theorem diff_mod (S D : Int) (r : Nat) (hr : r ≤ 3) (hD : D ≠ 0) (h1 : -255 ≤ D) (h2 : D ≤ 255) : (S + D * 256 ^ r) % 4294967296 ≠ S % 4294967296 := by
  obtain rfl | rfl | rfl | rfl : r = 0 ∨ r = 1 ∨ r = 2 ∨ r = 3 := by omega
  · rw [show (256 : Int) ^ 0 = 1 from rfl]; omega
  · rw [show (256 : Int) ^ 1 = 256 from rfl]; omega
  · rw [show (256 : Int) ^ 2 = 65536 from rfl]; omega
  · rw [show (256 : Int) ^ 3 = 16777216 from rfl]; omega
/-- A table with one byte another: its sum is another, but at head's four bytes. -/
theorem tab_changed (t d d2 : ByteArray) (j : Nat) (x : UInt8) (hj : j < d.size) (hd : bytesl d2 = (bytesl d).set j x) (hx : (bytesl d)[j]'(by rw [bytesl_length]; exact hj) ≠ x) :
    (tabSum t d2 = tabSum t d) ↔ (headed t d = true ∧ 8 ≤ j ∧ j < 12) := by
  have hsz : d2.size = d.size := by rw [← bytesl_length, hd, List.length_set, bytesl_length]
  have hh : headed t d2 = headed t d := by unfold headed; rw [hsz]
  have hs := sumL_set (headed t d) (bytesl d) j x (by rw [bytesl_length]; exact hj) (fun h => by
    unfold headed at h
    rw [Bool.and_eq_true] at h
    have := of_decide_eq_true h.2
    rw [bytesl_length]
    exact this)
  rw [tab_sumL, tab_sumL, hh, hd, hs]
  by_cases c : headed t d = true ∧ 8 ≤ j ∧ j < 12
  · rw [if_pos c, Int.add_zero]
    exact ⟨fun _ => c, fun _ => rfl⟩
  · rw [if_neg c]
    refine ⟨fun h => absurd h (diff_mod _ _ _ (by omega) ?_ ?_ ?_), fun h => absurd h c⟩
    · intro e
      refine hx (UInt8.toNat_inj.1 ?_)
      omega
    all_goals
      have := x.toNat_lt
      have := ((bytesl d)[j]'(by rw [bytesl_length]; exact hj)).toNat_lt
      omega
/-! ### the file -/
theorem cut_set (L : List UInt8) (M a n : Nat) (x : UInt8) (h : M < a ∨ a + n ≤ M) : ((L.set M x).drop a).take n = (L.drop a).take n := by
  apply List.ext_getElem?
  intro q
  rw [List.getElem?_take, List.getElem?_take]
  split
  · rw [List.getElem?_drop, List.getElem?_drop, List.getElem?_set_ne (by omega)]
  · rfl
theorem cut_in (L : List UInt8) (M a n : Nat) (x : UInt8) (h1 : a ≤ M) (h2 : M < a + n) : ((L.set M x).drop a).take n = ((L.drop a).take n).set (M - a) x := by
  rw [List.drop_set, if_neg (by omega), List.take_set]
/-- Which tables stand in a file with one byte of a table another. -/
theorem changed_errs {l : List S33} {s : ByteArray} (hp : putS 65536 l = (s, 0)) (i j : Nat) (hi : i < l.length) (hj : j < (tabAt l i).f1.size) (x : Int) (hx : (bytesl (tabAt l i).f1)[j]'(by rw [bytesl_length]; exact hj) ≠ UInt8.ofNat x.toNat) :
    ∃ m, getS (setB s (sizeTo l i + j) x) = m ∧ (headed (tabAt l i).f0 (tabAt l i).f1 = true ∧ 8 ≤ j ∧ j < 12 → m.2.2 = 0) ∧ (¬ (headed (tabAt l i).f0 (tabAt l i).f1 = true ∧ 8 ≤ j ∧ j < 12) → m.2.2 = 5) := by
  obtain ⟨hf, hz, hb⟩ := put_file hp
  have hsz := hf.size
  have hlow := sizeTo_low l i
  have hend := size_next l i l.length hi
  obtain ⟨s2, hs2⟩ : ∃ s2, setB s (sizeTo l i + j) x = s2 := ⟨_, rfl⟩
  have hb2 : bytesl s2 = (bytesl s).set (sizeTo l i + j) (UInt8.ofNat x.toNat) := by rw [← hs2, setB_bytes]
  have hz2 : s2.size = s.size := by rw [← hs2, setB_size]
  rw [hs2]
  have F : FileOf 65536 l s2 (sizeTo l i + j) := {
    ver := hf.ver, right := hf.right, size := by omega, len := by omega
    bytes := by
      have e := cut_set (bytesl s) (sizeTo l i + j) 0 (sizeTo l i + j) (UInt8.ofNat x.toNat) (.inr (by omega))
      rw [List.drop_zero, List.drop_zero] at e
      rw [hb2, e, hb]
    recs := by omega }
  have hsm : ∀ k, k < l.length → sizeTo l k ≤ 16777216 ∧ (tabAt l k).f1.size ≤ 16777216 := fun k hk => by have := size_next l k l.length hk; omega
  have hrec : ∀ k, k < l.length → recE s2 k = recE s k := fun k hk => by
    rw [F.rec_eq k hk (hsm k hk).1 (hsm k hk).2, hf.rec_eq k hk (hsm k hk).1 (hsm k hk).2]
  have hdat : ∀ k, k < l.length → dataR s2 k = s2.extract (sizeTo l k) (sizeTo l k + (tabAt l k).f1.size) := fun k hk => by
    unfold dataR
    rw [F.rec_eq k hk (hsm k hk).1 (hsm k hk).2]
    simp only
    rw [Int.toNat_natCast, show ((sizeTo l k : Int) + ((tabAt l k).f1.size : Int)).toNat = sizeTo l k + (tabAt l k).f1.size by omega]
  have hold : ∀ k, k < l.length → s.extract (sizeTo l k) (sizeTo l k + (tabAt l k).f1.size) = (tabAt l k).f1 := fun k hk => hf.data k hk (by have := size_next l k l.length hk; omega)
  have hdn : ∀ k, k < l.length → k ≠ i → dataR s2 k = (tabAt l k).f1 := fun k hk hne => by
    refine Eq.trans ?_ (hold k hk)
    rw [hdat k hk]
    refine bytesl_ext ?_
    rw [cut_bytes, cut_bytes, hb2, cut_set]
    rcases Nat.lt_or_ge k i with h | h
    · have := size_next l k i h; omega
    · have := size_next l i k (by omega); omega
  have hdi : bytesl (dataR s2 i) = (bytesl (tabAt l i).f1).set j (UInt8.ofNat x.toNat) := by
    rw [hdat i hi, cut_bytes, hb2, cut_in _ _ _ _ _ (by omega) (by omega), ← cut_bytes, hold i hi, show sizeTo l i + j - sizeTo l i = j by omega]
  have hgood : ∀ k, k < l.length → badR s2 l.length k = false := fun k hk => F.good k hk (fun q hq => hsm q (by omega))
  have herr : ∀ k, k < l.length → errR s2 l.length k = if tabSum (tabAt l k).f0 (dataR s2 k) ≠ tabSum (tabAt l k).f0 (tabAt l k).f1 then 5 else 0 := fun k hk => by
    unfold errR
    rw [hgood k hk, F.rec_eq k hk (hsm k hk).1 (hsm k hk).2]
    simp only
    rw [if_neg (by decide), if_neg (by have := size_next l k l.length hk; omega)]
  have hne : ∀ k, k < l.length → k ≠ i → errR s2 l.length k = 0 := fun k hk hki => by rw [herr k hk, hdn k hk hki, if_neg (by simp)]
  have hiff := tab_changed (tabAt l i).f0 (tabAt l i).f1 (dataR s2 i) j (UInt8.ofNat x.toNat) hj hdi hx
  refine ⟨_, rfl, fun c => ?_, fun c => ?_⟩
  · have hall : errsTo s2 l.length l.length = 0 := firstE_all _ _ (fun k hk => by
      by_cases hki : k = i
      · subst hki
        rw [herr k hk, if_neg (by rw [hiff.2 c]; simp)]
      · exact hne k hk hki)
    have hm : meetB (recsE s2 l.length) = false := by
      have : recsE s2 l.length = recsE s l.length := by
        unfold recsE
        apply List.map_congr_left
        intro k hk
        exact hrec k (List.mem_range.1 hk)
      rw [this]
      exact hf.apart (by omega)
    unfold getS
    rw [F.head]
    simp only [Int.toNat_natCast]
    rw [if_neg (by simp), hall, if_neg (by simp), hm, if_neg (by decide)]
  · have h5 : errR s2 l.length i = 5 := by rw [herr i hi, if_pos (fun e => c (hiff.1 e))]
    have hstop : errsTo s2 l.length l.length = 5 := by
      rw [errsTo_stop _ _ _ i hi (firstE_all _ _ (fun k hk => hne k (by omega) (by omega))) (by rw [h5]; decide), h5]
    unfold getS
    rw [F.head]
    simp only [Int.toNat_natCast]
    rw [if_neg (by simp), hstop, if_pos (by decide)]
theorem put_arg {v e : Int} {l : List S33} {s : ByteArray} (h : putS v l = (s, e)) (he : e ≠ 0) (hf : fewT l) : e = 1 := by
  have hz := sizeTo_bound l 2000 (fun x hx => (hf.2 x hx).1) l.length (Nat.le_refl _)
  have hz2 : l.length * (2000 + 3) ≤ 70 * 2003 := Nat.mul_le_mul_right _ hf.1
  have := hf.1
  unfold putS at h
  split at h
  · cases h; rfl
  split at h
  · omega
  · cases h; exact absurd rfl he
theorem free_headed (t d : ByteArray) (a2 : Int) (h0 : 0 ≤ a2) : freeB t d a2 = true ↔ (headed t d = true ∧ 8 ≤ a2.toNat ∧ a2.toNat < 12) := by
  unfold freeB headed headBytes headT
  simp only [Bool.and_eq_true, beq_iff_eq, decide_eq_true_eq]
  constructor
  · rintro ⟨h1, h2, h3, h4⟩
    exact ⟨⟨h1, by omega⟩, by omega, by omega⟩
  · rintro ⟨⟨h1, h2⟩, h3, h4⟩
    exact ⟨h1, by omega, by omega, by omega⟩
theorem u8_wf {n : Int} (h : (Lit.int .u8 n).wf = true) : 0 ≤ n ∧ n < 256 := by
  simp [Lit.wf, IntKind.min, IntKind.max, IntKind.signed, IntKind.bits] at h
  omega
theorem sfntChanged_law (A : Option Addr) (c : Nat) (l : List S33) (a1 a2 a3 : Int) (w : World) (hr : Kd.C k33 w A l.length l) (hc : l.length ≤ c) (u0 : 0 ≤ a3) (u1 : a3 < 256) :
    Calls Try.prog 6 #[.slice A l.length c, .int .i64 a1, .int .i64 a2, .int .u8 a3] w fun e w' => e = .returned (.bool true) ∧ Below w.heap.size w w' := by
  obtain ⟨fb, hev, hfew⟩ := few_ev l
  obtain ⟨kf, hf⟩ := Ev.rounds hev
  by_cases hstop : fb = false ∨ a1 < 0 ∨ (l.length : Int) ≤ a1 ∨ a2 < 0 ∨ ((rd_T33 l a1).f1.size : Int) ≤ a2 ∨ bt (rd_T33 l a1).f1 a2 = a3
  · exact changed_stop A c l a1 a2 a3 w hr hc fb kf hf hstop
  have hfb : fb = true := by cases fb; exact absurd (.inl rfl) hstop; rfl
  subst hfb
  have hfT := hfew rfl
  have h1 : 0 ≤ a1 := by rcases Int.lt_or_le a1 0 with h | h; exact absurd (.inr (.inl h)) hstop; exact h
  have h2 : a1 < (l.length : Int) := by rcases Int.lt_or_le a1 (l.length : Int) with h | h; exact h; exact absurd (.inr (.inr (.inl h))) hstop
  have h3 : 0 ≤ a2 := by rcases Int.lt_or_le a2 0 with h | h; exact absurd (.inr (.inr (.inr (.inl h)))) hstop; exact h
  have h4 : a2 < ((rd_T33 l a1).f1.size : Int) := by rcases Int.lt_or_le a2 ((rd_T33 l a1).f1.size : Int) with h | h; exact h; exact absurd (.inr (.inr (.inr (.inr (.inl h))))) hstop
  have h5 : bt (rd_T33 l a1).f1 a2 ≠ a3 := fun h => hstop (.inr (.inr (.inr (.inr (.inr h)))))
  obtain ⟨ad, rfl, _, _⟩ := at_T33 hr a1 h1 h2
  obtain ⟨s, e, hs⟩ : ∃ s e, putS 65536 l = (s, e) := ⟨_, _, rfl⟩
  have hp : sfnt_Put.f 65536 l = some (s, e) := by rw [few_put 65536 hfT, hs]
  by_cases he : e = 0
  rotate_left
  · have := put_arg hs he hfT
    subst this
    exact changed_bad ad c l a1 a2 a3 w hr hc kf hf h1 h2 h3 h4 h5 s hp
  subst he
  obtain ⟨hF, hz, hb⟩ := put_file hs
  have hn := hfT.1
  obtain ⟨i, rfl⟩ : ∃ i : Nat, a1 = (i : Int) := ⟨a1.toNat, by omega⟩
  obtain ⟨j, rfl⟩ : ∃ j : Nat, a2 = (j : Int) := ⟨a2.toNat, by omega⟩
  rw [rd_at] at h4 h5
  have hi : i < l.length := by omega
  have hend := size_next l i l.length hi
  have hlow := sizeTo_low l i
  have hsz := hF.size
  have hrec := hF.rec_eq i hi (by omega) (by omega)
  have hN : nm s (12 + 16 * i + 8) = (sizeTo l i : Int) := congrArg (fun r : E85 => r.f0.f0) hrec
  have hdat := hF.data i hi (by omega)
  have hbt : bt s ((sizeTo l i : Int) + (j : Int)) = bt (tabAt l i).f1 (j : Int) := by
    rw [show (sizeTo l i : Int) + (j : Int) = ((sizeTo l i + j : Nat) : Int) by omega, bt_bytes s _ (by omega), bt_bytes _ j (by omega)]
    have hbd : bytesl (tabAt l i).f1 = ((bytesl s).drop (sizeTo l i)).take (tabAt l i).f1.size := by
      have := congrArg bytesl hdat
      rw [cut_bytes, show sizeTo l i + (tabAt l i).f1.size - sizeTo l i = (tabAt l i).f1.size by omega] at this
      exact this.symm
    simp only [hbd, List.getElem_take, List.getElem_drop]
  have hxne : (bytesl (tabAt l i).f1)[j]'(by rw [bytesl_length]; omega) ≠ UInt8.ofNat a3.toNat := fun h => h5 (by
    rw [bt_bytes _ j (by omega), h, UInt8.toNat_ofNat']
    omega)
  obtain ⟨m, hm, m1, m2⟩ := changed_errs hs i j hi (by omega) a3 hxne
  have hfh := free_headed (tabAt l i).f0 (tabAt l i).f1 (j : Int) (by omega)
  rw [Int.toNat_natCast] at hfh
  refine changed_ok ad c l (i : Int) (j : Int) a3 w hr hc kf hf h1 h2 h3 (by rw [rd_at]; exact h4) (by rw [rd_at]; exact h5) s hp hsz (by omega) (12 + 16 * i + 8) (by omega) (by omega) (sizeTo l i : Int) hN (by omega) (by omega) (by rw [rd_at]; exact hbt) m.1 m.2.1 m.2.2
    (by rw [show ((sizeTo l i : Int) + (j : Int)).toNat = sizeTo l i + j by omega]; exact hm) (fun h => ?_) (fun h => ?_)
  · rw [rd_at] at h; exact m1 (hfh.1 h)
  · rw [rd_at] at h; exact m2 (fun h' => by rw [hfh.2 h'] at h; cases h)
end Go.Proofs.Ytgchajlfopmcjaa.P
