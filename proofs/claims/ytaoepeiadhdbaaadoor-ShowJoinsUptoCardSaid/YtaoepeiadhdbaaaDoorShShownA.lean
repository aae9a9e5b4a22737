/- The law's closed example, walked. -/
import Derived.Test.YtaoepeiadhdbaaaDoorNdClassA
import Derived.Test.YtaoepeiadhdbaaaDoorShListA
namespace Go.Proofs.YtaoepeiadhdbaaaDoor.ND
open Go.Shelf Go.Sort Go.Proofs.YtaoepeiadhdbaaaDoor.P Go.Proofs.YtaoepeiadhdbaaaDoor.CH Go.RowKit Go.Proofs.YtaoepeiadhdbaaaDoorW.PrintWords Go.Proofs.YtaoepeiadhdbaaaDoorW.PrintLast Go.Proofs.YtaoepeiadhdbaaaDoorW.PrintMore
set_option linter.unusedVariables false
set_option linter.unusedSimpArgs false
set_option maxRecDepth 100000 in
set_option maxHeartbeats 1000000 in
theorem in_calls (c : Int) (l : List (Int × Int)) (b : Nat) (w : World) (hd : w.heap[b]? = some (.cells (flat l).toArray 3 (0, 0))) (hm : l.length ≤ 1000) (L : Nat) (hL : L = 2 * l.length) :
    Calls Tryd.prog 23 #[.int .i64 c, .slice (some ⟨b, 0, none⟩) L L] w fun e w' => e = .returned (.bool (inR c l)) ∧ w' = w := by
  have HD := Lib.hid hd
  have HL := Lib.hid hL
  have q0 : L ≤ 2000 := by omega
  clear hd hL
  go_enter Tryd.func23, Tryd.ntmps23
  go_wp2
  go_loopg [5] l.length (fun kq v5 w' => ∃ (j a : Nat), v5 = .int .i64 (a : Int) ∧ Hid (a = 2 * j ∧ kq + j = l.length) ∧ Hid (inR c l = inR c (l.drop j)) ∧ Hid (w' = w))
  case atStart => exact ⟨0, 0, rfl, Lib.hid ⟨rfl, by omega⟩, Lib.hid (by rw [List.drop_zero]), Lib.hid rfl⟩
  case round =>
    obtain ⟨j, a, rfl, HA, HN, HW⟩ := hrel
    have hww := HW.out
    subst hww
    by_cases hend : j = l.length
    · have q1 : a = L := by have h1 := HA.out; have h2 := HL.out; omega
      have q2 : wrap64 ((a : Int) + 1) = (a : Int) + 1 := wrap64_small (by omega) (by omega)
      have q3 : decide ((a : Int) + 1 < (L : Int)) = false := decide_eq_false (by omega)
      have HN1 : Hid (inR c l = false) := Lib.hid (by have := HN.out; rw [hend, List.drop_length] at this; exact this)
      clear q1 hend
      go_wp2
      go_ret
      exact ⟨by rw [HN1.out]; rfl, rfl⟩
    · have hlt : j < l.length := by have := HA.out; omega
      have q1 : a + 2 ≤ L := by have h1 := HA.out; have h2 := HL.out; omega
      have q2 : wrap64 ((a : Int) + 1) = ((a + 1 : Nat) : Int) := by rw [wrap64_small (x := (a : Int) + 1) (by omega) (by omega)]; omega
      have q2' : wrap64 ((a : Int) + 2) = ((a + 2 : Nat) : Int) := by rw [wrap64_small (x := (a : Int) + 2) (by omega) (by omega)]; omega
      have q3 : decide (((a + 1 : Nat) : Int) < (L : Int)) = true := decide_eq_true (by omega)
      have q4 : decide ((a : Int) + 1 < (L : Int)) = true := decide_eq_true (by omega)
      obtain ⟨go', rfl⟩ : ∃ g', gk = g' + 1 := ⟨gk - 1, by have := HA.out; omega⟩
      have HA2 : Hid (a + 2 = 2 * (j + 1) ∧ go' + (j + 1) = l.length) := Lib.hid (by have := HA.out; omega)
      have hY : inR c (l.drop j) = ((decide (l[j].1 ≤ c) && decide (c ≤ l[j].2)) || inR c (l.drop (j + 1))) := by rw [List.drop_eq_getElem_cons hlt]; rfl
      have HY := Lib.hid (HN.out.trans hY)
      have hfl := flat_lo l j hlt
      rw [← HA.out.1] at hfl
      have c1 := nad_cells HD.out a _ (by simpa using hfl.1)
      have c2 := nad_cells HD.out (a + 1) _ (by simpa using hfl.2)
      have HQ2 := Lib.hid q2'
      clear hY hfl q2' HW
      generalize l[j].1 = lo at *
      generalize l[j].2 = hi at *
      cases e1 : decide (lo ≤ c)
      · have HN2 : Hid (inR c l = inR c (l.drop (j + 1))) := Lib.hid (by rw [HY.out, e1]; rfl)
        go_wp2
        have q9 := HQ2.out
        go_roundg go'
        case measure => exact Nat.lt_succ_self _
        case rel => exact ⟨j + 1, a + 2, by first | rfl | (rw [q9]), HA2, HN2, Lib.hid rfl⟩
      · cases e2 : decide (c ≤ hi)
        · have HN2 : Hid (inR c l = inR c (l.drop (j + 1))) := Lib.hid (by rw [HY.out, e1, e2]; rfl)
          go_wp2
          have q9 := HQ2.out
          go_roundg go'
          case measure => exact Nat.lt_succ_self _
          case rel => exact ⟨j + 1, a + 2, by first | rfl | (rw [q9]), HA2, HN2, Lib.hid rfl⟩
        · have HN2 : Hid (inR c l = true) := Lib.hid (by rw [HY.out, e1, e2]; rfl)
          go_wp2
          go_ret
          exact ⟨by rw [HN2.out]; rfl, rfl⟩
theorem in_0 (c : Int) (w : World) : Calls Tryd.prog 23 #[.int .i64 c, .slice (some ⟨w.heap.size, 0, none⟩) 4 4] (w.alloc (.cells #[.int .i64 8719, .int .i64 8721, .int .i64 8747, .int .i64 8755] 3)) fun e w' => e = .returned (.bool (inR c (lT 0))) ∧ Below w.heap.size w w' :=
  (in_calls c (lT 0) w.heap.size _ (heap_alloc_new w _) (by decide) 4 rfl).mono fun e w' h => ⟨h.1, by rw [h.2]; exact (Below.refl _ w).alloc (Nat.le_refl _) _⟩
theorem in_1 (c : Int) (w : World) : Calls Tryd.prog 23 #[.int .i64 c, .slice (some ⟨w.heap.size, 0, none⟩) 20 20] (w.alloc (.cells #[.int .i64 42, .int .i64 43, .int .i64 45, .int .i64 45, .int .i64 177, .int .i64 177, .int .i64 183, .int .i64 183, .int .i64 215, .int .i64 215, .int .i64 247, .int .i64 247, .int .i64 8722, .int .i64 8723, .int .i64 8727, .int .i64 8729, .int .i64 8743, .int .i64 8746, .int .i64 8853, .int .i64 8857] 3)) fun e w' => e = .returned (.bool (inR c (lT 1))) ∧ Below w.heap.size w w' :=
  (in_calls c (lT 1) w.heap.size _ (heap_alloc_new w _) (by decide) 20 rfl).mono fun e w' h => ⟨h.1, by rw [h.2]; exact (Below.refl _ w).alloc (Nat.le_refl _) _⟩
theorem in_2 (c : Int) (w : World) : Calls Tryd.prog 23 #[.int .i64 c, .slice (some ⟨w.heap.size, 0, none⟩) 14 14] (w.alloc (.cells #[.int .i64 58, .int .i64 58, .int .i64 60, .int .i64 62, .int .i64 8592, .int .i64 8601, .int .i64 8712, .int .i64 8717, .int .i64 8764, .int .i64 8777, .int .i64 8800, .int .i64 8805, .int .i64 8834, .int .i64 8839] 3)) fun e w' => e = .returned (.bool (inR c (lT 2))) ∧ Below w.heap.size w w' :=
  (in_calls c (lT 2) w.heap.size _ (heap_alloc_new w _) (by decide) 14 rfl).mono fun e w' h => ⟨h.1, by rw [h.2]; exact (Below.refl _ w).alloc (Nat.le_refl _) _⟩
theorem in_3 (c : Int) (w : World) : Calls Tryd.prog 23 #[.int .i64 c, .slice (some ⟨w.heap.size, 0, none⟩) 8 8] (w.alloc (.cells #[.int .i64 40, .int .i64 40, .int .i64 91, .int .i64 91, .int .i64 123, .int .i64 123, .int .i64 10216, .int .i64 10216] 3)) fun e w' => e = .returned (.bool (inR c (lT 3))) ∧ Below w.heap.size w w' :=
  (in_calls c (lT 3) w.heap.size _ (heap_alloc_new w _) (by decide) 8 rfl).mono fun e w' h => ⟨h.1, by rw [h.2]; exact (Below.refl _ w).alloc (Nat.le_refl _) _⟩
theorem in_4 (c : Int) (w : World) : Calls Tryd.prog 23 #[.int .i64 c, .slice (some ⟨w.heap.size, 0, none⟩) 12 12] (w.alloc (.cells #[.int .i64 33, .int .i64 33, .int .i64 41, .int .i64 41, .int .i64 63, .int .i64 63, .int .i64 93, .int .i64 93, .int .i64 125, .int .i64 125, .int .i64 10217, .int .i64 10217] 3)) fun e w' => e = .returned (.bool (inR c (lT 4))) ∧ Below w.heap.size w w' :=
  (in_calls c (lT 4) w.heap.size _ (heap_alloc_new w _) (by decide) 12 rfl).mono fun e w' h => ⟨h.1, by rw [h.2]; exact (Below.refl _ w).alloc (Nat.le_refl _) _⟩
theorem in_5 (c : Int) (w : World) : Calls Tryd.prog 23 #[.int .i64 c, .slice (some ⟨w.heap.size, 0, none⟩) 4 4] (w.alloc (.cells #[.int .i64 44, .int .i64 44, .int .i64 59, .int .i64 59] 3)) fun e w' => e = .returned (.bool (inR c (lT 5))) ∧ Below w.heap.size w w' :=
  (in_calls c (lT 5) w.heap.size _ (heap_alloc_new w _) (by decide) 4 rfl).mono fun e w' h => ⟨h.1, by rw [h.2]; exact (Below.refl _ w).alloc (Nat.le_refl _) _⟩
set_option maxRecDepth 100000 in
set_option maxHeartbeats 1000000 in
theorem class20_calls (c : Int) (w : World) : Calls Tryd.prog 16 #[.int .i64 c] w fun e w' => e = .returned (.int .i64 (clsR c)) ∧ Below w.heap.size w w' := by
  have HC : Hid (clsR c = if inR c (lT 0) then (1 : Int) else if inR c (lT 1) then 2 else if inR c (lT 2) then 3 else if inR c (lT 3) then 4 else if inR c (lT 4) then 5 else if inR c (lT 5) then 6 else 0) := Lib.hid rfl
  have H0 := Lib.hid fun w => in_0 c w
  have H1 := Lib.hid fun w => in_1 c w
  have H2 := Lib.hid fun w => in_2 c w
  have H3 := Lib.hid fun w => in_3 c w
  have H4 := Lib.hid fun w => in_4 c w
  have H5 := Lib.hid fun w => in_5 c w
  generalize inR c (lT 0) = B0 at *
  generalize inR c (lT 1) = B1 at *
  generalize inR c (lT 2) = B2 at *
  generalize inR c (lT 3) = B3 at *
  generalize inR c (lT 4) = B4 at *
  generalize inR c (lT 5) = B5 at *
  generalize clsR c = R at *
  cases B0
  rotate_left
  ·
    have HR : Hid (R = 1) := Lib.hid HC.out
    go_enter Tryd.func16, Tryd.ntmps16
    go_wp2_with (first | (go_at_call 23; with_reducible refine (H0.out w).mono ?_; rintro e w0 ⟨rfl, hb⟩; have HB0 := Lib.hid hb; clear hb))
    go_ret
    exact ⟨by rw [HR.out]; rfl, HB0.out⟩
  cases B1
  rotate_left
  ·
    have HR : Hid (R = 2) := Lib.hid HC.out
    go_enter Tryd.func16, Tryd.ntmps16
    go_wp2_with (first | (go_at_call 23; with_reducible refine (H0.out w).mono ?_; rintro e w0 ⟨rfl, hb⟩; have HB0 := Lib.hid hb; clear hb) | (go_at_call 23; with_reducible refine (H1.out w0).mono ?_; rintro e w1 ⟨rfl, hb⟩; have HB1 := Lib.hid (HB0.out.trans (hb.mono HB0.out.size)); clear hb))
    go_ret
    exact ⟨by rw [HR.out]; rfl, HB1.out⟩
  cases B2
  rotate_left
  ·
    have HR : Hid (R = 3) := Lib.hid HC.out
    go_enter Tryd.func16, Tryd.ntmps16
    go_wp2_with (first | (go_at_call 23; with_reducible refine (H0.out w).mono ?_; rintro e w0 ⟨rfl, hb⟩; have HB0 := Lib.hid hb; clear hb) | (go_at_call 23; with_reducible refine (H1.out w0).mono ?_; rintro e w1 ⟨rfl, hb⟩; have HB1 := Lib.hid (HB0.out.trans (hb.mono HB0.out.size)); clear hb) | (go_at_call 23; with_reducible refine (H2.out w1).mono ?_; rintro e w2 ⟨rfl, hb⟩; have HB2 := Lib.hid (HB1.out.trans (hb.mono HB1.out.size)); clear hb))
    go_ret
    exact ⟨by rw [HR.out]; rfl, HB2.out⟩
  cases B3
  rotate_left
  ·
    have HR : Hid (R = 4) := Lib.hid HC.out
    go_enter Tryd.func16, Tryd.ntmps16
    go_wp2_with (first | (go_at_call 23; with_reducible refine (H0.out w).mono ?_; rintro e w0 ⟨rfl, hb⟩; have HB0 := Lib.hid hb; clear hb) | (go_at_call 23; with_reducible refine (H1.out w0).mono ?_; rintro e w1 ⟨rfl, hb⟩; have HB1 := Lib.hid (HB0.out.trans (hb.mono HB0.out.size)); clear hb) | (go_at_call 23; with_reducible refine (H2.out w1).mono ?_; rintro e w2 ⟨rfl, hb⟩; have HB2 := Lib.hid (HB1.out.trans (hb.mono HB1.out.size)); clear hb) | (go_at_call 23; with_reducible refine (H3.out w2).mono ?_; rintro e w3 ⟨rfl, hb⟩; have HB3 := Lib.hid (HB2.out.trans (hb.mono HB2.out.size)); clear hb))
    go_ret
    exact ⟨by rw [HR.out]; rfl, HB3.out⟩
  cases B4
  rotate_left
  ·
    have HR : Hid (R = 5) := Lib.hid HC.out
    go_enter Tryd.func16, Tryd.ntmps16
    go_wp2_with (first | (go_at_call 23; with_reducible refine (H0.out w).mono ?_; rintro e w0 ⟨rfl, hb⟩; have HB0 := Lib.hid hb; clear hb) | (go_at_call 23; with_reducible refine (H1.out w0).mono ?_; rintro e w1 ⟨rfl, hb⟩; have HB1 := Lib.hid (HB0.out.trans (hb.mono HB0.out.size)); clear hb) | (go_at_call 23; with_reducible refine (H2.out w1).mono ?_; rintro e w2 ⟨rfl, hb⟩; have HB2 := Lib.hid (HB1.out.trans (hb.mono HB1.out.size)); clear hb) | (go_at_call 23; with_reducible refine (H3.out w2).mono ?_; rintro e w3 ⟨rfl, hb⟩; have HB3 := Lib.hid (HB2.out.trans (hb.mono HB2.out.size)); clear hb) | (go_at_call 23; with_reducible refine (H4.out w3).mono ?_; rintro e w4 ⟨rfl, hb⟩; have HB4 := Lib.hid (HB3.out.trans (hb.mono HB3.out.size)); clear hb))
    go_ret
    exact ⟨by rw [HR.out]; rfl, HB4.out⟩
  cases B5
  rotate_left
  ·
    have HR : Hid (R = 6) := Lib.hid HC.out
    go_enter Tryd.func16, Tryd.ntmps16
    go_wp2_with (first | (go_at_call 23; with_reducible refine (H0.out w).mono ?_; rintro e w0 ⟨rfl, hb⟩; have HB0 := Lib.hid hb; clear hb) | (go_at_call 23; with_reducible refine (H1.out w0).mono ?_; rintro e w1 ⟨rfl, hb⟩; have HB1 := Lib.hid (HB0.out.trans (hb.mono HB0.out.size)); clear hb) | (go_at_call 23; with_reducible refine (H2.out w1).mono ?_; rintro e w2 ⟨rfl, hb⟩; have HB2 := Lib.hid (HB1.out.trans (hb.mono HB1.out.size)); clear hb) | (go_at_call 23; with_reducible refine (H3.out w2).mono ?_; rintro e w3 ⟨rfl, hb⟩; have HB3 := Lib.hid (HB2.out.trans (hb.mono HB2.out.size)); clear hb) | (go_at_call 23; with_reducible refine (H4.out w3).mono ?_; rintro e w4 ⟨rfl, hb⟩; have HB4 := Lib.hid (HB3.out.trans (hb.mono HB3.out.size)); clear hb) | (go_at_call 23; with_reducible refine (H5.out w4).mono ?_; rintro e w5 ⟨rfl, hb⟩; have HB5 := Lib.hid (HB4.out.trans (hb.mono HB4.out.size)); clear hb))
    go_ret
    exact ⟨by rw [HR.out]; rfl, HB5.out⟩
  have HR : Hid (R = 0) := Lib.hid HC.out
  go_enter Tryd.func16, Tryd.ntmps16
  go_wp2_with (first | (go_at_call 23; with_reducible refine (H0.out w).mono ?_; rintro e w0 ⟨rfl, hb⟩; have HB0 := Lib.hid hb; clear hb) | (go_at_call 23; with_reducible refine (H1.out w0).mono ?_; rintro e w1 ⟨rfl, hb⟩; have HB1 := Lib.hid (HB0.out.trans (hb.mono HB0.out.size)); clear hb) | (go_at_call 23; with_reducible refine (H2.out w1).mono ?_; rintro e w2 ⟨rfl, hb⟩; have HB2 := Lib.hid (HB1.out.trans (hb.mono HB1.out.size)); clear hb) | (go_at_call 23; with_reducible refine (H3.out w2).mono ?_; rintro e w3 ⟨rfl, hb⟩; have HB3 := Lib.hid (HB2.out.trans (hb.mono HB2.out.size)); clear hb) | (go_at_call 23; with_reducible refine (H4.out w3).mono ?_; rintro e w4 ⟨rfl, hb⟩; have HB4 := Lib.hid (HB3.out.trans (hb.mono HB3.out.size)); clear hb) | (go_at_call 23; with_reducible refine (H5.out w4).mono ?_; rintro e w5 ⟨rfl, hb⟩; have HB5 := Lib.hid (HB4.out.trans (hb.mono HB4.out.size)); clear hb))
  go_ret
  exact ⟨by rw [HR.out]; rfl, HB5.out⟩
end Go.Proofs.YtaoepeiadhdbaaaDoor.ND
namespace Go.Proofs.YtaoepeiadhdbaaaDoor.ND
open Go.Shelf Go.Sort Go.Proofs.YtaoepeiadhdbaaaDoor.P Go.RowKit Go.Proofs.YtaoepeiadhdbaaaDoorW.PrintWords Go.Proofs.YtaoepeiadhdbaaaDoorW.PrintLast Go.Proofs.YtaoepeiadhdbaaaDoorW.PrintMore
set_option linter.unusedVariables false
set_option linter.unusedSimpArgs false
theorem add_new (b n : Nat) : (⟨b, 0, none⟩ : Addr).add n = ⟨b, n, none⟩ := by unfold Addr.add; split <;> simp_all
theorem rd_nil {α : Type} (K : α → List Value → Prop) (sz : Nat) (w : World) : rdS K sz w (.slice none 0 0) ([] : List α) := ⟨none, 0, rfl, Nat.le_refl _, rfl, by simp, fun h => absurd h (by simp)⟩
theorem rd_new {α : Type} (K : α → List Value → Prop) (sz : Nat) (w : World) (b : Nat) (cells : Array Value) (t : TypeId) (fz : Nat × Nat) (l : List α) (n : Nat) (hn : n = l.length) (hb : l.length ≤ 1000) (h : w.heap[b]? = some (.cells cells t fz))
    (he : ∀ j p, l[j]? = some p → ∃ cs, cs.length = sz ∧ K p cs ∧ ∀ i u, cs[i]? = some u → cells[j * sz + i]? = some u) : rdS K sz w (.slice (some ⟨b, 0, none⟩) n n) l := by
  subst hn
  refine ⟨some ⟨b, 0, none⟩, l.length, rfl, Nat.le_refl _, rfl, by omega, fun _ => ⟨_, rfl, fun j p hj => ?_⟩⟩
  obtain ⟨cs, h1, h2, h3⟩ := he j p hj
  exact ⟨cs, h1, h2, fun i u hu => by rw [add_new]; exact (Joins.cell_of_block h _).trans (h3 i u hu)⟩
/-- A char's noad. -/
def chZ {α : Type} (c : Int) : Nz α := ⟨0, clsR c, c, 0, 0, [], [], false, false, [], []⟩
def chC (c : Int) : List Value := [.int .i64 0, .int .i64 (clsR c), .int .i64 c, .int .i64 0, .int .i64 0, .slice none 0 0, .slice none 0 0, .bool false, .bool false, .slice none 0 0, .slice none 0 0]
theorem clsR_range (c : Int) : 0 ≤ clsR c ∧ clsR c ≤ 6 := by
  unfold clsR
  (repeat' split) <;> omega
theorem ch_reads {α : Type} (K : World → α → List Value → Prop) (w : World) (c : Int) (h : inI c) : rdZ K w (chZ c) (chC c) := by
  have := clsR_range c
  refine ⟨by unfold inI chZ; dsimp only; omega, by unfold inI chZ; dsimp only; omega, h, by unfold inI chZ; dsimp only; omega, by unfold inI chZ; dsimp only; omega, _, _, _, _, rfl, rd_nil _ _ _, rd_nil _ _ _, rd_nil _ _ _, rd_nil _ _ _⟩
set_option maxRecDepth 100000 in
set_option maxHeartbeats 1000000 in
theorem char_calls (c : Int) (w : World) : Calls Tryd.prog 15 #[.int .i64 c] w fun e w' => e = .returned (.agg #[.int .i64 0, .int .i64 (clsR c), .int .i64 c, .int .i64 0, .int .i64 0, .slice none 0 0, .slice none 0 0, .bool false, .bool false, .slice none 0 0, .slice none 0 0]) ∧ Below w.heap.size w w' := by
  have HZ := Lib.hid fun (w1 : World) => class20_calls c w1
  have hB : ∀ o : Obj, Below w.heap.size w (w.alloc o) := fun o => (Below.refl w.heap.size w).alloc (Nat.le_refl _) o
  have HB := Lib.hid (hB (Obj.cells #[.int .i64 0, .int .i64 0, .int .i64 0, .int .i64 0, .int .i64 0, .slice none 0 0, .slice none 0 0, .bool false, .bool false, .slice none 0 0, .slice none 0 0] 33))
  have HN := Lib.hid (heap_alloc_new w (Obj.cells #[.int .i64 0, .int .i64 0, .int .i64 0, .int .i64 0, .int .i64 0, .slice none 0 0, .slice none 0 0, .bool false, .bool false, .slice none 0 0, .slice none 0 0] 33))
  clear hB
  generalize clsR c = R at *
  go_enter Tryd.func15, Tryd.ntmps15
  go_wp2_with (first | (go_at_call 16; with_reducible refine (HZ.out _).mono ?_; rintro e w1 ⟨rfl, hb1⟩; have HB1 := Lib.hid hb1; have hblk := (hb1.block w.heap.size (by simp)).trans HN.out; have HK := Lib.hid hblk; clear hb1 hblk) | (refine wpList_store_row rfl 33 _ _ rfl w.heap.size #[.int .i64 0, .int .i64 R, .int .i64 c, .int .i64 0, .int .i64 0, .slice none 0 0, .slice none 0 0, .bool false, .bool false, .slice none 0 0, .slice none 0 0] rfl rfl 33 _ HK.out (by kernel_rfl) rfl (by simp [Value.oneCell']) ?_))
  have HX := Lib.hid (setRow_heap w1 w.heap.size _ #[.int .i64 0, .int .i64 R, .int .i64 c, .int .i64 0, .int .i64 0, .slice none 0 0, .slice none 0 0, .bool false, .bool false, .slice none 0 0, .slice none 0 0] _ _ HK.out)
  refine bodyPost_ret (results_cell_row (p := 2) (ty := 33) rfl _ _ w.heap.size 33 #[.int .i64 0, .int .i64 R, .int .i64 c, .int .i64 0, .int .i64 0, .slice none 0 0, .slice none 0 0, .bool false, .bool false, .slice none 0 0, .slice none 0 0] (0, 0) _ rfl HX.out Tryd.underlying33 rfl (by kernel_rfl)) rfl ?_
  exact ⟨rfl, below_setRow (HB.out.trans (HB1.out.mono HB.out.size)) (Nat.le_refl _) _⟩
end Go.Proofs.YtaoepeiadhdbaaaDoor.ND
namespace Go.Proofs.YtaoepeiadhdbaaaDoor.ND
open Go.Shelf Go.Sort Go.Proofs.YtaoepeiadhdbaaaDoor.P Go.RowKit Go.Proofs.YtaoepeiadhdbaaaDoorW.PrintWords Go.Proofs.YtaoepeiadhdbaaaDoorW.PrintLast Go.Proofs.YtaoepeiadhdbaaaDoorW.PrintMore
set_option linter.unusedVariables false
set_option linter.unusedSimpArgs false
def chN (c : Int) : Nn 1 := (chZ c : Nz (Nn 0))
def xS : Nn 2 := (⟨2, 0, 0, 1, 0, [[chN 97], [chN 98, chN 123]], [], true, false, [chN 50], []⟩ : Nz (Nn 1))
def xF : Nn 1 := (⟨2, 0, 0, 0, 0, [], [], false, false, [], []⟩ : Nz (Nn 0))
def tS : List UInt8 := [92, 102, 114, 97, 99, 123, 97, 125, 123, 98, 92, 123, 125, 94, 123, 50, 125]
theorem text_xS : textR 2 [xS] = (tS, 0) := by decide +kernel
theorem count_xS : scnt 2 [xS] = 5 := by decide +kernel
theorem chk_xS : chkR 2 [xS] = 0 := by decide +kernel
theorem text_xF : textR 1 [xF] = ([], 5) := by decide +kernel
theorem wt_xS : wtL 2 [xS] ≤ 2000000 := by decide +kernel
theorem wt_xF : wtL 1 [xF] ≤ 2000000 := by decide +kernel
def cS (b3 b4 : Nat) : List Value := [.int .i64 2, .int .i64 0, .int .i64 0, .int .i64 1, .int .i64 0, .slice (some ⟨b3, 0, none⟩) 2 2, .slice none 0 0, .bool true, .bool false, .slice (some ⟨b4, 0, none⟩) 1 1, .slice none 0 0]
theorem inI_small (n : Int) (h : 0 ≤ n ∧ n ≤ 1000) : inI n := by unfold inI; omega
theorem one_read {α : Type} (K : World → α → List Value → Prop) (W : World) (b : Nat) (cs : List Value) (x : α) (hl : cs.length = 11) (hx : K W x cs) (h : W.heap[b]? = some (.cells cs.toArray 33 (0, 0))) : rdS (K W) 11 W (.slice (some ⟨b, 0, none⟩) 1 1) [x] :=
  rd_new _ 11 W b _ _ _ [x] 1 rfl (by simp) h (fun j p hj => by
    match j, hj with
    | 0, hj =>
      obtain rfl : x = p := by simpa using hj
      exact ⟨cs, hl, hx, fun i u hu => by simpa using hu⟩)
theorem shown_read (W : World) (b1 b2 b3 b4 b : Nat) (h1 : W.heap[b1]? = some (.cells (chC 97).toArray 33 (0, 0))) (h2 : W.heap[b2]? = some (.cells (chC 98 ++ chC 123).toArray 33 (0, 0)))
    (h3 : W.heap[b3]? = some (.cells #[.slice (some ⟨b1, 0, none⟩) 1 1, .slice (some ⟨b2, 0, none⟩) 2 2] 22 (0, 0))) (h4 : W.heap[b4]? = some (.cells (chC 50).toArray 33 (0, 0)))
    (h : W.heap[b]? = some (.cells (cS b3 b4).toArray 33 (0, 0))) : rdL 2 W (.slice (some ⟨b, 0, none⟩) 1 1) [xS] := by
  have r1 : rdL 1 W (.slice (some ⟨b1, 0, none⟩) 1 1) [chN 97] := one_read (rdN 1) W b1 (chC 97) _ rfl (ch_reads (rdN 0) W 97 (inI_small _ (by decide))) h1
  have r4 : rdL 1 W (.slice (some ⟨b4, 0, none⟩) 1 1) [chN 50] := one_read (rdN 1) W b4 (chC 50) _ rfl (ch_reads (rdN 0) W 50 (inI_small _ (by decide))) h4
  have r2 : rdL 1 W (.slice (some ⟨b2, 0, none⟩) 2 2) [chN 98, chN 123] := rd_new _ 11 W b2 _ _ _ _ 2 rfl (by decide) h2 (fun j p hj => by
    match j, hj with
    | 0, hj =>
      obtain rfl : chN 98 = p := Option.some.inj hj
      exact ⟨chC 98, rfl, ch_reads (rdN 0) W 98 (inI_small _ (by decide)), fun i u hu => by
        have hi : i < (chC 98).length := (List.getElem?_eq_some_iff.1 hu).1
        simp only [Nat.zero_mul, Nat.zero_add, List.getElem?_toArray]
        rw [List.getElem?_append_left hi]
        exact hu⟩
    | 1, hj =>
      obtain rfl : chN 123 = p := Option.some.inj hj
      exact ⟨chC 123, rfl, ch_reads (rdN 0) W 123 (inI_small _ (by decide)), fun i u hu => by
        simp only [Nat.one_mul, List.getElem?_toArray]
        rw [List.getElem?_append_right (by show (chC 98).length ≤ 11 + i; exact Nat.le_add_right 11 i)]
        rw [show 11 + i - (chC 98).length = i by show 11 + i - 11 = i; omega]
        exact hu⟩)
  have rp : rdS (fun l cs => ∃ v, cs = [v] ∧ rdS (rdN 1 W) 11 W v l) 1 W (.slice (some ⟨b3, 0, none⟩) 2 2) [[chN 97], [chN 98, chN 123]] := rd_new _ 1 W b3 _ _ _ _ 2 rfl (by decide) h3 (fun j p hj => by
    match j, hj with
    | 0, hj =>
      obtain rfl := Option.some.inj hj
      exact ⟨_, rfl, ⟨_, rfl, r1⟩, fun i u hu => by
        match i, hu with
        | 0, hu => exact hu⟩
    | 1, hj =>
      obtain rfl := Option.some.inj hj
      exact ⟨_, rfl, ⟨_, rfl, r2⟩, fun i u hu => by
        match i, hu with
        | 0, hu => exact hu⟩)
  exact one_read (rdN 2) W b (cS b3 b4) xS rfl ⟨inI_small _ (by decide), inI_small _ (by decide), inI_small _ (by decide), inI_small _ (by decide), inI_small _ (by decide), _, _, _, _, rfl, rp, rd_nil _ _ _, r4, rd_nil _ _ _⟩ h
end Go.Proofs.YtaoepeiadhdbaaaDoor.ND
namespace Go.Proofs.YtaoepeiadhdbaaaDoor.ND
open Go.Shelf Go.Sort Go.Proofs.YtaoepeiadhdbaaaDoor.P Go.RowKit Go.Proofs.YtaoepeiadhdbaaaDoorW.PrintWords Go.Proofs.YtaoepeiadhdbaaaDoorW.PrintLast Go.Proofs.YtaoepeiadhdbaaaDoorW.PrintMore
set_option linter.unusedVariables false
set_option linter.unusedSimpArgs false
/-- The example's parts stand. -/
structure SB (b1 b2 b3 b4 : Nat) (W : World) : Prop where
  h1 : W.heap[b1]? = some (.cells (chC 97).toArray 33 (0, 0))
  h2 : W.heap[b2]? = some (.cells (chC 98 ++ chC 123).toArray 33 (0, 0))
  h3 : W.heap[b3]? = some (.cells #[.slice (some ⟨b1, 0, none⟩) 1 1, .slice (some ⟨b2, 0, none⟩) 2 2] 22 (0, 0))
  h4 : W.heap[b4]? = some (.cells (chC 50).toArray 33 (0, 0))
theorem SB.below {b1 b2 b3 b4 : Nat} {W W' : World} (h : SB b1 b2 b3 b4 W) (hb : Below W.heap.size W W') : SB b1 b2 b3 b4 W' :=
  ⟨(hb.block _ (blk_lt h.h1)).trans h.h1, (hb.block _ (blk_lt h.h2)).trans h.h2, (hb.block _ (blk_lt h.h3)).trans h.h3, (hb.block _ (blk_lt h.h4)).trans h.h4⟩
theorem SB.text {b1 b2 b3 b4 : Nat} {W : World} (b : Nat) (h : SB b1 b2 b3 b4 W) (hT : LexTabs W) (hb : W.heap[b]? = some (Obj.cells #[.int .i64 2, .int .i64 0, .int .i64 0, .int .i64 1, .int .i64 0, .slice (some ⟨b3, 0, none⟩) 2 2, .slice none 0 0, .bool true, .bool false, .slice (some ⟨b4, 0, none⟩) 1 1, .slice none 0 0] 33)) :
    Calls Tryd.prog 6 #[.slice (some ⟨b, 0, none⟩) 1 1] W fun e w' => e = .returned (.tuple #[.string ⟨#[92, 102, 114, 97, 99, 123, 97, 125, 123, 98, 92, 123, 125, 94, 123, 50, 125]⟩, .int .i64 0]) ∧ Below W.heap.size W w' := by
  have h0 := text_all 2 (by decide) [xS] _ W hT (shown_read W b1 b2 b3 b4 b h.h1 h.h2 h.h3 h.h4 hb) wt_xS
  rw [text_xS] at h0
  exact h0
theorem SB.count {b1 b2 b3 b4 : Nat} {W : World} (h : SB b1 b2 b3 b4 W) :
    Calls Tryd.prog 7 #[.slice (some ⟨W.heap.size, 0, none⟩) 1 1] (W.alloc (Obj.cells #[.int .i64 2, .int .i64 0, .int .i64 0, .int .i64 1, .int .i64 0, .slice (some ⟨b3, 0, none⟩) 2 2, .slice none 0 0, .bool true, .bool false, .slice (some ⟨b4, 0, none⟩) 1 1, .slice none 0 0] 33)) fun e w' => e = .returned (.int .i64 5) ∧ Below W.heap.size W w' := by
  have hB : Below W.heap.size W (W.alloc (Obj.cells #[.int .i64 2, .int .i64 0, .int .i64 0, .int .i64 1, .int .i64 0, .slice (some ⟨b3, 0, none⟩) 2 2, .slice none 0 0, .bool true, .bool false, .slice (some ⟨b4, 0, none⟩) 1 1, .slice none 0 0] 33)) := (Below.refl _ W).alloc (Nat.le_refl _) _
  have h' := h.below hB
  have h0 := scount_all 2 [xS] _ _ (shown_read _ b1 b2 b3 b4 W.heap.size h'.h1 h'.h2 h'.h3 h'.h4 (heap_alloc_new W _)) wt_xS
  rw [count_xS] at h0
  exact h0.mono fun e w' h => ⟨h.1, hB.trans (h.2.mono hB.size)⟩
theorem SB.check {b1 b2 b3 b4 : Nat} {W : World} (h : SB b1 b2 b3 b4 W) (hT : LexTabs W) :
    Calls Tryd.prog 10 #[.slice (some ⟨W.heap.size, 0, none⟩) 1 1] (W.alloc (Obj.cells #[.int .i64 2, .int .i64 0, .int .i64 0, .int .i64 1, .int .i64 0, .slice (some ⟨b3, 0, none⟩) 2 2, .slice none 0 0, .bool true, .bool false, .slice (some ⟨b4, 0, none⟩) 1 1, .slice none 0 0] 33)) fun e w' => e = .returned (.int .i64 0) ∧ Below W.heap.size W w' := by
  have hB : Below W.heap.size W (W.alloc (Obj.cells #[.int .i64 2, .int .i64 0, .int .i64 0, .int .i64 1, .int .i64 0, .slice (some ⟨b3, 0, none⟩) 2 2, .slice none 0 0, .bool true, .bool false, .slice (some ⟨b4, 0, none⟩) 1 1, .slice none 0 0] 33)) := (Below.refl _ W).alloc (Nat.le_refl _) _
  have h' := h.below hB
  have h0 := check_calls 2 (by decide) [xS] _ _ (hT.below hB) (shown_read _ b1 b2 b3 b4 W.heap.size h'.h1 h'.h2 h'.h3 h'.h4 (heap_alloc_new W _)) wt_xS
  rw [chk_xS] at h0
  exact h0.mono fun e w' h => ⟨h.1, hB.trans (h.2.mono hB.size)⟩
theorem text_F (W : World) (hT : LexTabs W) :
    Calls Tryd.prog 6 #[.slice (some ⟨W.heap.size, 0, none⟩) 1 1] (W.alloc (Obj.cells #[.int .i64 2, .int .i64 0, .int .i64 0, .int .i64 0, .int .i64 0, .slice none 0 0, .slice none 0 0, .bool false, .bool false, .slice none 0 0, .slice none 0 0] 33)) fun e w' => e = .returned (.tuple #[.string ⟨#[]⟩, .int .i64 5]) ∧ Below W.heap.size W w' := by
  have hB : Below W.heap.size W (W.alloc (Obj.cells #[.int .i64 2, .int .i64 0, .int .i64 0, .int .i64 0, .int .i64 0, .slice none 0 0, .slice none 0 0, .bool false, .bool false, .slice none 0 0, .slice none 0 0] 33)) := (Below.refl _ W).alloc (Nat.le_refl _) _
  have hr : rdL 1 (W.alloc (Obj.cells #[.int .i64 2, .int .i64 0, .int .i64 0, .int .i64 0, .int .i64 0, .slice none 0 0, .slice none 0 0, .bool false, .bool false, .slice none 0 0, .slice none 0 0] 33)) (.slice (some ⟨W.heap.size, 0, none⟩) 1 1) [xF] := one_read (rdN 1) _ _ [.int .i64 2, .int .i64 0, .int .i64 0, .int .i64 0, .int .i64 0, .slice none 0 0, .slice none 0 0, .bool false, .bool false, .slice none 0 0, .slice none 0 0] xF rfl
    ⟨inI_small _ (by decide), inI_small _ (by decide), inI_small _ (by decide), inI_small _ (by decide), inI_small _ (by decide), _, _, _, _, rfl, rd_nil _ _ _, rd_nil _ _ _, rd_nil _ _ _, rd_nil _ _ _⟩ (heap_alloc_new W _)
  have h0 := text_all 1 (by decide) [xF] _ _ (hT.below hB) hr wt_xF
  rw [text_xF] at h0
  exact h0.mono fun e w' h => ⟨h.1, hB.trans (h.2.mono hB.size)⟩
set_option maxRecDepth 100000 in
set_option maxHeartbeats 1000000 in
theorem shown_calls (w : World) (hT : LexTabs w) : Calls Tryd.prog 8 #[] w fun e w' => e = .returned (.bool true) ∧ Below w.heap.size w w' := by
  have H97 := Lib.hid fun w => char_calls 97 w
  have H98 := Lib.hid fun w => char_calls 98 w
  have H123 := Lib.hid fun w => char_calls 123 w
  have H50 := Lib.hid fun w => char_calls 50 w
  go_enter Tryd.func8, Tryd.ntmps8
  go_wp2_with (first | (go_at_call 15; with_reducible refine (H97.out _).mono ?_; rintro e w1 ⟨rfl, hb1⟩; have HB1 := Lib.hid hb1; clear hb1) | (go_at_call 15; with_reducible refine (H98.out _).mono ?_; rintro e w2 ⟨rfl, hb2⟩; have HB2 := Lib.hid hb2; clear hb2) | (go_at_call 15; with_reducible refine (H123.out _).mono ?_; rintro e w3 ⟨rfl, hb3⟩; have HB3 := Lib.hid hb3; clear hb3) | (go_at_call 15; with_reducible refine (H50.out _).mono ?_; rintro e w4 ⟨rfl, hb4⟩; have HB4 := Lib.hid hb4; clear hb4))
  have hA2 : w2.heap[w1.heap.size]? = some (Obj.cells #[.int .i64 0, .int .i64 (clsR 97), .int .i64 97, .int .i64 0, .int .i64 0, .slice none 0 0, .slice none 0 0, .bool false, .bool false, .slice none 0 0, .slice none 0 0] 33) := (HB2.out.block _ (by simp)).trans (heap_alloc_new w1 _)
  have hA3 := (HB3.out.block _ (blk_lt hA2)).trans hA2
  have hw34 : Below w3.heap.size w3 ((w3.alloc (Obj.cells #[.int .i64 0, .int .i64 (clsR 98), .int .i64 98, .int .i64 0, .int .i64 0, .slice none 0 0, .slice none 0 0, .bool false, .bool false, .slice none 0 0, .slice none 0 0, .int .i64 0, .int .i64 (clsR 123), .int .i64 123, .int .i64 0, .int .i64 0, .slice none 0 0, .slice none 0 0, .bool false, .bool false, .slice none 0 0, .slice none 0 0] 33)).alloc (Obj.cells #[.slice (some ⟨w1.heap.size, 0, none⟩) 1 1, .slice (some ⟨w3.heap.size, 0, none⟩) 2 2] 22)) := ((Below.refl _ w3).alloc (Nat.le_refl _) _).alloc (by simp) _
  have h34 : Below w3.heap.size w3 w4 := hw34.trans (HB4.out.mono hw34.size)
  have hA4 := (h34.block _ (blk_lt hA3)).trans hA3
  have hB4 : w4.heap[w3.heap.size]? = some (Obj.cells #[.int .i64 0, .int .i64 (clsR 98), .int .i64 98, .int .i64 0, .int .i64 0, .slice none 0 0, .slice none 0 0, .bool false, .bool false, .slice none 0 0, .slice none 0 0, .int .i64 0, .int .i64 (clsR 123), .int .i64 123, .int .i64 0, .int .i64 0, .slice none 0 0, .slice none 0 0, .bool false, .bool false, .slice none 0 0, .slice none 0 0] 33) := (HB4.out.block _ (by simp; omega)).trans ((Lib.alloc_old _ _ _ (by simp)).trans (heap_alloc_new w3 _))
  have hP4 : w4.heap[w3.heap.size + 1]? = some (Obj.cells #[.slice (some ⟨w1.heap.size, 0, none⟩) 1 1, .slice (some ⟨w3.heap.size, 0, none⟩) 2 2] 22) := (HB4.out.block _ (by simp)).trans (by have := heap_alloc_new (w3.alloc (Obj.cells #[.int .i64 0, .int .i64 (clsR 98), .int .i64 98, .int .i64 0, .int .i64 0, .slice none 0 0, .slice none 0 0, .bool false, .bool false, .slice none 0 0, .slice none 0 0, .int .i64 0, .int .i64 (clsR 123), .int .i64 123, .int .i64 0, .int .i64 0, .slice none 0 0, .slice none 0 0, .bool false, .bool false, .slice none 0 0, .slice none 0 0] 33)) (Obj.cells #[.slice (some ⟨w1.heap.size, 0, none⟩) 1 1, .slice (some ⟨w3.heap.size, 0, none⟩) 2 2] 22); rw [show (w3.alloc (Obj.cells #[.int .i64 0, .int .i64 (clsR 98), .int .i64 98, .int .i64 0, .int .i64 0, .slice none 0 0, .slice none 0 0, .bool false, .bool false, .slice none 0 0, .slice none 0 0, .int .i64 0, .int .i64 (clsR 123), .int .i64 123, .int .i64 0, .int .i64 0, .slice none 0 0, .slice none 0 0, .bool false, .bool false, .slice none 0 0, .slice none 0 0] 33)).heap.size = w3.heap.size + 1 by simp] at this; exact this)
  obtain ⟨t1, t2, t3, t4, t5⟩ := CH.three w4 (Obj.cells #[.int .i64 0, .int .i64 (clsR 50), .int .i64 50, .int .i64 0, .int .i64 0, .slice none 0 0, .slice none 0 0, .bool false, .bool false, .slice none 0 0, .slice none 0 0] 33) (Obj.cells #[.int .i64 2, .int .i64 0, .int .i64 0, .int .i64 1, .int .i64 0, .slice (some ⟨w3.heap.size + 1, 0, none⟩) 2 2, .slice none 0 0, .bool true, .bool false, .slice (some ⟨w4.heap.size, 0, none⟩) 1 1, .slice none 0 0] 33) (Obj.cells #[.int .i64 2, .int .i64 0, .int .i64 0, .int .i64 1, .int .i64 0, .slice (some ⟨w3.heap.size + 1, 0, none⟩) 2 2, .slice none 0 0, .bool true, .bool false, .slice (some ⟨w4.heap.size, 0, none⟩) 1 1, .slice none 0 0] 33)
  have hw2 : Below w.heap.size w w2 := HB1.out.trans ((((Below.refl _ w1).alloc (Nat.le_refl _) _).trans (HB2.out.mono (by simp))).mono HB1.out.size)
  have hw4 : Below w.heap.size w w4 := (hw2.trans (HB3.out.mono hw2.size)).trans (h34.mono (Nat.le_trans hw2.size HB3.out.size))
  have hw5 := hw4.trans (t4.mono hw4.size)
  have hSB : SB w1.heap.size w3.heap.size (w3.heap.size + 1) w4.heap.size (((w4.alloc (Obj.cells #[.int .i64 0, .int .i64 (clsR 50), .int .i64 50, .int .i64 0, .int .i64 0, .slice none 0 0, .slice none 0 0, .bool false, .bool false, .slice none 0 0, .slice none 0 0] 33)).alloc (Obj.cells #[.int .i64 2, .int .i64 0, .int .i64 0, .int .i64 1, .int .i64 0, .slice (some ⟨w3.heap.size + 1, 0, none⟩) 2 2, .slice none 0 0, .bool true, .bool false, .slice (some ⟨w4.heap.size, 0, none⟩) 1 1, .slice none 0 0] 33)).alloc (Obj.cells #[.int .i64 2, .int .i64 0, .int .i64 0, .int .i64 1, .int .i64 0, .slice (some ⟨w3.heap.size + 1, 0, none⟩) 2 2, .slice none 0 0, .bool true, .bool false, .slice (some ⟨w4.heap.size, 0, none⟩) 1 1, .slice none 0 0] 33)) := ⟨(t4.block _ (blk_lt hA4)).trans hA4, (t4.block _ (blk_lt hB4)).trans hB4, (t4.block _ (blk_lt hP4)).trans hP4, t1⟩
  clear hA2 hA3 hw34 h34 hA4 hB4 hP4 t1 t4 t5 hw2 hw4 H97 H98 H123 H50
  generalize w1.heap.size = b1 at *
  generalize w3.heap.size = b2 at *
  generalize b2 + 1 = b3 at *
  generalize ((w4.alloc (Obj.cells #[.int .i64 0, .int .i64 (clsR 50), .int .i64 50, .int .i64 0, .int .i64 0, .slice none 0 0, .slice none 0 0, .bool false, .bool false, .slice none 0 0, .slice none 0 0] 33)).alloc (Obj.cells #[.int .i64 2, .int .i64 0, .int .i64 0, .int .i64 1, .int .i64 0, .slice (some ⟨w3.heap.size + 1, 0, none⟩) 2 2, .slice none 0 0, .bool true, .bool false, .slice (some ⟨w4.heap.size, 0, none⟩) 1 1, .slice none 0 0] 33)).alloc (Obj.cells #[.int .i64 2, .int .i64 0, .int .i64 0, .int .i64 1, .int .i64 0, .slice (some ⟨w3.heap.size + 1, 0, none⟩) 2 2, .slice none 0 0, .bool true, .bool false, .slice (some ⟨w4.heap.size, 0, none⟩) 1 1, .slice none 0 0] 33) = W5 at *
  generalize w4.heap.size = b4 at *
  have HSB := Lib.hid hSB
  have HTW := Lib.hid hT
  have HW5 := Lib.hid hw5
  have HX := Lib.hid t2
  have HTx := Lib.hid (hSB.text (b4 + 1 + 1) (hT.below hw5) t3)
  clear hSB hT hw5 t2 t3 HB1 HB2 HB3 HB4
  go_wp2_with (first | (go_at_call 6; with_reducible refine (HTx.out).mono ?_; rintro e w6 ⟨rfl, hb6⟩; have HB6 := Lib.hid (HW5.out.trans (hb6.mono HW5.out.size)); have HX6 := Lib.hid ((hb6.block _ (blk_lt HX.out)).trans HX.out); have HS6 := Lib.hid (HSB.out.below hb6); clear hb6) | (go_at_call 6; with_reducible refine (text_F w6 (HTW.out.below HB6.out)).mono ?_; rintro e w7 ⟨rfl, hb7⟩; have HB7 := Lib.hid (HB6.out.trans (hb7.mono HB6.out.size)); have HX7 := Lib.hid ((hb7.block _ (blk_lt HX6.out)).trans HX6.out); have HS7 := Lib.hid (HS6.out.below hb7); clear hb7; have c0 := nad_cells HX7.out 0 _ rfl; have c1 := nad_cells HX7.out 1 _ rfl; have c2 := nad_cells HX7.out 2 _ rfl; have c3 := nad_cells HX7.out 3 _ rfl; have c4 := nad_cells HX7.out 4 _ rfl; have c5 := nad_cells HX7.out 5 _ rfl; have c6 := nad_cells HX7.out 6 _ rfl; have c7 := nad_cells HX7.out 7 _ rfl; have c8 := nad_cells HX7.out 8 _ rfl; have c9 := nad_cells HX7.out 9 _ rfl; have c10 := nad_cells HX7.out 10 _ rfl) | (go_at_call 7; with_reducible refine (HS7.out.count).mono ?_; clear c0 c1 c2 c3 c4 c5 c6 c7 c8 c9 c10; rintro e w8 ⟨rfl, hb8⟩; have HB8 := Lib.hid (HB7.out.trans (hb8.mono HB7.out.size)); have HX8 := Lib.hid ((hb8.block _ (blk_lt HX7.out)).trans HX7.out); have HS8 := Lib.hid (HS7.out.below hb8); clear hb8; have c0 := nad_cells HX8.out 0 _ rfl; have c1 := nad_cells HX8.out 1 _ rfl; have c2 := nad_cells HX8.out 2 _ rfl; have c3 := nad_cells HX8.out 3 _ rfl; have c4 := nad_cells HX8.out 4 _ rfl; have c5 := nad_cells HX8.out 5 _ rfl; have c6 := nad_cells HX8.out 6 _ rfl; have c7 := nad_cells HX8.out 7 _ rfl; have c8 := nad_cells HX8.out 8 _ rfl; have c9 := nad_cells HX8.out 9 _ rfl; have c10 := nad_cells HX8.out 10 _ rfl) | (go_at_call 10; with_reducible refine (HS8.out.check (HTW.out.below HB8.out)).mono ?_; clear c0 c1 c2 c3 c4 c5 c6 c7 c8 c9 c10; rintro e w9 ⟨rfl, hb9⟩; have HB9 := Lib.hid (HB8.out.trans (hb9.mono HB8.out.size)); clear hb9))
  go_ret
  exact ⟨rfl, HB9.out⟩
end Go.Proofs.YtaoepeiadhdbaaaDoor.ND
