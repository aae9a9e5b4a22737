/- ref19's next, walked: the token at a place. Condition: a place within a text of at most 10^9 bytes. -/
import Derived.Test.YtplkdfkahcpoeaaDoorLexNext
import Derived.Test.YtplkdfkahcpoeaaDoorLexOne
import Derived.Test.YtplkdfkahcpoeaaDoorPx3
import Derived.Test.YtplkdfkahcpoeaaDoorPx3
import Derived.Test.YtplkdfkahcpoeaaDoorPx3
namespace Go.Proofs.YtplkdfkahcpoeaaDoor.P
open Go.Shelf Go.RowKit Go.Proofs.YtplkdfkahcpoeaaDoorW.PrintWords Go.Proofs.YtplkdfkahcpoeaaDoorW.PrintLast Go.Proofs.YtplkdfkahcpoeaaDoorW.PrintMore
set_option linter.unusedVariables false
set_option linter.unusedSimpArgs false
set_option maxRecDepth 100000
def sigQ (v : Int) : Bool := (vinculumref19_Sign.f v).getD false
theorem sigQ_f (v : Int) : vinculumref19_Sign.f v = some (sigQ v) := by
  unfold sigQ vinculumref19_Sign.f
  split
  · rfl
  · split
    · rfl
    · split
      · rfl
      · split <;> rfl
def plnQ (v : Int) : Bool := (vinculumref19_Plain.f v).getD false
theorem plnQ_f (v : Int) : vinculumref19_Plain.f v = some (plnQ v) := by
  unfold plnQ vinculumref19_Plain.f
  rw [runeR_f, sigQ_f]
  simp only [Option.bind_some]
  cases runeR v
  · rfl
  · simp only [if_true]
    split
    · split
      · rfl
      · cases sigQ v
        · simp only [Bool.false_eq_true, if_false]
          split <;> rfl
        · rfl
    · rfl
def letQ (v : Int) : Bool := (vinculumref19_letter.f v).getD false
theorem letQ_f (v : Int) : vinculumref19_letter.f v = some (letQ v) := by
  unfold letQ vinculumref19_letter.f
  split
  · split
    · rfl
    · split <;> rfl
  · split <;> rfl
theorem sigQ_calls (v : Int) (w : World) : Calls Tryd.prog 29 #[.int .i64 v] w fun e w' => e = .returned (.bool (sigQ v)) ∧ Below w.heap.size w w' :=
  (vinculumref19_Sign.calls v _ w (sigQ_f v)).mono fun e w' ⟨he, hd⟩ => ⟨he, hd.below⟩
theorem plnQ_calls (v : Int) (w : World) : Calls Tryd.prog 14 #[.int .i64 v] w fun e w' => e = .returned (.bool (plnQ v)) ∧ Below w.heap.size w w' :=
  (vinculumref19_Plain.calls v _ w (plnQ_f v)).mono fun e w' ⟨he, hd⟩ => ⟨he, hd.below⟩
theorem letQ_calls (v : Int) (w : World) : Calls Tryd.prog 39 #[.int .u8 v] w fun e w' => e = .returned (.bool (letQ v)) ∧ Below w.heap.size w w' :=
  (vinculumref19_letter.calls v _ w (letQ_f v)).mono fun e w' ⟨he, hd⟩ => ⟨he, hd.below⟩
/-- A token at its place, where it ends, an error. -/
def TokR (k r : Int) (wd : ByteArray) (at_ to_ e : Int) : Ending := .returned (.tuple #[.agg #[.int .i64 k, .int .i64 r, .string wd, .int .i64 at_], .int .i64 to_, .int .i64 e])
set_option maxHeartbeats 8000000 in
theorem rn_plain (s : ByteArray) (A : Int) (h0 : 0 ≤ A) (h1 : A < (s.size : Int)) (hs : s.size ≤ 1000000000) (c n : Int) (h1c : oneR s A = (c, n)) (hn0 : 0 ≤ n) (hn1 : n ≤ 4) (hp : plnQ c = true) (w : World) : Calls Tryd.prog 23 #[.string s, .int .i64 A] w fun e w' => e = TokR 1 c ⟨#[]⟩ A (A + n) 0 ∧ Below w.heap.size w w' := by
  have HONE := Lib.hid (one_calls s A h0 (by omega) hs (c, n) h1c)
  have HPL := Lib.hid (plnQ_calls c)
  have HSG := Lib.hid (sigQ_calls c)
  rw [hp] at HPL
  have wr1 : IntKind.i64.wrap (A + n) = A + n := IntWalk.i64_in _ (by omega)
  clear h0 h1 hs hn0 hn1 hp
  clear h1c
  go_enter Tryd.func23, Tryd.ntmps23
  go_wp2_with fail
  refine (HONE.out _).mono ?_
  rintro e w1 ⟨rfl, hb⟩
  have HBX := Lib.hid hb
  clear hb
  go_wp2_with fail
  refine (HPL.out _).mono ?_
  rintro e w2 ⟨rfl, hb⟩
  have HBY := Lib.hid (HBX.out.trans (hb.mono HBX.out.size))
  clear HBX
  have HBX := HBY
  clear HBY
  clear hb
  have hblk := tok_block HBX.out
  have c0 : w2.cell? ⟨w.heap.size, 0, none⟩ = some (.int .i64 0) := Joins.cell_of_block hblk 0
  have f0 : w2.frozen? ⟨w.heap.size, 0, none⟩ = false := Joins.unfrozen_of_block hblk 0
  have c1 : w2.cell? ⟨w.heap.size, 1, none⟩ = some (.int .i64 0) := Joins.cell_of_block hblk 1
  have f1 : w2.frozen? ⟨w.heap.size, 1, none⟩ = false := Joins.unfrozen_of_block hblk 1
  have c2 : w2.cell? ⟨w.heap.size, 2, none⟩ = some (.string ⟨#[]⟩) := Joins.cell_of_block hblk 2
  have f2 : w2.frozen? ⟨w.heap.size, 2, none⟩ = false := Joins.unfrozen_of_block hblk 2
  have c3 : w2.cell? ⟨w.heap.size, 3, none⟩ = some (.int .i64 0) := Joins.cell_of_block hblk 3
  have f3 : w2.frozen? ⟨w.heap.size, 3, none⟩ = false := Joins.unfrozen_of_block hblk 3
  clear hblk
  go_wp2_with fail
  refine bodyPost_ret (v := .tuple #[.agg #[.int .i64 1, .int .i64 c, .string ⟨#[]⟩, .int .i64 A], .int .i64 (A + n), .int .i64 0]) (by simp [results, Tryd.results23, go_sem, c0, c1, c2, c3]) rfl ⟨rfl, ?_⟩
  exact ((((((Below.refl w.heap.size w).alloc (Nat.le_refl _) _).trans (HBX.out.mono (by simp))).setCell (Nat.le_refl _) _).setCell (Nat.le_refl _) _).setCell (Nat.le_refl _) _).setCell (Nat.le_refl _) _
set_option maxHeartbeats 8000000 in
theorem rn_sign (s : ByteArray) (A : Int) (h0 : 0 ≤ A) (h1 : A < (s.size : Int)) (hs : s.size ≤ 1000000000) (c n : Int) (h1c : oneR s A = (c, n)) (hn0 : 0 ≤ n) (hn1 : n ≤ 4) (hp : plnQ c = false) (hg : sigQ c = true) (w : World) : Calls Tryd.prog 23 #[.string s, .int .i64 A] w fun e w' => e = TokR 3 c ⟨#[]⟩ A (A + 1) 0 ∧ Below w.heap.size w w' := by
  have HONE := Lib.hid (one_calls s A h0 (by omega) hs (c, n) h1c)
  have HPL := Lib.hid (plnQ_calls c)
  have HSG := Lib.hid (sigQ_calls c)
  rw [hp] at HPL
  rw [hg] at HSG
  have wr1 : IntKind.i64.wrap (A + 1) = A + 1 := IntWalk.i64_in _ (by omega)
  clear h0 h1 hs hn0 hn1 hp hg
  clear h1c
  go_enter Tryd.func23, Tryd.ntmps23
  go_wp2_with fail
  refine (HONE.out _).mono ?_
  rintro e w1 ⟨rfl, hb⟩
  have HBX := Lib.hid hb
  clear hb
  go_wp2_with fail
  refine (HPL.out _).mono ?_
  rintro e w2 ⟨rfl, hb⟩
  have HBY := Lib.hid (HBX.out.trans (hb.mono HBX.out.size))
  clear HBX
  have HBX := HBY
  clear HBY
  clear hb
  go_wp2_with fail
  refine (HSG.out _).mono ?_
  rintro e w3 ⟨rfl, hb⟩
  have HBY := Lib.hid (HBX.out.trans (hb.mono HBX.out.size))
  clear HBX
  have HBX := HBY
  clear HBY
  clear hb
  have hblk := tok_block HBX.out
  have c0 : w3.cell? ⟨w.heap.size, 0, none⟩ = some (.int .i64 0) := Joins.cell_of_block hblk 0
  have f0 : w3.frozen? ⟨w.heap.size, 0, none⟩ = false := Joins.unfrozen_of_block hblk 0
  have c1 : w3.cell? ⟨w.heap.size, 1, none⟩ = some (.int .i64 0) := Joins.cell_of_block hblk 1
  have f1 : w3.frozen? ⟨w.heap.size, 1, none⟩ = false := Joins.unfrozen_of_block hblk 1
  have c2 : w3.cell? ⟨w.heap.size, 2, none⟩ = some (.string ⟨#[]⟩) := Joins.cell_of_block hblk 2
  have f2 : w3.frozen? ⟨w.heap.size, 2, none⟩ = false := Joins.unfrozen_of_block hblk 2
  have c3 : w3.cell? ⟨w.heap.size, 3, none⟩ = some (.int .i64 0) := Joins.cell_of_block hblk 3
  have f3 : w3.frozen? ⟨w.heap.size, 3, none⟩ = false := Joins.unfrozen_of_block hblk 3
  clear hblk
  go_wp2_with fail
  refine bodyPost_ret (v := .tuple #[.agg #[.int .i64 3, .int .i64 c, .string ⟨#[]⟩, .int .i64 A], .int .i64 (A + 1), .int .i64 0]) (by simp [results, Tryd.results23, go_sem, c0, c1, c2, c3]) rfl ⟨rfl, ?_⟩
  exact ((((((Below.refl w.heap.size w).alloc (Nat.le_refl _) _).trans (HBX.out.mono (by simp))).setCell (Nat.le_refl _) _).setCell (Nat.le_refl _) _).setCell (Nat.le_refl _) _).setCell (Nat.le_refl _) _
set_option maxHeartbeats 8000000 in
theorem rn_no (s : ByteArray) (A : Int) (h0 : 0 ≤ A) (h1 : A < (s.size : Int)) (hs : s.size ≤ 1000000000) (c n : Int) (h1c : oneR s A = (c, n)) (hn0 : 0 ≤ n) (hn1 : n ≤ 4) (hp : plnQ c = false) (hg : sigQ c = false) (hx : c ≠ 92 ∨ (s.size : Int) ≤ A + 1) (w : World) : Calls Tryd.prog 23 #[.string s, .int .i64 A] w fun e w' => e = TokR 0 0 ⟨#[]⟩ 0 A 5 ∧ Below w.heap.size w w' := by
  have HONE := Lib.hid (one_calls s A h0 (by omega) hs (c, n) h1c)
  have HPL := Lib.hid (plnQ_calls c)
  have HSG := Lib.hid (sigQ_calls c)
  rw [hp] at HPL
  rw [hg] at HSG
  have wr1 : IntKind.i64.wrap (A + 1) = A + 1 := IntWalk.i64_in _ (by omega)
  have key : (c != 92) = true ∨ ((c != 92) = false ∧ decide ((s.size : Int) ≤ A + 1) = true) := by
    by_cases h : c = 92
    · exact .inr ⟨bne_eq_false_iff_eq.mpr h, decide_eq_true (by rcases hx with h2 | h2; exact absurd h h2; exact h2)⟩
    · exact .inl (bne_iff_ne.mpr h)
  clear h0 h1 hs hn0 hn1 hp hg hx
  clear h1c
  rcases key with e1 | ⟨e1, e2⟩
  · go_enter Tryd.func23, Tryd.ntmps23
    go_wp2_with fail
    refine (HONE.out _).mono ?_
    rintro e w1 ⟨rfl, hb⟩
    have HBX := Lib.hid hb
    clear hb
    go_wp2_with fail
    refine (HPL.out _).mono ?_
    rintro e w2 ⟨rfl, hb⟩
    have HBY := Lib.hid (HBX.out.trans (hb.mono HBX.out.size))
    clear HBX
    have HBX := HBY
    clear HBY
    clear hb
    go_wp2_with fail
    refine (HSG.out _).mono ?_
    rintro e w3 ⟨rfl, hb⟩
    have HBY := Lib.hid (HBX.out.trans (hb.mono HBX.out.size))
    clear HBX
    have HBX := HBY
    clear HBY
    clear hb
    have hblk := tok_block HBX.out
    have c0 : w3.cell? ⟨w.heap.size, 0, none⟩ = some (.int .i64 0) := Joins.cell_of_block hblk 0
    have f0 : w3.frozen? ⟨w.heap.size, 0, none⟩ = false := Joins.unfrozen_of_block hblk 0
    have c1 : w3.cell? ⟨w.heap.size, 1, none⟩ = some (.int .i64 0) := Joins.cell_of_block hblk 1
    have f1 : w3.frozen? ⟨w.heap.size, 1, none⟩ = false := Joins.unfrozen_of_block hblk 1
    have c2 : w3.cell? ⟨w.heap.size, 2, none⟩ = some (.string ⟨#[]⟩) := Joins.cell_of_block hblk 2
    have f2 : w3.frozen? ⟨w.heap.size, 2, none⟩ = false := Joins.unfrozen_of_block hblk 2
    have c3 : w3.cell? ⟨w.heap.size, 3, none⟩ = some (.int .i64 0) := Joins.cell_of_block hblk 3
    have f3 : w3.frozen? ⟨w.heap.size, 3, none⟩ = false := Joins.unfrozen_of_block hblk 3
    clear hblk
    go_wp2_with fail
    refine bodyPost_ret (v := .tuple #[.agg #[.int .i64 0, .int .i64 0, .string ⟨#[]⟩, .int .i64 0], .int .i64 A, .int .i64 5]) (by simp [results, Tryd.results23, go_sem, c0, c1, c2, c3]) rfl ⟨rfl, ?_⟩
    exact ((((((Below.refl w.heap.size w).alloc (Nat.le_refl _) _).trans (HBX.out.mono (by simp))).setCell (Nat.le_refl _) _).setCell (Nat.le_refl _) _).setCell (Nat.le_refl _) _).setCell (Nat.le_refl _) _
  · go_enter Tryd.func23, Tryd.ntmps23
    go_wp2_with fail
    refine (HONE.out _).mono ?_
    rintro e w1 ⟨rfl, hb⟩
    have HBX := Lib.hid hb
    clear hb
    go_wp2_with fail
    refine (HPL.out _).mono ?_
    rintro e w2 ⟨rfl, hb⟩
    have HBY := Lib.hid (HBX.out.trans (hb.mono HBX.out.size))
    clear HBX
    have HBX := HBY
    clear HBY
    clear hb
    go_wp2_with fail
    refine (HSG.out _).mono ?_
    rintro e w3 ⟨rfl, hb⟩
    have HBY := Lib.hid (HBX.out.trans (hb.mono HBX.out.size))
    clear HBX
    have HBX := HBY
    clear HBY
    clear hb
    have hblk := tok_block HBX.out
    have c0 : w3.cell? ⟨w.heap.size, 0, none⟩ = some (.int .i64 0) := Joins.cell_of_block hblk 0
    have f0 : w3.frozen? ⟨w.heap.size, 0, none⟩ = false := Joins.unfrozen_of_block hblk 0
    have c1 : w3.cell? ⟨w.heap.size, 1, none⟩ = some (.int .i64 0) := Joins.cell_of_block hblk 1
    have f1 : w3.frozen? ⟨w.heap.size, 1, none⟩ = false := Joins.unfrozen_of_block hblk 1
    have c2 : w3.cell? ⟨w.heap.size, 2, none⟩ = some (.string ⟨#[]⟩) := Joins.cell_of_block hblk 2
    have f2 : w3.frozen? ⟨w.heap.size, 2, none⟩ = false := Joins.unfrozen_of_block hblk 2
    have c3 : w3.cell? ⟨w.heap.size, 3, none⟩ = some (.int .i64 0) := Joins.cell_of_block hblk 3
    have f3 : w3.frozen? ⟨w.heap.size, 3, none⟩ = false := Joins.unfrozen_of_block hblk 3
    clear hblk
    go_wp2_with fail
    refine bodyPost_ret (v := .tuple #[.agg #[.int .i64 0, .int .i64 0, .string ⟨#[]⟩, .int .i64 0], .int .i64 A, .int .i64 5]) (by simp [results, Tryd.results23, go_sem, c0, c1, c2, c3]) rfl ⟨rfl, ?_⟩
    exact ((((((Below.refl w.heap.size w).alloc (Nat.le_refl _) _).trans (HBX.out.mono (by simp))).setCell (Nat.le_refl _) _).setCell (Nat.le_refl _) _).setCell (Nat.le_refl _) _).setCell (Nat.le_refl _) _
set_option maxHeartbeats 8000000 in
theorem rn_row (s : ByteArray) (A : Int) (h0 : 0 ≤ A) (h1 : A < (s.size : Int)) (hs : s.size ≤ 1000000000) (c n : Int) (h1c : oneR s A = (c, n)) (hn0 : 0 ≤ n) (hn1 : n ≤ 4) (hp : plnQ c = false) (hg : sigQ c = false) (hc : c = 92) (h2 : A + 1 < (s.size : Int)) (d : Int) (hd : bt s (A + 1) = d) (h92 : d = 92) (w : World) : Calls Tryd.prog 23 #[.string s, .int .i64 A] w fun e w' => e = TokR 4 0 ⟨#[]⟩ A (A + 2) 0 ∧ Below w.heap.size w w' := by
  have HONE := Lib.hid (one_calls s A h0 (by omega) hs (c, n) h1c)
  have HPL := Lib.hid (plnQ_calls c)
  have HSG := Lib.hid (sigQ_calls c)
  rw [hp] at HPL
  rw [hg] at HSG
  have wr1 : IntKind.i64.wrap (A + 1) = A + 1 := IntWalk.i64_in _ (by omega)
  have wr2 : IntKind.i64.wrap (A + 2) = A + 2 := IntWalk.i64_in _ (by omega)
  have e1 : (c != 92) = false := bne_eq_false_iff_eq.mpr hc
  have e2 : decide ((s.size : Int) ≤ A + 1) = false := decide_eq_false (by omega)
  have g1 := eq_true (show 0 ≤ A + 1 by omega)
  have g2 := eq_true h2
  have hx := bt_at s (A + 1)
  have hr := bt_range s (A + 1)
  rw [hd] at hx hr
  have wr3 : IntKind.i64.wrap d = d := IntWalk.i64_in _ (by omega)
  have HSD := Lib.hid (sigQ_calls d)
  subst h92
  clear h0 h1 hs hn0 hn1 hp hg hc h2 hd hr
  clear h1c
  go_enter Tryd.func23, Tryd.ntmps23
  go_wp2_with fail
  refine (HONE.out _).mono ?_
  rintro e w1 ⟨rfl, hb⟩
  have HBX := Lib.hid hb
  clear hb
  go_wp2_with fail
  refine (HPL.out _).mono ?_
  rintro e w2 ⟨rfl, hb⟩
  have HBY := Lib.hid (HBX.out.trans (hb.mono HBX.out.size))
  clear HBX
  have HBX := HBY
  clear HBY
  clear hb
  go_wp2_with fail
  refine (HSG.out _).mono ?_
  rintro e w3 ⟨rfl, hb⟩
  have HBY := Lib.hid (HBX.out.trans (hb.mono HBX.out.size))
  clear HBX
  have HBX := HBY
  clear HBY
  clear hb
  have hblk := tok_block HBX.out
  have c0 : w3.cell? ⟨w.heap.size, 0, none⟩ = some (.int .i64 0) := Joins.cell_of_block hblk 0
  have f0 : w3.frozen? ⟨w.heap.size, 0, none⟩ = false := Joins.unfrozen_of_block hblk 0
  have c1 : w3.cell? ⟨w.heap.size, 1, none⟩ = some (.int .i64 0) := Joins.cell_of_block hblk 1
  have f1 : w3.frozen? ⟨w.heap.size, 1, none⟩ = false := Joins.unfrozen_of_block hblk 1
  have c2 : w3.cell? ⟨w.heap.size, 2, none⟩ = some (.string ⟨#[]⟩) := Joins.cell_of_block hblk 2
  have f2 : w3.frozen? ⟨w.heap.size, 2, none⟩ = false := Joins.unfrozen_of_block hblk 2
  have c3 : w3.cell? ⟨w.heap.size, 3, none⟩ = some (.int .i64 0) := Joins.cell_of_block hblk 3
  have f3 : w3.frozen? ⟨w.heap.size, 3, none⟩ = false := Joins.unfrozen_of_block hblk 3
  clear hblk
  go_wp2_with fail
  refine bodyPost_ret (v := .tuple #[.agg #[.int .i64 4, .int .i64 0, .string ⟨#[]⟩, .int .i64 A], .int .i64 (A + 2), .int .i64 0]) (by simp [results, Tryd.results23, go_sem, c0, c1, c2, c3]) rfl ⟨rfl, ?_⟩
  exact ((((((Below.refl w.heap.size w).alloc (Nat.le_refl _) _).trans (HBX.out.mono (by simp))).setCell (Nat.le_refl _) _).setCell (Nat.le_refl _) _).setCell (Nat.le_refl _) _).setCell (Nat.le_refl _) _
set_option maxHeartbeats 8000000 in
theorem rn_bent (s : ByteArray) (A : Int) (h0 : 0 ≤ A) (h1 : A < (s.size : Int)) (hs : s.size ≤ 1000000000) (c n : Int) (h1c : oneR s A = (c, n)) (hn0 : 0 ≤ n) (hn1 : n ≤ 4) (hp : plnQ c = false) (hg : sigQ c = false) (hc : c = 92) (h2 : A + 1 < (s.size : Int)) (d : Int) (hd : bt s (A + 1) = d) (h92 : d ≠ 92) (hsd : sigQ d = true ∨ d = 37) (w : World) : Calls Tryd.prog 23 #[.string s, .int .i64 A] w fun e w' => e = TokR 1 d ⟨#[]⟩ A (A + 2) 0 ∧ Below w.heap.size w w' := by
  have HONE := Lib.hid (one_calls s A h0 (by omega) hs (c, n) h1c)
  have HPL := Lib.hid (plnQ_calls c)
  have HSG := Lib.hid (sigQ_calls c)
  rw [hp] at HPL
  rw [hg] at HSG
  have wr1 : IntKind.i64.wrap (A + 1) = A + 1 := IntWalk.i64_in _ (by omega)
  have wr2 : IntKind.i64.wrap (A + 2) = A + 2 := IntWalk.i64_in _ (by omega)
  have e1 : (c != 92) = false := bne_eq_false_iff_eq.mpr hc
  have e2 : decide ((s.size : Int) ≤ A + 1) = false := decide_eq_false (by omega)
  have g1 := eq_true (show 0 ≤ A + 1 by omega)
  have g2 := eq_true h2
  have hx := bt_at s (A + 1)
  have hr := bt_range s (A + 1)
  rw [hd] at hx hr
  have wr3 : IntKind.i64.wrap d = d := IntWalk.i64_in _ (by omega)
  have HSD := Lib.hid (sigQ_calls d)
  have e3 : (d == 92) = false := beq_eq_false_iff_ne.mpr h92
  have key : sigQ d = true ∨ (sigQ d = false ∧ (d == 37) = true) := by
    cases h : sigQ d with
    | true => exact .inl rfl
    | false => exact .inr ⟨rfl, beq_iff_eq.mpr (by rcases hsd with h3 | h3; rw [h] at h3; cases h3; exact h3)⟩
  clear h0 h1 hs hn0 hn1 hp hg hc h2 hd hr h92 hsd
  clear h1c
  rcases key with e4 | ⟨e4, e5⟩
  · rw [e4] at HSD
    clear e4
    go_enter Tryd.func23, Tryd.ntmps23
    go_wp2_with fail
    refine (HONE.out _).mono ?_
    rintro e w1 ⟨rfl, hb⟩
    have HBX := Lib.hid hb
    clear hb
    go_wp2_with fail
    refine (HPL.out _).mono ?_
    rintro e w2 ⟨rfl, hb⟩
    have HBY := Lib.hid (HBX.out.trans (hb.mono HBX.out.size))
    clear HBX
    have HBX := HBY
    clear HBY
    clear hb
    go_wp2_with fail
    refine (HSG.out _).mono ?_
    rintro e w3 ⟨rfl, hb⟩
    have HBY := Lib.hid (HBX.out.trans (hb.mono HBX.out.size))
    clear HBX
    have HBX := HBY
    clear HBY
    clear hb
    go_wp2_with fail
    refine (HSD.out _).mono ?_
    rintro e w4 ⟨rfl, hb⟩
    have HBY := Lib.hid (HBX.out.trans (hb.mono HBX.out.size))
    clear HBX
    have HBX := HBY
    clear HBY
    clear hb
    have hblk := tok_block HBX.out
    have c0 : w4.cell? ⟨w.heap.size, 0, none⟩ = some (.int .i64 0) := Joins.cell_of_block hblk 0
    have f0 : w4.frozen? ⟨w.heap.size, 0, none⟩ = false := Joins.unfrozen_of_block hblk 0
    have c1 : w4.cell? ⟨w.heap.size, 1, none⟩ = some (.int .i64 0) := Joins.cell_of_block hblk 1
    have f1 : w4.frozen? ⟨w.heap.size, 1, none⟩ = false := Joins.unfrozen_of_block hblk 1
    have c2 : w4.cell? ⟨w.heap.size, 2, none⟩ = some (.string ⟨#[]⟩) := Joins.cell_of_block hblk 2
    have f2 : w4.frozen? ⟨w.heap.size, 2, none⟩ = false := Joins.unfrozen_of_block hblk 2
    have c3 : w4.cell? ⟨w.heap.size, 3, none⟩ = some (.int .i64 0) := Joins.cell_of_block hblk 3
    have f3 : w4.frozen? ⟨w.heap.size, 3, none⟩ = false := Joins.unfrozen_of_block hblk 3
    clear hblk
    go_wp2_with fail
    refine bodyPost_ret (v := .tuple #[.agg #[.int .i64 1, .int .i64 d, .string ⟨#[]⟩, .int .i64 A], .int .i64 (A + 2), .int .i64 0]) (by simp [results, Tryd.results23, go_sem, c0, c1, c2, c3]) rfl ⟨rfl, ?_⟩
    exact ((((((Below.refl w.heap.size w).alloc (Nat.le_refl _) _).trans (HBX.out.mono (by simp))).setCell (Nat.le_refl _) _).setCell (Nat.le_refl _) _).setCell (Nat.le_refl _) _).setCell (Nat.le_refl _) _
  · rw [e4] at HSD
    clear e4
    go_enter Tryd.func23, Tryd.ntmps23
    go_wp2_with fail
    refine (HONE.out _).mono ?_
    rintro e w1 ⟨rfl, hb⟩
    have HBX := Lib.hid hb
    clear hb
    go_wp2_with fail
    refine (HPL.out _).mono ?_
    rintro e w2 ⟨rfl, hb⟩
    have HBY := Lib.hid (HBX.out.trans (hb.mono HBX.out.size))
    clear HBX
    have HBX := HBY
    clear HBY
    clear hb
    go_wp2_with fail
    refine (HSG.out _).mono ?_
    rintro e w3 ⟨rfl, hb⟩
    have HBY := Lib.hid (HBX.out.trans (hb.mono HBX.out.size))
    clear HBX
    have HBX := HBY
    clear HBY
    clear hb
    go_wp2_with fail
    refine (HSD.out _).mono ?_
    rintro e w4 ⟨rfl, hb⟩
    have HBY := Lib.hid (HBX.out.trans (hb.mono HBX.out.size))
    clear HBX
    have HBX := HBY
    clear HBY
    clear hb
    have hblk := tok_block HBX.out
    have c0 : w4.cell? ⟨w.heap.size, 0, none⟩ = some (.int .i64 0) := Joins.cell_of_block hblk 0
    have f0 : w4.frozen? ⟨w.heap.size, 0, none⟩ = false := Joins.unfrozen_of_block hblk 0
    have c1 : w4.cell? ⟨w.heap.size, 1, none⟩ = some (.int .i64 0) := Joins.cell_of_block hblk 1
    have f1 : w4.frozen? ⟨w.heap.size, 1, none⟩ = false := Joins.unfrozen_of_block hblk 1
    have c2 : w4.cell? ⟨w.heap.size, 2, none⟩ = some (.string ⟨#[]⟩) := Joins.cell_of_block hblk 2
    have f2 : w4.frozen? ⟨w.heap.size, 2, none⟩ = false := Joins.unfrozen_of_block hblk 2
    have c3 : w4.cell? ⟨w.heap.size, 3, none⟩ = some (.int .i64 0) := Joins.cell_of_block hblk 3
    have f3 : w4.frozen? ⟨w.heap.size, 3, none⟩ = false := Joins.unfrozen_of_block hblk 3
    clear hblk
    go_wp2_with fail
    refine bodyPost_ret (v := .tuple #[.agg #[.int .i64 1, .int .i64 d, .string ⟨#[]⟩, .int .i64 A], .int .i64 (A + 2), .int .i64 0]) (by simp [results, Tryd.results23, go_sem, c0, c1, c2, c3]) rfl ⟨rfl, ?_⟩
    exact ((((((Below.refl w.heap.size w).alloc (Nat.le_refl _) _).trans (HBX.out.mono (by simp))).setCell (Nat.le_refl _) _).setCell (Nat.le_refl _) _).setCell (Nat.le_refl _) _).setCell (Nat.le_refl _) _
set_option maxHeartbeats 8000000 in
theorem rn_none (s : ByteArray) (A : Int) (h0 : 0 ≤ A) (h1 : A < (s.size : Int)) (hs : s.size ≤ 1000000000) (c n : Int) (h1c : oneR s A = (c, n)) (hn0 : 0 ≤ n) (hn1 : n ≤ 4) (hp : plnQ c = false) (hg : sigQ c = false) (hc : c = 92) (h2 : A + 1 < (s.size : Int)) (d : Int) (hd : bt s (A + 1) = d) (h92 : d ≠ 92) (hsd : sigQ d = false) (h37 : d ≠ 37) (T : Int) (ht0 : A + 1 ≤ T) (ht1 : T ≤ (s.size : Int)) (hl : ∀ j : Int, A + 1 ≤ j → j < T → letQ (bt s j) = true) (hle : T < (s.size : Int) → letQ (bt s T) = false) (hT : T = A + 1) (w : World) : Calls Tryd.prog 23 #[.string s, .int .i64 A] w fun e w' => e = TokR 0 0 ⟨#[]⟩ 0 A 5 ∧ Below w.heap.size w w' := by
  have HONE := Lib.hid (one_calls s A h0 (by omega) hs (c, n) h1c)
  have HPL := Lib.hid (plnQ_calls c)
  have HSG := Lib.hid (sigQ_calls c)
  rw [hp] at HPL
  rw [hg] at HSG
  have wr1 : IntKind.i64.wrap (A + 1) = A + 1 := IntWalk.i64_in _ (by omega)
  have wr2 : IntKind.i64.wrap (A + 2) = A + 2 := IntWalk.i64_in _ (by omega)
  have e1 : (c != 92) = false := bne_eq_false_iff_eq.mpr hc
  have e2 : decide ((s.size : Int) ≤ A + 1) = false := decide_eq_false (by omega)
  have g1 := eq_true (show 0 ≤ A + 1 by omega)
  have g2 := eq_true h2
  have hx := bt_at s (A + 1)
  have hr := bt_range s (A + 1)
  rw [hd] at hx hr
  have wr3 : IntKind.i64.wrap d = d := IntWalk.i64_in _ (by omega)
  have HSD := Lib.hid (sigQ_calls d)
  have e3 : (d == 92) = false := beq_eq_false_iff_ne.mpr h92
  have e4 : (d == 37) = false := beq_eq_false_iff_ne.mpr h37
  rw [hsd] at HSD
  have HK := Lib.hid (show 0 ≤ A ∧ A + 1 ≤ T ∧ T ≤ (s.size : Int) ∧ s.size ≤ 1000000000 from ⟨h0, ht0, ht1, hs⟩)
  have HL := Lib.hid hl
  have HLE := Lib.hid hle
  have HLT := Lib.hid letQ_calls
  have HT := Lib.hid hT
  clear h0 h1 hs hn0 hn1 hp hg hc h2 hd hr h92 hsd h37 ht0 ht1 hl hle hT
  clear h1c
  go_enter Tryd.func23, Tryd.ntmps23
  go_wp2_with fail
  refine (HONE.out _).mono ?_
  rintro e w1 ⟨rfl, hb⟩
  have HBX := Lib.hid hb
  clear hb
  go_wp2_with fail
  refine (HPL.out _).mono ?_
  rintro e w2 ⟨rfl, hb⟩
  have HBY := Lib.hid (HBX.out.trans (hb.mono HBX.out.size))
  clear HBX
  have HBX := HBY
  clear HBY
  clear hb
  go_wp2_with fail
  refine (HSG.out _).mono ?_
  rintro e w3 ⟨rfl, hb⟩
  have HBY := Lib.hid (HBX.out.trans (hb.mono HBX.out.size))
  clear HBX
  have HBX := HBY
  clear HBY
  clear hb
  go_wp2_with fail
  refine (HSD.out _).mono ?_
  rintro e w4 ⟨rfl, hb⟩
  have HBY := Lib.hid (HBX.out.trans (hb.mono HBX.out.size))
  clear HBX
  have HBX := HBY
  clear HBY
  clear hb
  go_wp2_with fail
  go_loopg [10] (s.size + 2) (fun gk v10 wr => ∃ i : Int, v10 = .int .i64 i ∧ Hid (A + 1 ≤ i ∧ i ≤ T ∧ (s.size : Int) + 1 ≤ i + gk) ∧ Hid (Below (w.alloc (.cells #[.int .i64 0, .int .i64 0, .string ⟨#[]⟩, .int .i64 0] 37)).heap.size (w.alloc (.cells #[.int .i64 0, .int .i64 0, .string ⟨#[]⟩, .int .i64 0] 37)) wr))
  case atStart => exact ⟨A + 1, rfl, Lib.hid (by have := HK.out; omega), HBX⟩
  case round =>
    clear HBX
    obtain ⟨i, rfl, HI, HBX⟩ := hrel
    have hI := HI.out
    have hK := HK.out
    have hxi := bt_at s i
    have gi0 := eq_true (show 0 ≤ i by omega)
    by_cases hi : i < T
    · have gi1 := eq_true (show i < (s.size : Int) by omega)
      have ci : decide (i < (s.size : Int)) = true := decide_eq_true (by omega)
      have hlt := HLT.out (bt s i)
      rw [HL.out i hI.1 hi] at hlt
      have HLI := Lib.hid hlt
      have wri : IntKind.i64.wrap (i + 1) = i + 1 := IntWalk.i64_in _ (by omega)
      have HII := Lib.hid hi
      generalize bt s i = b at hxi HLI
      clear hI hK hi hlt
      go_wp2_with fail
      refine (HLI.out _).mono ?_
      rintro e w6 ⟨rfl, hb⟩
      have HB6 := Lib.hid (HBX.out.trans (hb.mono HBX.out.size))
      clear hb
      go_wp2_with fail
      go_roundg (gk - 1)
      case measure => have := HI.out; have := HII.out; have := HK.out; omega
      case rel => exact ⟨i + 1, rfl, Lib.hid (by have := HI.out; have := HII.out; have := HK.out; omega), HB6⟩
    · obtain rfl : i = T := by omega
      have hend : i < (s.size : Int) ∨ i = (s.size : Int) := by omega
      have e6 : (i == A + 1) = true := beq_iff_eq.mpr HT.out
      rcases hend with hi2 | hi2
      · have gi1 := eq_true hi2
        have ci : decide (i < (s.size : Int)) = true := decide_eq_true hi2
        have hlt := HLT.out (bt s i)
        rw [HLE.out hi2] at hlt
        have HLI := Lib.hid hlt
        generalize bt s i = b at hxi HLI
        clear hI hK hi hi2 hlt
        go_wp2_with fail
        refine (HLI.out _).mono ?_
        rintro e w6 ⟨rfl, hb⟩
        have HBY := Lib.hid (HBX.out.trans (hb.mono HBX.out.size))
        clear HBX
        have HBX := HBY
        clear HBY
        clear hb
        have hblk := tok_block HBX.out
        have c0 : w6.cell? ⟨w.heap.size, 0, none⟩ = some (.int .i64 0) := Joins.cell_of_block hblk 0
        have f0 : w6.frozen? ⟨w.heap.size, 0, none⟩ = false := Joins.unfrozen_of_block hblk 0
        have c1 : w6.cell? ⟨w.heap.size, 1, none⟩ = some (.int .i64 0) := Joins.cell_of_block hblk 1
        have f1 : w6.frozen? ⟨w.heap.size, 1, none⟩ = false := Joins.unfrozen_of_block hblk 1
        have c2 : w6.cell? ⟨w.heap.size, 2, none⟩ = some (.string ⟨#[]⟩) := Joins.cell_of_block hblk 2
        have f2 : w6.frozen? ⟨w.heap.size, 2, none⟩ = false := Joins.unfrozen_of_block hblk 2
        have c3 : w6.cell? ⟨w.heap.size, 3, none⟩ = some (.int .i64 0) := Joins.cell_of_block hblk 3
        have f3 : w6.frozen? ⟨w.heap.size, 3, none⟩ = false := Joins.unfrozen_of_block hblk 3
        clear hblk
        go_wp2_with fail
        refine bodyPost_ret (v := .tuple #[.agg #[.int .i64 0, .int .i64 0, .string ⟨#[]⟩, .int .i64 0], .int .i64 A, .int .i64 5]) (by simp [results, Tryd.results23, go_sem, c0, c1, c2, c3]) rfl ⟨rfl, ?_⟩
        exact ((((((Below.refl w.heap.size w).alloc (Nat.le_refl _) _).trans (HBX.out.mono (by simp))).setCell (Nat.le_refl _) _).setCell (Nat.le_refl _) _).setCell (Nat.le_refl _) _).setCell (Nat.le_refl _) _
      · have ci : decide (i < (s.size : Int)) = false := decide_eq_false (by omega)
        clear hI hK hi hi2 hxi
        have hblk := tok_block HBX.out
        have c0 : wr.cell? ⟨w.heap.size, 0, none⟩ = some (.int .i64 0) := Joins.cell_of_block hblk 0
        have f0 : wr.frozen? ⟨w.heap.size, 0, none⟩ = false := Joins.unfrozen_of_block hblk 0
        have c1 : wr.cell? ⟨w.heap.size, 1, none⟩ = some (.int .i64 0) := Joins.cell_of_block hblk 1
        have f1 : wr.frozen? ⟨w.heap.size, 1, none⟩ = false := Joins.unfrozen_of_block hblk 1
        have c2 : wr.cell? ⟨w.heap.size, 2, none⟩ = some (.string ⟨#[]⟩) := Joins.cell_of_block hblk 2
        have f2 : wr.frozen? ⟨w.heap.size, 2, none⟩ = false := Joins.unfrozen_of_block hblk 2
        have c3 : wr.cell? ⟨w.heap.size, 3, none⟩ = some (.int .i64 0) := Joins.cell_of_block hblk 3
        have f3 : wr.frozen? ⟨w.heap.size, 3, none⟩ = false := Joins.unfrozen_of_block hblk 3
        clear hblk
        go_wp2_with fail
        refine bodyPost_ret (v := .tuple #[.agg #[.int .i64 0, .int .i64 0, .string ⟨#[]⟩, .int .i64 0], .int .i64 A, .int .i64 5]) (by simp [results, Tryd.results23, go_sem, c0, c1, c2, c3]) rfl ⟨rfl, ?_⟩
        exact ((((((Below.refl w.heap.size w).alloc (Nat.le_refl _) _).trans (HBX.out.mono (by simp))).setCell (Nat.le_refl _) _).setCell (Nat.le_refl _) _).setCell (Nat.le_refl _) _).setCell (Nat.le_refl _) _
set_option maxHeartbeats 8000000 in
theorem rn_long (s : ByteArray) (A : Int) (h0 : 0 ≤ A) (h1 : A < (s.size : Int)) (hs : s.size ≤ 1000000000) (c n : Int) (h1c : oneR s A = (c, n)) (hn0 : 0 ≤ n) (hn1 : n ≤ 4) (hp : plnQ c = false) (hg : sigQ c = false) (hc : c = 92) (h2 : A + 1 < (s.size : Int)) (d : Int) (hd : bt s (A + 1) = d) (h92 : d ≠ 92) (hsd : sigQ d = false) (h37 : d ≠ 37) (T : Int) (ht0 : A + 1 ≤ T) (ht1 : T ≤ (s.size : Int)) (hl : ∀ j : Int, A + 1 ≤ j → j < T → letQ (bt s j) = true) (hle : T < (s.size : Int) → letQ (bt s T) = false) (hT : A + 33 < T) (w : World) : Calls Tryd.prog 23 #[.string s, .int .i64 A] w fun e w' => e = TokR 0 0 ⟨#[]⟩ 0 A 7 ∧ Below w.heap.size w w' := by
  have HONE := Lib.hid (one_calls s A h0 (by omega) hs (c, n) h1c)
  have HPL := Lib.hid (plnQ_calls c)
  have HSG := Lib.hid (sigQ_calls c)
  rw [hp] at HPL
  rw [hg] at HSG
  have wr1 : IntKind.i64.wrap (A + 1) = A + 1 := IntWalk.i64_in _ (by omega)
  have wr2 : IntKind.i64.wrap (A + 2) = A + 2 := IntWalk.i64_in _ (by omega)
  have e1 : (c != 92) = false := bne_eq_false_iff_eq.mpr hc
  have e2 : decide ((s.size : Int) ≤ A + 1) = false := decide_eq_false (by omega)
  have g1 := eq_true (show 0 ≤ A + 1 by omega)
  have g2 := eq_true h2
  have hx := bt_at s (A + 1)
  have hr := bt_range s (A + 1)
  rw [hd] at hx hr
  have wr3 : IntKind.i64.wrap d = d := IntWalk.i64_in _ (by omega)
  have HSD := Lib.hid (sigQ_calls d)
  have e3 : (d == 92) = false := beq_eq_false_iff_ne.mpr h92
  have e4 : (d == 37) = false := beq_eq_false_iff_ne.mpr h37
  rw [hsd] at HSD
  have HK := Lib.hid (show 0 ≤ A ∧ A + 1 ≤ T ∧ T ≤ (s.size : Int) ∧ s.size ≤ 1000000000 from ⟨h0, ht0, ht1, hs⟩)
  have HL := Lib.hid hl
  have HLE := Lib.hid hle
  have HLT := Lib.hid letQ_calls
  have HT := Lib.hid hT
  clear h0 h1 hs hn0 hn1 hp hg hc h2 hd hr h92 hsd h37 ht0 ht1 hl hle hT
  clear h1c
  go_enter Tryd.func23, Tryd.ntmps23
  go_wp2_with fail
  refine (HONE.out _).mono ?_
  rintro e w1 ⟨rfl, hb⟩
  have HBX := Lib.hid hb
  clear hb
  go_wp2_with fail
  refine (HPL.out _).mono ?_
  rintro e w2 ⟨rfl, hb⟩
  have HBY := Lib.hid (HBX.out.trans (hb.mono HBX.out.size))
  clear HBX
  have HBX := HBY
  clear HBY
  clear hb
  go_wp2_with fail
  refine (HSG.out _).mono ?_
  rintro e w3 ⟨rfl, hb⟩
  have HBY := Lib.hid (HBX.out.trans (hb.mono HBX.out.size))
  clear HBX
  have HBX := HBY
  clear HBY
  clear hb
  go_wp2_with fail
  refine (HSD.out _).mono ?_
  rintro e w4 ⟨rfl, hb⟩
  have HBY := Lib.hid (HBX.out.trans (hb.mono HBX.out.size))
  clear HBX
  have HBX := HBY
  clear HBY
  clear hb
  go_wp2_with fail
  go_loopg [10] (s.size + 2) (fun gk v10 wr => ∃ i : Int, v10 = .int .i64 i ∧ Hid (A + 1 ≤ i ∧ i ≤ T ∧ (s.size : Int) + 1 ≤ i + gk) ∧ Hid (Below (w.alloc (.cells #[.int .i64 0, .int .i64 0, .string ⟨#[]⟩, .int .i64 0] 37)).heap.size (w.alloc (.cells #[.int .i64 0, .int .i64 0, .string ⟨#[]⟩, .int .i64 0] 37)) wr))
  case atStart => exact ⟨A + 1, rfl, Lib.hid (by have := HK.out; omega), HBX⟩
  case round =>
    clear HBX
    obtain ⟨i, rfl, HI, HBX⟩ := hrel
    have hI := HI.out
    have hK := HK.out
    have hxi := bt_at s i
    have gi0 := eq_true (show 0 ≤ i by omega)
    by_cases hi : i < T
    · have gi1 := eq_true (show i < (s.size : Int) by omega)
      have ci : decide (i < (s.size : Int)) = true := decide_eq_true (by omega)
      have hlt := HLT.out (bt s i)
      rw [HL.out i hI.1 hi] at hlt
      have HLI := Lib.hid hlt
      have wri : IntKind.i64.wrap (i + 1) = i + 1 := IntWalk.i64_in _ (by omega)
      have HII := Lib.hid hi
      generalize bt s i = b at hxi HLI
      clear hI hK hi hlt
      go_wp2_with fail
      refine (HLI.out _).mono ?_
      rintro e w6 ⟨rfl, hb⟩
      have HB6 := Lib.hid (HBX.out.trans (hb.mono HBX.out.size))
      clear hb
      go_wp2_with fail
      go_roundg (gk - 1)
      case measure => have := HI.out; have := HII.out; have := HK.out; omega
      case rel => exact ⟨i + 1, rfl, Lib.hid (by have := HI.out; have := HII.out; have := HK.out; omega), HB6⟩
    · obtain rfl : i = T := by omega
      have hend : i < (s.size : Int) ∨ i = (s.size : Int) := by omega
      have e6 : (i == A + 1) = false := beq_eq_false_iff_ne.mpr (by have := HT.out; omega)
      obtain ⟨B, hB⟩ : ∃ B, A + 1 + 32 = B := ⟨_, rfl⟩
      have wr5 : IntKind.i64.wrap (A + 1 + 32) = B := (IntWalk.i64_in _ (by omega)).trans hB
      have e7 : decide (B < i) = true := decide_eq_true (by have := HT.out; omega)
      clear hB
      rcases hend with hi2 | hi2
      · have gi1 := eq_true hi2
        have ci : decide (i < (s.size : Int)) = true := decide_eq_true hi2
        have hlt := HLT.out (bt s i)
        rw [HLE.out hi2] at hlt
        have HLI := Lib.hid hlt
        generalize bt s i = b at hxi HLI
        clear hI hK hi hi2 hlt
        go_wp2_with fail
        refine (HLI.out _).mono ?_
        rintro e w6 ⟨rfl, hb⟩
        have HBY := Lib.hid (HBX.out.trans (hb.mono HBX.out.size))
        clear HBX
        have HBX := HBY
        clear HBY
        clear hb
        have hblk := tok_block HBX.out
        have c0 : w6.cell? ⟨w.heap.size, 0, none⟩ = some (.int .i64 0) := Joins.cell_of_block hblk 0
        have f0 : w6.frozen? ⟨w.heap.size, 0, none⟩ = false := Joins.unfrozen_of_block hblk 0
        have c1 : w6.cell? ⟨w.heap.size, 1, none⟩ = some (.int .i64 0) := Joins.cell_of_block hblk 1
        have f1 : w6.frozen? ⟨w.heap.size, 1, none⟩ = false := Joins.unfrozen_of_block hblk 1
        have c2 : w6.cell? ⟨w.heap.size, 2, none⟩ = some (.string ⟨#[]⟩) := Joins.cell_of_block hblk 2
        have f2 : w6.frozen? ⟨w.heap.size, 2, none⟩ = false := Joins.unfrozen_of_block hblk 2
        have c3 : w6.cell? ⟨w.heap.size, 3, none⟩ = some (.int .i64 0) := Joins.cell_of_block hblk 3
        have f3 : w6.frozen? ⟨w.heap.size, 3, none⟩ = false := Joins.unfrozen_of_block hblk 3
        clear hblk
        go_wp2_with fail
        refine bodyPost_ret (v := .tuple #[.agg #[.int .i64 0, .int .i64 0, .string ⟨#[]⟩, .int .i64 0], .int .i64 A, .int .i64 7]) (by simp [results, Tryd.results23, go_sem, c0, c1, c2, c3]) rfl ⟨rfl, ?_⟩
        exact ((((((Below.refl w.heap.size w).alloc (Nat.le_refl _) _).trans (HBX.out.mono (by simp))).setCell (Nat.le_refl _) _).setCell (Nat.le_refl _) _).setCell (Nat.le_refl _) _).setCell (Nat.le_refl _) _
      · have ci : decide (i < (s.size : Int)) = false := decide_eq_false (by omega)
        clear hI hK hi hi2 hxi
        have hblk := tok_block HBX.out
        have c0 : wr.cell? ⟨w.heap.size, 0, none⟩ = some (.int .i64 0) := Joins.cell_of_block hblk 0
        have f0 : wr.frozen? ⟨w.heap.size, 0, none⟩ = false := Joins.unfrozen_of_block hblk 0
        have c1 : wr.cell? ⟨w.heap.size, 1, none⟩ = some (.int .i64 0) := Joins.cell_of_block hblk 1
        have f1 : wr.frozen? ⟨w.heap.size, 1, none⟩ = false := Joins.unfrozen_of_block hblk 1
        have c2 : wr.cell? ⟨w.heap.size, 2, none⟩ = some (.string ⟨#[]⟩) := Joins.cell_of_block hblk 2
        have f2 : wr.frozen? ⟨w.heap.size, 2, none⟩ = false := Joins.unfrozen_of_block hblk 2
        have c3 : wr.cell? ⟨w.heap.size, 3, none⟩ = some (.int .i64 0) := Joins.cell_of_block hblk 3
        have f3 : wr.frozen? ⟨w.heap.size, 3, none⟩ = false := Joins.unfrozen_of_block hblk 3
        clear hblk
        go_wp2_with fail
        refine bodyPost_ret (v := .tuple #[.agg #[.int .i64 0, .int .i64 0, .string ⟨#[]⟩, .int .i64 0], .int .i64 A, .int .i64 7]) (by simp [results, Tryd.results23, go_sem, c0, c1, c2, c3]) rfl ⟨rfl, ?_⟩
        exact ((((((Below.refl w.heap.size w).alloc (Nat.le_refl _) _).trans (HBX.out.mono (by simp))).setCell (Nat.le_refl _) _).setCell (Nat.le_refl _) _).setCell (Nat.le_refl _) _).setCell (Nat.le_refl _) _
set_option maxHeartbeats 8000000 in
theorem rn_word (s : ByteArray) (A : Int) (h0 : 0 ≤ A) (h1 : A < (s.size : Int)) (hs : s.size ≤ 1000000000) (c n : Int) (h1c : oneR s A = (c, n)) (hn0 : 0 ≤ n) (hn1 : n ≤ 4) (hp : plnQ c = false) (hg : sigQ c = false) (hc : c = 92) (h2 : A + 1 < (s.size : Int)) (d : Int) (hd : bt s (A + 1) = d) (h92 : d ≠ 92) (hsd : sigQ d = false) (h37 : d ≠ 37) (T : Int) (ht0 : A + 1 ≤ T) (ht1 : T ≤ (s.size : Int)) (hl : ∀ j : Int, A + 1 ≤ j → j < T → letQ (bt s j) = true) (hle : T < (s.size : Int) → letQ (bt s T) = false) (hT : A + 1 < T) (hT2 : T ≤ A + 33) (w : World) : Calls Tryd.prog 23 #[.string s, .int .i64 A] w fun e w' => e = TokR 2 0 (s.extract (A + 1).toNat T.toNat) A T 0 ∧ Below w.heap.size w w' := by
  have HONE := Lib.hid (one_calls s A h0 (by omega) hs (c, n) h1c)
  have HPL := Lib.hid (plnQ_calls c)
  have HSG := Lib.hid (sigQ_calls c)
  rw [hp] at HPL
  rw [hg] at HSG
  have wr1 : IntKind.i64.wrap (A + 1) = A + 1 := IntWalk.i64_in _ (by omega)
  have wr2 : IntKind.i64.wrap (A + 2) = A + 2 := IntWalk.i64_in _ (by omega)
  have e1 : (c != 92) = false := bne_eq_false_iff_eq.mpr hc
  have e2 : decide ((s.size : Int) ≤ A + 1) = false := decide_eq_false (by omega)
  have g1 := eq_true (show 0 ≤ A + 1 by omega)
  have g2 := eq_true h2
  have hx := bt_at s (A + 1)
  have hr := bt_range s (A + 1)
  rw [hd] at hx hr
  have wr3 : IntKind.i64.wrap d = d := IntWalk.i64_in _ (by omega)
  have HSD := Lib.hid (sigQ_calls d)
  have e3 : (d == 92) = false := beq_eq_false_iff_ne.mpr h92
  have e4 : (d == 37) = false := beq_eq_false_iff_ne.mpr h37
  rw [hsd] at HSD
  have HK := Lib.hid (show 0 ≤ A ∧ A + 1 ≤ T ∧ T ≤ (s.size : Int) ∧ s.size ≤ 1000000000 from ⟨h0, ht0, ht1, hs⟩)
  have HL := Lib.hid hl
  have HLE := Lib.hid hle
  have HLT := Lib.hid letQ_calls
  have HT := Lib.hid (show A + 1 < T ∧ T ≤ A + 33 from ⟨hT, hT2⟩)
  clear h0 h1 hs hn0 hn1 hp hg hc h2 hd hr h92 hsd h37 ht0 ht1 hl hle hT hT2
  clear h1c
  go_enter Tryd.func23, Tryd.ntmps23
  go_wp2_with fail
  refine (HONE.out _).mono ?_
  rintro e w1 ⟨rfl, hb⟩
  have HBX := Lib.hid hb
  clear hb
  go_wp2_with fail
  refine (HPL.out _).mono ?_
  rintro e w2 ⟨rfl, hb⟩
  have HBY := Lib.hid (HBX.out.trans (hb.mono HBX.out.size))
  clear HBX
  have HBX := HBY
  clear HBY
  clear hb
  go_wp2_with fail
  refine (HSG.out _).mono ?_
  rintro e w3 ⟨rfl, hb⟩
  have HBY := Lib.hid (HBX.out.trans (hb.mono HBX.out.size))
  clear HBX
  have HBX := HBY
  clear HBY
  clear hb
  go_wp2_with fail
  refine (HSD.out _).mono ?_
  rintro e w4 ⟨rfl, hb⟩
  have HBY := Lib.hid (HBX.out.trans (hb.mono HBX.out.size))
  clear HBX
  have HBX := HBY
  clear HBY
  clear hb
  go_wp2_with fail
  go_loopg [10] (s.size + 2) (fun gk v10 wr => ∃ i : Int, v10 = .int .i64 i ∧ Hid (A + 1 ≤ i ∧ i ≤ T ∧ (s.size : Int) + 1 ≤ i + gk) ∧ Hid (Below (w.alloc (.cells #[.int .i64 0, .int .i64 0, .string ⟨#[]⟩, .int .i64 0] 37)).heap.size (w.alloc (.cells #[.int .i64 0, .int .i64 0, .string ⟨#[]⟩, .int .i64 0] 37)) wr))
  case atStart => exact ⟨A + 1, rfl, Lib.hid (by have := HK.out; omega), HBX⟩
  case round =>
    clear HBX
    obtain ⟨i, rfl, HI, HBX⟩ := hrel
    have hI := HI.out
    have hK := HK.out
    have hxi := bt_at s i
    have gi0 := eq_true (show 0 ≤ i by omega)
    by_cases hi : i < T
    · have gi1 := eq_true (show i < (s.size : Int) by omega)
      have ci : decide (i < (s.size : Int)) = true := decide_eq_true (by omega)
      have hlt := HLT.out (bt s i)
      rw [HL.out i hI.1 hi] at hlt
      have HLI := Lib.hid hlt
      have wri : IntKind.i64.wrap (i + 1) = i + 1 := IntWalk.i64_in _ (by omega)
      have HII := Lib.hid hi
      generalize bt s i = b at hxi HLI
      clear hI hK hi hlt
      go_wp2_with fail
      refine (HLI.out _).mono ?_
      rintro e w6 ⟨rfl, hb⟩
      have HB6 := Lib.hid (HBX.out.trans (hb.mono HBX.out.size))
      clear hb
      go_wp2_with fail
      go_roundg (gk - 1)
      case measure => have := HI.out; have := HII.out; have := HK.out; omega
      case rel => exact ⟨i + 1, rfl, Lib.hid (by have := HI.out; have := HII.out; have := HK.out; omega), HB6⟩
    · obtain rfl : i = T := by omega
      have hend : i < (s.size : Int) ∨ i = (s.size : Int) := by omega
      have e6 : (i == A + 1) = false := beq_eq_false_iff_ne.mpr (by have := HT.out; omega)
      obtain ⟨B, hB⟩ : ∃ B, A + 1 + 32 = B := ⟨_, rfl⟩
      have wr5 : IntKind.i64.wrap (A + 1 + 32) = B := (IntWalk.i64_in _ (by omega)).trans hB
      have e7 : decide (B < i) = false := decide_eq_false (by have := HT.out; omega)
      have g8 := eq_true (show A + 1 ≤ i by omega)
      have g9 := eq_true (show i ≤ (s.size : Int) by omega)
      clear hB
      rcases hend with hi2 | hi2
      · have gi1 := eq_true hi2
        have ci : decide (i < (s.size : Int)) = true := decide_eq_true hi2
        have hlt := HLT.out (bt s i)
        rw [HLE.out hi2] at hlt
        have HLI := Lib.hid hlt
        generalize bt s i = b at hxi HLI
        clear hI hK hi hi2 hlt
        go_wp2_with fail
        refine (HLI.out _).mono ?_
        rintro e w6 ⟨rfl, hb⟩
        have HBY := Lib.hid (HBX.out.trans (hb.mono HBX.out.size))
        clear HBX
        have HBX := HBY
        clear HBY
        clear hb
        have hblk := tok_block HBX.out
        have c0 : w6.cell? ⟨w.heap.size, 0, none⟩ = some (.int .i64 0) := Joins.cell_of_block hblk 0
        have f0 : w6.frozen? ⟨w.heap.size, 0, none⟩ = false := Joins.unfrozen_of_block hblk 0
        have c1 : w6.cell? ⟨w.heap.size, 1, none⟩ = some (.int .i64 0) := Joins.cell_of_block hblk 1
        have f1 : w6.frozen? ⟨w.heap.size, 1, none⟩ = false := Joins.unfrozen_of_block hblk 1
        have c2 : w6.cell? ⟨w.heap.size, 2, none⟩ = some (.string ⟨#[]⟩) := Joins.cell_of_block hblk 2
        have f2 : w6.frozen? ⟨w.heap.size, 2, none⟩ = false := Joins.unfrozen_of_block hblk 2
        have c3 : w6.cell? ⟨w.heap.size, 3, none⟩ = some (.int .i64 0) := Joins.cell_of_block hblk 3
        have f3 : w6.frozen? ⟨w.heap.size, 3, none⟩ = false := Joins.unfrozen_of_block hblk 3
        clear hblk
        go_wp2_with fail
        refine bodyPost_ret (v := .tuple #[.agg #[.int .i64 2, .int .i64 0, .string (s.extract (A + 1).toNat i.toNat), .int .i64 A], .int .i64 i, .int .i64 0]) (by simp [results, Tryd.results23, go_sem, c0, c1, c2, c3]) rfl ⟨rfl, ?_⟩
        exact ((((((Below.refl w.heap.size w).alloc (Nat.le_refl _) _).trans (HBX.out.mono (by simp))).setCell (Nat.le_refl _) _).setCell (Nat.le_refl _) _).setCell (Nat.le_refl _) _).setCell (Nat.le_refl _) _
      · have ci : decide (i < (s.size : Int)) = false := decide_eq_false (by omega)
        clear hI hK hi hi2 hxi
        have hblk := tok_block HBX.out
        have c0 : wr.cell? ⟨w.heap.size, 0, none⟩ = some (.int .i64 0) := Joins.cell_of_block hblk 0
        have f0 : wr.frozen? ⟨w.heap.size, 0, none⟩ = false := Joins.unfrozen_of_block hblk 0
        have c1 : wr.cell? ⟨w.heap.size, 1, none⟩ = some (.int .i64 0) := Joins.cell_of_block hblk 1
        have f1 : wr.frozen? ⟨w.heap.size, 1, none⟩ = false := Joins.unfrozen_of_block hblk 1
        have c2 : wr.cell? ⟨w.heap.size, 2, none⟩ = some (.string ⟨#[]⟩) := Joins.cell_of_block hblk 2
        have f2 : wr.frozen? ⟨w.heap.size, 2, none⟩ = false := Joins.unfrozen_of_block hblk 2
        have c3 : wr.cell? ⟨w.heap.size, 3, none⟩ = some (.int .i64 0) := Joins.cell_of_block hblk 3
        have f3 : wr.frozen? ⟨w.heap.size, 3, none⟩ = false := Joins.unfrozen_of_block hblk 3
        clear hblk
        go_wp2_with fail
        refine bodyPost_ret (v := .tuple #[.agg #[.int .i64 2, .int .i64 0, .string (s.extract (A + 1).toNat i.toNat), .int .i64 A], .int .i64 i, .int .i64 0]) (by simp [results, Tryd.results23, go_sem, c0, c1, c2, c3]) rfl ⟨rfl, ?_⟩
        exact ((((((Below.refl w.heap.size w).alloc (Nat.le_refl _) _).trans (HBX.out.mono (by simp))).setCell (Nat.le_refl _) _).setCell (Nat.le_refl _) _).setCell (Nat.le_refl _) _).setCell (Nat.le_refl _) _
/-- How many letters stand from a place on. -/
def letM (s : ByteArray) (A : Int) : Nat := ((s.data.toList.drop A.toNat).takeWhile (fun b => letQ (b.toNat : Int))).length
theorem takeW_all {α : Type} (p : α → Bool) (z : α) : ∀ (L : List α) (q : Nat), q < (L.takeWhile p).length → p (L.getD q z) = true
  | [], q, h => by simp at h
  | x :: L, q, h => by
    rw [List.takeWhile_cons] at h
    split at h
    · rename_i hx
      cases q with
      | zero => exact hx
      | succ q => exact takeW_all p z L q (by simpa using h)
    · simp at h
theorem takeW_end {α : Type} (p : α → Bool) (z : α) : ∀ (L : List α), (L.takeWhile p).length < L.length → p (L.getD (L.takeWhile p).length z) = false
  | [], h => by simp at h
  | x :: L, h => by
    by_cases hx : p x = true
    · rw [List.takeWhile_cons, if_pos hx] at h ⊢
      exact takeW_end p z L (by simpa using h)
    · rw [List.takeWhile_cons, if_neg hx]
      simpa using hx
theorem bt_getD (s : ByteArray) (j : Int) (h0 : 0 ≤ j) (h1 : j < (s.size : Int)) : bt s j = ((s.data.toList.getD j.toNat 0).toNat : Int) := by
  have hl : j.toNat < s.size := by omega
  unfold bt
  rw [dif_pos hl]
  have := bAt_get s j.toNat hl
  unfold bAt at this
  omega
theorem letM_le (s : ByteArray) (A : Int) (h0 : 0 ≤ A) (h1 : A ≤ (s.size : Int)) : A + letM s A ≤ (s.size : Int) := by
  unfold letM
  have := (List.takeWhile_sublist (p := fun b : UInt8 => letQ (b.toNat : Int)) (l := s.data.toList.drop A.toNat)).length_le
  rw [List.length_drop, show s.data.toList.length = s.size by simp] at this
  omega
theorem letM_all (s : ByteArray) (A : Int) (h0 : 0 ≤ A) (h1 : A ≤ (s.size : Int)) (j : Int) (hj : A ≤ j) (hj2 : j < A + letM s A) : letQ (bt s j) = true := by
  have hle := letM_le s A h0 h1
  rw [bt_getD s j (by omega) (by omega)]
  have := takeW_all (fun b : UInt8 => letQ (b.toNat : Int)) 0 (s.data.toList.drop A.toNat) (j - A).toNat (by unfold letM at hj2; omega)
  rw [List.getD_eq_getElem?_getD, List.getElem?_drop, show A.toNat + (j - A).toNat = j.toNat by omega, ← List.getD_eq_getElem?_getD] at this
  exact this
theorem letM_end (s : ByteArray) (A : Int) (h0 : 0 ≤ A) (h1 : A ≤ (s.size : Int)) (h : A + letM s A < (s.size : Int)) : letQ (bt s (A + letM s A)) = false := by
  rw [bt_getD s _ (by omega) h]
  have hl : ((s.data.toList.drop A.toNat).takeWhile (fun b : UInt8 => letQ (b.toNat : Int))).length < (s.data.toList.drop A.toNat).length := by
    unfold letM at h
    rw [List.length_drop, show s.data.toList.length = s.size by simp]
    omega
  have := takeW_end (fun b : UInt8 => letQ (b.toNat : Int)) 0 (s.data.toList.drop A.toNat) hl
  rw [List.getD_eq_getElem?_getD, List.getElem?_drop, ← List.getD_eq_getElem?_getD] at this
  rw [show (A + (letM s A : Int)).toNat = A.toNat + letM s A by omega]
  exact this
theorem oneF_n (s : ByteArray) (A : Int) : ∀ (f n : Nat), n + f ≤ 5 → 0 ≤ (oneF s A f n).2 ∧ (oneF s A f n).2 ≤ 4
  | 0, n, _ => ⟨by show (0 : Int) ≤ 0; omega, by show (0 : Int) ≤ 4; omega⟩
  | f + 1, n, h => by
    rw [oneF]
    split
    · split
      · exact ⟨by show (0 : Int) ≤ (n : Int); omega, by show (n : Int) ≤ 4; omega⟩
      · exact oneF_n s A f (n + 1) (by omega)
    · exact ⟨by show (0 : Int) ≤ 0; omega, by show (0 : Int) ≤ 4; omega⟩
abbrev RTk := Int × Int × ByteArray × Int × Int × Int
def nextR (s : ByteArray) (A : Int) : RTk :=
  if plnQ (oneR s A).1 = true then (1, (oneR s A).1, ⟨#[]⟩, A, A + (oneR s A).2, 0)
  else if sigQ (oneR s A).1 = true then (3, (oneR s A).1, ⟨#[]⟩, A, A + 1, 0)
  else if (oneR s A).1 ≠ 92 ∨ (s.size : Int) ≤ A + 1 then (0, 0, ⟨#[]⟩, 0, A, 5)
  else if bt s (A + 1) = 92 then (4, 0, ⟨#[]⟩, A, A + 2, 0)
  else if sigQ (bt s (A + 1)) = true ∨ bt s (A + 1) = 37 then (1, bt s (A + 1), ⟨#[]⟩, A, A + 2, 0)
  else if letM s (A + 1) = 0 then (0, 0, ⟨#[]⟩, 0, A, 5)
  else if 32 < letM s (A + 1) then (0, 0, ⟨#[]⟩, 0, A, 7)
  else (2, 0, s.extract (A + 1).toNat (A + 1 + letM s (A + 1)).toNat, A, A + 1 + letM s (A + 1), 0)
theorem rnext_calls (s : ByteArray) (A : Int) (h0 : 0 ≤ A) (h1 : A < (s.size : Int)) (hs : s.size ≤ 1000000000) (w : World) :
    Calls Tryd.prog 23 #[.string s, .int .i64 A] w fun e w' => e = TokR (nextR s A).1 (nextR s A).2.1 (nextR s A).2.2.1 (nextR s A).2.2.2.1 (nextR s A).2.2.2.2.1 (nextR s A).2.2.2.2.2 ∧ Below w.heap.size w w' := by
  obtain ⟨c, n, hcn⟩ : ∃ c n, oneR s A = (c, n) := ⟨_, _, rfl⟩
  have hn := oneF_n s A 4 1 (by decide)
  rw [show oneF s A 4 1 = (c, n) from hcn] at hn
  unfold nextR
  rw [hcn]
  simp only
  by_cases hp : plnQ c = true
  · rw [if_pos hp]; exact rn_plain s A h0 h1 hs c n hcn hn.1 hn.2 hp w
  rw [if_neg hp]
  simp only [Bool.not_eq_true] at hp
  by_cases hg : sigQ c = true
  · rw [if_pos hg]; exact rn_sign s A h0 h1 hs c n hcn hn.1 hn.2 hp hg w
  rw [if_neg hg]
  simp only [Bool.not_eq_true] at hg
  by_cases hx : c ≠ 92 ∨ (s.size : Int) ≤ A + 1
  · rw [if_pos hx]; exact rn_no s A h0 h1 hs c n hcn hn.1 hn.2 hp hg hx w
  rw [if_neg hx]
  have hc : c = 92 := by omega
  have h2 : A + 1 < (s.size : Int) := by omega
  by_cases h92 : bt s (A + 1) = 92
  · rw [if_pos h92]; exact rn_row s A h0 h1 hs c n hcn hn.1 hn.2 hp hg hc h2 _ rfl h92 w
  rw [if_neg h92]
  by_cases hsd : sigQ (bt s (A + 1)) = true ∨ bt s (A + 1) = 37
  · rw [if_pos hsd]; exact rn_bent s A h0 h1 hs c n hcn hn.1 hn.2 hp hg hc h2 _ rfl h92 hsd w
  rw [if_neg hsd]
  have hq : sigQ (bt s (A + 1)) = false := by cases h : sigQ (bt s (A + 1)) with | true => exact absurd (.inl h) hsd | false => rfl
  have h37 : bt s (A + 1) ≠ 37 := fun h => hsd (.inr h)
  have a1 := letM_le s (A + 1) (by omega) (by omega)
  have a2 := letM_all s (A + 1) (by omega) (by omega)
  have a3 := letM_end s (A + 1) (by omega) (by omega)
  by_cases hz : letM s (A + 1) = 0
  · rw [if_pos hz]; exact rn_none s A h0 h1 hs c n hcn hn.1 hn.2 hp hg hc h2 _ rfl h92 hq h37 _ (by omega) a1 a2 a3 (by omega) w
  rw [if_neg hz]
  by_cases hz2 : 32 < letM s (A + 1)
  · rw [if_pos hz2]; exact rn_long s A h0 h1 hs c n hcn hn.1 hn.2 hp hg hc h2 _ rfl h92 hq h37 _ (by omega) a1 a2 a3 (by omega) w
  rw [if_neg hz2]
  exact rn_word s A h0 h1 hs c n hcn hn.1 hn.2 hp hg hc h2 _ rfl h92 hq h37 _ (by omega) a1 a2 a3 (by omega) (by omega) w
def vinculumref19_next.f (s : ByteArray) (A : Int) : Option RTk := if 0 ≤ A ∧ A < (s.size : Int) ∧ s.size ≤ 1000000000 then some (nextR s A) else none
theorem vinculumref19_next.calls (s : ByteArray) (A : Int) (r1 r2 : Int) (r3 : ByteArray) (r4 r5 r6 : Int) (w : World) (h : vinculumref19_next.f s A = some (r1, r2, r3, r4, r5, r6)) :
    Calls Tryd.prog 23 #[.string s, .int .i64 A] w fun e w' => e = .returned (.tuple #[.agg #[.int .i64 r1, .int .i64 r2, .string r3, .int .i64 r4], .int .i64 r5, .int .i64 r6]) ∧ Below w.heap.size w w' := by
  unfold vinculumref19_next.f at h
  split at h
  · rename_i hc
    have := rnext_calls s A hc.1 hc.2.1 hc.2.2 w
    rw [Option.some.inj h] at this
    exact this
  · cases h
end Go.Proofs.YtplkdfkahcpoeaaDoor.P
