/- What (*sfnt.file).read reads, in plain words, its call of bin.Get, and (*sfnt.file).front, walked. Condition: a text of at most 2^24 bytes. -/
import Derived.Test.YtgchajlfopmcjaaSfMeet
import Derived.Test.YtgchajlfopmcjaaSfRight
import Derived.Test.YtgchajlfopmcjaaSfSum
import Derived.Test.YtgchajlfopmcjaaBackSpec
import Derived.Test.YtgchajlfopmcjaaPx2
namespace Go.Proofs.Ytgchajlfopmcjaa.P
open Go.Shelf Go.RowKit Go.Proofs.YtgchajlfopmcjaaW.PrintWords Go.Proofs.YtgchajlfopmcjaaW.PrintLast Go.Proofs.YtgchajlfopmcjaaW.PrintMore Go.Proofs.Ytgchajlfopmcjaa.BN
set_option linter.unusedVariables false
set_option linter.unusedSimpArgs false
set_option maxRecDepth 100000
/-- The number of four bytes at a place. -/
def nm (s : ByteArray) (a : Nat) : Int := be (((bytesl s).drop a).take 4)
theorem nm_small (s : ByteArray) (a : Nat) : 0 ≤ nm s a ∧ nm s a < 4294967296 := be_small _ (List.length_take_le _ _)
theorem get3 (s : ByteArray) (a : Nat) (hs : s.size ≤ 16777216) (ha : a + 12 ≤ s.size) : bin_Get.f s (a : Int) [4, 4, 4] = some ([nm s a, nm s (a + 4), nm s (a + 8)], 0) := by
  rw [get_spec s (a : Int) [4, 4, 4] (by omega) (by simp)]
  unfold gspec
  have hr : rightB [4, 4, 4] = true := by decide
  rw [if_neg (by rw [hr]; simp), if_neg (by omega)]
  simp [tot, vals, tvl, nm, List.drop_drop]
  omega
/-- A file's record, by its number. -/
def recE (s : ByteArray) (i : Nat) : E85 := ⟨⟨nm s (12 + 16 * i + 8), nm s (12 + 16 * i + 12)⟩, s.extract (12 + 16 * i) (12 + 16 * i + 4), nm s (12 + 16 * i + 4)⟩
def recsE (s : ByteArray) (n : Nat) : List E85 := (List.range n).map (recE s)
theorem recsE_succ (s : ByteArray) (n : Nat) : recsE s (n + 1) = recsE s n ++ [recE s n] := by unfold recsE; rw [List.range_succ, List.map_append]; rfl
theorem recsE_length (s : ByteArray) (n : Nat) : (recsE s n).length = n := by unfold recsE; simp
theorem recE_small (s : ByteArray) (i : Nat) : smallE (recE s i) := by
  have h1 := nm_small s (12 + 16 * i + 8)
  have h2 := nm_small s (12 + 16 * i + 12)
  unfold smallE recE
  simp only
  omega
/-- Is a record wrong, ahead of its table? -/
def badR (s : ByteArray) (many i : Nat) : Bool :=
  !tagB (recE s i).f1 || (decide (0 < i) && !Op.bytesLess (recE s (i - 1)).f1.toList (recE s i).f1.toList) || decide ((recE s i).f0.f0 % 4 ≠ 0) || decide ((recE s i).f0.f0 < 12 + 16 * (many : Int))
def dataR (s : ByteArray) (i : Nat) : ByteArray := s.extract (recE s i).f0.f0.toNat ((recE s i).f0.f0 + (recE s i).f0.f1).toNat
/-- The error of a record: 0: none. -/
def errR (s : ByteArray) (many i : Nat) : Int :=
  if badR s many i then 5 else if (s.size : Int) < (recE s i).f0.f0 + (recE s i).f0.f1 then 4 else if tabSum (recE s i).f1 (dataR s i) ≠ (recE s i).f2 then 5 else 0
def tabR (s : ByteArray) (many i : Nat) : S33 := if errR s many i = 0 then ⟨(recE s i).f1, dataR s i⟩ else z33
/-- Blocks of other types than a file's and its entries' stay. -/
def KeptT (w w' : World) : Prop := w.heap.size ≤ w'.heap.size ∧ ∀ (k : Nat) (cells : Array Value) (T : Nat) (fr : Nat × Nat), w.heap[k]? = some (Obj.cells cells T fr) → T ≠ 49 → T ≠ 85 → w'.heap[k]? = w.heap[k]?
theorem KeptT.refl (w : World) : KeptT w w := ⟨Nat.le_refl _, fun _ _ _ _ _ _ _ => rfl⟩
theorem KeptT.trans {a b c : World} (h : KeptT a b) (k : KeptT b c) : KeptT a c := ⟨Nat.le_trans h.1 k.1, fun q cells T fr hq h1 h2 => by
  have e := h.2 q cells T fr hq h1 h2
  rw [k.2 q cells T fr (e.trans hq) h1 h2, e]⟩
theorem KeptT.below {w w' : World} (h : Below w.heap.size w w') : KeptT w w' := ⟨h.size, fun k _ _ _ hk _ _ => h.block k (blk_lt hk)⟩
theorem KeptT.grown {w w' : World} {row : Option Nat} (h : w.grownBy w' row) (hr : ∀ k, row = some k → ∃ cells fr, w.heap[k]? = some (.cells cells 85 fr)) : KeptT w w' := ⟨h.size, fun k cells T fr hk _ h2 => h.block k (blk_lt hk) (fun e => by
  obtain ⟨c2, f2, h3⟩ := hr k e.symm
  rw [hk] at h3
  cases h3
  exact h2 rfl)⟩
theorem KeptT.set_ {w : World} {g : Nat} {cs : Array Value} {fr : Nat × Nat} (h : w.heap[g]? = some (.cells cs 49 fr)) (j : Nat) (v : Value) : KeptT w (w.setCell ⟨g, j, none⟩ v) := ⟨by simp, fun k cells T fr2 hk h1 h2 => Below.heap_setCell w ⟨g, j, none⟩ v k (fun e => by
  rw [show k = g from e, h] at hk
  cases hk
  exact h1 rfl)⟩
theorem K_row (vs : List Int) (w : World) (g : Nat) (hl : vs.length ≤ 9223372036854775807) (hg : ∀ j : Nat, j < vs.length → w.cell? ⟨g, j, none⟩ = some (.int .i64 (vs.getD j 0))) : Kd.C (Kd.int .i64) w (some ⟨g, 0, none⟩) vs.length vs := by
  refine Kd.C_of_reads (d := 0) ⟨rfl, hl, fun _ => ⟨⟨g, 0, none⟩, rfl, fun j hj => ?_⟩⟩
  have := hg j hj
  rw [show (⟨g, 0, none⟩ : Addr).add j = ⟨g, j, none⟩ by unfold Addr.add; by_cases h : j = 0 <;> simp [h]]
  exact this
theorem read_get (s : ByteArray) (a : Nat) (hs : s.size ≤ 16777216) (ha : a + 12 ≤ s.size) (w : World) (g : Nat) (hg : g = w.heap.size) :
    Calls Try.prog 19 #[.string s, .int .i64 (a : Int), .slice (some ⟨g, 0, none⟩) 3 3] (w.alloc (.cells #[.int .i64 4, .int .i64 4, .int .i64 4] 3)) fun e w' => ∃ (b c : Nat), e = .returned (.tuple #[.slice (some ⟨b, 0, none⟩) 3 c, .int .i64 0]) ∧
      (w'.cell? ⟨b, 0, none⟩ = some (.int .i64 (nm s a)) ∧ w'.cell? ⟨b, 1, none⟩ = some (.int .i64 (nm s (a + 4))) ∧ w'.cell? ⟨b, 2, none⟩ = some (.int .i64 (nm s (a + 8)))) ∧ w.heap.size + 1 ≤ b ∧ b < w'.heap.size ∧ Below w.heap.size w w' := by
  subst hg
  have hr : Kd.C (Kd.int .i64) (w.alloc (.cells #[.int .i64 4, .int .i64 4, .int .i64 4] 3)) (some ⟨w.heap.size, 0, none⟩) 3 [4, 4, 4] := K_row [4, 4, 4] _ _ (by simp) (fun j hj => by
    simp only [World.cell?, heap_alloc_new]
    obtain rfl | rfl | rfl : j = 0 ∨ j = 1 ∨ j = 2 := by simp at hj; omega
    all_goals rfl)
  refine (bin_Get.calls s (a : Int) _ 3 [4, 4, 4] _ _ _ hr (Nat.le_refl _) (get3 s a hs ha)).mono ?_
  rintro e w' ⟨v, he, hv, hb⟩
  obtain ⟨b, c, rfl, hb1, hb2, cells, hbc⟩ := Kd.R_form hv (by simp)
  have hq := Kd.own_of_R hv
  refine ⟨b, c, he, ⟨?_, ?_, ?_⟩, by simpa using hb1, hb2, ((Below.refl w.heap.size w).alloc (Nat.le_refl _) _).trans (hb.mono (by simp))⟩
  · exact World.ownsRow.cellAt hq 0 (by simp)
  · exact World.ownsRow.cellAt hq 1 (by simp)
  · exact World.ownsRow.cellAt hq 2 (by simp)
end Go.Proofs.Ytgchajlfopmcjaa.P
namespace Go.Proofs.Ytgchajlfopmcjaa.P
open Go.Shelf Go.RowKit Go.Proofs.YtgchajlfopmcjaaW.PrintWords Go.Proofs.YtgchajlfopmcjaaW.PrintLast Go.Proofs.YtgchajlfopmcjaaW.PrintMore Go.Proofs.Ytgchajlfopmcjaa.BN
set_option linter.unusedVariables false
set_option linter.unusedSimpArgs false
set_option maxRecDepth 100000
/-- The number of two bytes at a place. -/
def nm2 (s : ByteArray) (a : Nat) : Int := be (((bytesl s).drop a).take 2)
theorem nm2_small (s : ByteArray) (a : Nat) : 0 ≤ nm2 s a ∧ nm2 s a < 65536 := by
  have h := be_bound (((bytesl s).drop a).take 2)
  have hl : (((bytesl s).drop a).take 2).length ≤ 2 := List.length_take_le _ _
  unfold nm2
  generalize be (((bytesl s).drop a).take 2) = x at h ⊢
  generalize (((bytesl s).drop a).take 2).length = k at h hl
  obtain rfl | rfl | rfl : k = 0 ∨ k = 1 ∨ k = 2 := by omega
  all_goals omega
def verB (x : Int) : Bool := decide (x = 65536) || decide (x = 1330926671)
def frontS (s : ByteArray) : Int × Int × Int :=
  if 16777216 < s.size then (0, 0, 7) else if s.size < 12 then (0, 0, 4) else if verB (nm s 0) = false then (0, 0, 5)
  else if 64 < nm2 s 4 then (0, 0, 7) else if (s.size : Int) < 12 + 16 * nm2 s 4 then (0, 0, 4) else (nm s 0, nm2 s 4, 0)
def sizes5 : List Int := [4, 2, 2, 2, 2]
theorem get5 (s : ByteArray) (hs : s.size ≤ 16777216) : bin_Get.f s 0 sizes5 = some (if 12 ≤ s.size then ([nm s 0, nm2 s 4, nm2 s 6, nm2 s 8, nm2 s 10], 0) else ([], 4)) := by
  rw [get_spec s 0 sizes5 (by omega) (by decide)]
  unfold gspec
  rw [if_neg (by decide), if_neg (by omega)]
  simp only [sizes5, tot, vals, tvl, nm, nm2, List.drop_drop]
  by_cases h : 12 ≤ s.size <;> simp [h]
theorem ver_any (x : Int) (w : World) : Calls Try.prog 28 #[.int .i64 x] w fun e w' => e = .returned (.bool (verB x)) ∧ Below w.heap.size w w' := by
  refine (sfnt_version.calls x (verB x) w ?_).mono fun _ _ ⟨he, hd⟩ => ⟨he, Drawn0.below hd⟩
  unfold sfnt_version.f verB
  by_cases h : x = 65536
  · rw [if_pos h, decide_eq_true h]; rfl
  · rw [if_neg h, decide_eq_false h, Bool.false_or]; rfl
theorem lit5 (w : World) (g : Nat) (hg : g = w.heap.size) : Kd.C (Kd.int .i64) (w.alloc (.cells #[.int .i64 4, .int .i64 2, .int .i64 2, .int .i64 2, .int .i64 2] 3)) (some ⟨g, 0, none⟩) 5 sizes5 := by
  subst hg
  exact K_row sizes5 _ _ (by decide) (fun j hj => by
    simp only [World.cell?, heap_alloc_new]
    obtain rfl | rfl | rfl | rfl | rfl : j = 0 ∨ j = 1 ∨ j = 2 ∨ j = 3 ∨ j = 4 := by simp [sizes5] at hj; omega
    all_goals rfl)
theorem front_get (s : ByteArray) (hs : s.size ≤ 16777216) (h12 : 12 ≤ s.size) (w : World) (g : Nat) (hg : g = w.heap.size) :
    Calls Try.prog 19 #[.string s, .int .i64 0, .slice (some ⟨g, 0, none⟩) 5 5] (w.alloc (.cells #[.int .i64 4, .int .i64 2, .int .i64 2, .int .i64 2, .int .i64 2] 3)) fun e w' => ∃ (b c : Nat), e = .returned (.tuple #[.slice (some ⟨b, 0, none⟩) 5 c, .int .i64 0]) ∧
      w'.cell? ⟨b, 0, none⟩ = some (.int .i64 (nm s 0)) ∧ w'.cell? ⟨b, 1, none⟩ = some (.int .i64 (nm2 s 4)) ∧ Below w.heap.size w w' := by
  have h5 := get5 s hs
  rw [if_pos h12] at h5
  refine (bin_Get.calls s 0 _ 5 sizes5 _ _ _ (lit5 w g hg) (Nat.le_refl _) h5).mono ?_
  rintro e w' ⟨v, he, hv, hb⟩
  obtain ⟨b, c, rfl, hb1, hb2, cells, hbc⟩ := Kd.R_form hv (by simp)
  have hq := Kd.own_of_R hv
  exact ⟨b, c, he, World.ownsRow.cellAt hq 0 (by simp), World.ownsRow.cellAt hq 1 (by simp), ((Below.refl w.heap.size w).alloc (Nat.le_refl _) _).trans (hb.mono (by simp))⟩
theorem front_none (s : ByteArray) (hs : s.size ≤ 16777216) (h12 : ¬ 12 ≤ s.size) (w : World) (g : Nat) (hg : g = w.heap.size) :
    Calls Try.prog 19 #[.string s, .int .i64 0, .slice (some ⟨g, 0, none⟩) 5 5] (w.alloc (.cells #[.int .i64 4, .int .i64 2, .int .i64 2, .int .i64 2, .int .i64 2] 3)) fun e w' => ∃ (A : Option Addr) (c : Nat), e = .returned (.tuple #[.slice A 0 c, .int .i64 4]) ∧ Below w.heap.size w w' := by
  have h5 := get5 s hs
  rw [if_neg h12] at h5
  refine (bin_Get.calls s 0 _ 5 sizes5 _ _ _ (lit5 w g hg) (Nat.le_refl _) h5).mono ?_
  rintro e w' ⟨v, he, hv, hb⟩
  obtain ⟨A, c, rfl⟩ := Kd.R_slice hv
  exact ⟨A, c, he, ((Below.refl w.heap.size w).alloc (Nat.le_refl _) _).trans (hb.mono (by simp))⟩
set_option maxHeartbeats 4000000 in
theorem front_calls (s : ByteArray) (g : Nat) (w : World) (hc : w.cell? ⟨g, 0, none⟩ = some (.string s)) (hs : s.size ≤ 140737488351232) :
    Calls Try.prog 21 #[.pointer (some ⟨g, 0, none⟩)] w fun e w' => e = .returned (.tuple #[.int .i64 (frontS s).1, .int .i64 (frontS s).2.1, .int .i64 (frontS s).2.2]) ∧ Below w.heap.size w w' := by
  have hgl : g < w.heap.size := World.block_lt_of_cell? _ _ hc
  by_cases hL : 16777216 < s.size
  · have hLz : (16777216 : Int) < (s.size : Int) := by omega
    have hr : frontS s = (0, 0, 7) := by unfold frontS; rw [if_pos hL]
    rw [hr]
    clear hr
    go_enter Try.func21, Try.ntmps21
    go_wp2
    go_ret3
    exact ⟨rfl, Below.refl _ _⟩
  · have hLz : ¬ (16777216 : Int) < (s.size : Int) := by omega
    by_cases h12 : 12 ≤ s.size
    · have HGET := Lib.hid (fun W G hG => front_get s (by omega) h12 W G hG)
      obtain ⟨v, hv⟩ : ∃ v, nm s 0 = v := ⟨_, rfl⟩
      obtain ⟨m, hm⟩ : ∃ m, nm2 s 4 = m := ⟨_, rfl⟩
      have hms := nm2_small s 4
      have hr : frontS s = if verB v = false then (0, 0, 5) else if 64 < m then (0, 0, 7) else if (s.size : Int) < 12 + 16 * m then (0, 0, 4) else (v, m, 0) := by unfold frontS; rw [if_neg hL, if_neg (by omega), hv, hm]
      rw [hm] at hms
      have HR := Lib.hid hr
      have HV := Lib.hid hv
      have HM := Lib.hid hm
      have HVB := Lib.hid (ver_any v)
      clear hr hv hm
      obtain ⟨hm0, hm1⟩ := hms
      go_enter Try.func21, Try.ntmps21
      go_wp2_with fail
      refine (HGET.out _ _ (by simp)).mono ?_
      rintro e w1 ⟨b, c, rfl, q0, q1, hb⟩
      rw [HV.out] at q0
      rw [HM.out] at q1
      have d0 := (hb.cell (p := ⟨g, 0, none⟩) hgl).trans hc
      have HB := Lib.hid hb
      clear hb
      go_wp2_with fail
      refine (HVB.out _).mono ?_
      rintro e w2 ⟨rfl, hb2⟩
      have d2 := pw_cell_below hb2 d0
      have x0 := pw_cell_below hb2 q0
      have x1 := pw_cell_below hb2 q1
      have HB2 := Lib.hid (HB.out.trans (hb2.mono HB.out.size))
      have HR2 := Lib.hid HR.out
      clear hb2 d0 q0 q1
      cases hvb : verB v with
      | false =>
        have HR3 := Lib.hid (HR.out.trans (if_pos hvb))
        clear hvb
        go_wp2
        go_ret3
        exact ⟨by rw [HR3.out]; rfl, HB2.out⟩
      | true =>
        have HR3 := Lib.hid (HR.out.trans (if_neg (by rw [hvb]; decide)))
        clear hvb
        by_cases h64 : 64 < m
        · have HR4 := Lib.hid (HR3.out.trans (if_pos h64))
          go_wp2
          go_ret3
          exact ⟨by rw [HR4.out]; rfl, HB2.out⟩
        · have HR4 := Lib.hid (HR3.out.trans (if_neg h64))
          by_cases hfit : (s.size : Int) < 12 + 16 * m
          · have HR5 := Lib.hid (HR4.out.trans (if_pos hfit))
            go_wp2_with fail
            go_quiet (fail)
            go_wp2
            go_ret3
            exact ⟨by rw [HR5.out]; rfl, HB2.out.trans (Drawn0.below ⟨⟨_, rfl⟩⟩ |>.mono HB2.out.size)⟩
          · have HR5 := Lib.hid (HR4.out.trans (if_neg hfit))
            go_wp2_with fail
            go_quiet (fail)
            go_wp2_with fail
            go_quiet (fail)
            go_wp2
            go_ret3
            exact ⟨by rw [HR5.out]; rfl, HB2.out.trans (Drawn0.below (Drawn0.step (Drawn0.step (Drawn0.refl _) _) _) |>.mono HB2.out.size)⟩
    · have HGET := Lib.hid (fun W G hG => front_none s (by omega) h12 W G hG)
      have hr : frontS s = (0, 0, 4) := by unfold frontS; rw [if_neg hL, if_pos (by omega)]
      have HR := Lib.hid hr
      clear hr
      go_enter Try.func21, Try.ntmps21
      go_wp2_with fail
      refine (HGET.out _ _ (by simp)).mono ?_
      rintro e w1 ⟨A, c, rfl, hb⟩
      go_wp2
      go_ret3
      exact ⟨by rw [HR.out]; rfl, hb⟩
end Go.Proofs.Ytgchajlfopmcjaa.P
