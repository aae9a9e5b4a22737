/- head.Get, walked. Condition: texts that are no longer than a machine holds. -/
import Derived.Test.YtfeodnceegkmjaaHeadPutB
import Derived.Test.YtfeodnceegkmjaaBackSpec
namespace Go.Proofs.Ytfeodnceegkmjaa.P
open Go.Shelf Go.RowKit Go.Proofs.YtfeodnceegkmjaaW.PrintWords Go.Proofs.YtfeodnceegkmjaaW.PrintLast Go.Proofs.YtfeodnceegkmjaaW.PrintMore Go.Proofs.Ytfeodnceegkmjaa.BN
set_option linter.unusedVariables false
set_option linter.unusedSimpArgs false
attribute [local go_sem] max2_int min2_int max_two min_two max_three min_three max_four min_four
def sizesA : List Int := [4, 4, 4, 4, 2, 2, 4, 4, 4, 4, 4, 4, 4, 2, -2, 2]
def sizesB : List Int := [4, 2]
def sizesC : List Int := [4, -2, -2, 4, 4, 4, 4, 4, 4, 2, 2]
/-- The number at a place. -/
def ff (s : ByteArray) (at_ m : Nat) (n : Int) : Int := tvl ((bytesl s).drop at_) m n
theorem getA (a : ByteArray) (h : a.size ≤ 140737488351232) : bin_Get.f a 0 sizesA = some (if 54 ≤ a.size then (vals (bytesl a) sizesA, 0) else ([], 4)) := by
  rw [get_spec a 0 sizesA h (by decide)]
  unfold gspec
  rw [if_neg (by decide), if_neg (by omega), show tot sizesA = 54 from rfl]
  rfl
theorem getB (a : ByteArray) (h : a.size ≤ 140737488351232) : bin_Get.f a 0 sizesB = some (if 6 ≤ a.size then (vals (bytesl a) sizesB, 0) else ([], 4)) := by
  rw [get_spec a 0 sizesB h (by decide)]
  unfold gspec
  rw [if_neg (by decide), if_neg (by omega), show tot sizesB = 6 from rfl]
  rfl
theorem getC (a : ByteArray) (h : a.size ≤ 140737488351232) : bin_Get.f a 0 sizesC = some (if 36 ≤ a.size then (vals (bytesl a) sizesC, 0) else ([], 4)) := by
  rw [get_spec a 0 sizesC h (by decide)]
  unfold gspec
  rw [if_neg (by decide), if_neg (by omega), show tot sizesC = 36 from rfl]
  rfl
theorem rdA3 (a : ByteArray) : rd (vals (bytesl a) sizesA) 3 = ff a 12 4 4 := by simp [sizesA, vals, ff, rd, List.drop_drop]
theorem rdA5 (a : ByteArray) : rd (vals (bytesl a) sizesA) 5 = ff a 18 2 2 := by simp [sizesA, vals, ff, rd, List.drop_drop]
theorem rdA14 (a : ByteArray) : rd (vals (bytesl a) sizesA) 14 = ff a 50 2 (-2) := by simp [sizesA, vals, ff, rd, List.drop_drop]
theorem rdB1 (a : ByteArray) : rd (vals (bytesl a) sizesB) 1 = ff a 4 2 2 := by simp [sizesB, vals, ff, rd, List.drop_drop]
theorem rdC1 (a : ByteArray) : rd (vals (bytesl a) sizesC) 1 = ff a 4 2 (-2) := by simp [sizesC, vals, ff, rd, List.drop_drop]
theorem rdC2 (a : ByteArray) : rd (vals (bytesl a) sizesC) 2 = ff a 6 2 (-2) := by simp [sizesC, vals, ff, rd, List.drop_drop]
theorem rdC10 (a : ByteArray) : rd (vals (bytesl a) sizesC) 10 = ff a 34 2 2 := by simp [sizesC, vals, ff, rd, List.drop_drop]
abbrev HeadR := Int × Int × Int × Int × Int × Bool × Int
def noHead (e : Int) : HeadR := (0, 0, 0, 0, 0, false, e)
def getS (a b c : ByteArray) : HeadR :=
  if a.size < 54 ∨ b.size < 6 ∨ c.size < 36 then noHead 4
  else if ff a 12 4 4 ≠ 1594834165 ∨ ff a 50 2 (-2) < 0 ∨ ff a 50 2 (-2) > 1 then noHead 5
  else if headB (ff a 18 2 2) (ff b 4 2 2) (ff c 34 2 2) (ff c 4 2 (-2)) (ff c 6 2 (-2)) = true then (ff a 18 2 2, ff b 4 2 2, ff c 34 2 2, ff c 4 2 (-2), ff c 6 2 (-2), decide (ff a 50 2 (-2) = 1), 0) else noHead 5
theorem row_calls (s : ByteArray) (l : List Int) (hl : l.length ≤ 1000) (r : List Int × Int) (h : bin_Get.f s 0 l = some r) (C : Array Value) (hC : C = (l.map (Value.int .i64)).toArray) (w : World) (g n : Nat) (hg : g = w.heap.size) (hn : n = l.length) :
    Calls Try.prog 17 #[.string s, .int .i64 0, .slice (some ⟨g, 0, none⟩) n n] (w.alloc (.cells C 3)) fun e w' => ∃ v : Value, e = .returned (.tuple #[v, .int .i64 r.2]) ∧ Kd.R (Kd.int .i64) 3 w' (w.heap.size + 1) (fun _ => True) v r.1 ∧ Below w.heap.size w w' := by
  subst hg hn
  have hr : Kd.C (Kd.int .i64) (w.alloc (.cells C 3)) (some ⟨w.heap.size, 0, none⟩) l.length l := K_row l _ _ (by omega) (fun j hj => by
    simp only [World.cell?, heap_alloc_new]
    rw [hC]
    simp [List.getD, List.getElem?_eq_getElem hj])
  have := bin_Get.calls s 0 _ l.length l r.1 r.2 _ hr (Nat.le_refl _) h
  refine this.mono ?_
  rintro e w' ⟨v, he, hv, hb⟩
  exact ⟨v, he, by simpa using hv, ((Below.refl w.heap.size w).alloc (Nat.le_refl _) _).trans (hb.mono (by simp))⟩
set_option maxHeartbeats 8000000 in
set_option maxRecDepth 100000 in
theorem get_short (a b c : ByteArray) (w : World) (ha : a.size ≤ 140737488351232) (hb : b.size ≤ 140737488351232) (hc : c.size ≤ 140737488351232) (h : a.size < 54 ∨ b.size < 6 ∨ c.size < 36) :
    Calls Try.prog 7 #[.string a, .string b, .string c] w fun e w' => e = .returned (.tuple #[.agg #[.int .i64 0, .int .i64 0, .int .i64 0, .int .i64 0, .int .i64 0, .bool false], .int .i64 4]) ∧ Below w.heap.size w w' := by
  obtain ⟨la, ea, hga, hea⟩ : ∃ la ea, bin_Get.f a 0 sizesA = some (la, ea) ∧ ((54 ≤ a.size ∧ ea = 0) ∨ (a.size < 54 ∧ ea = 4)) := by
    rw [getA a ha]
    by_cases h : 54 ≤ a.size
    · rw [if_pos h]; exact ⟨_, _, rfl, .inl ⟨h, rfl⟩⟩
    · rw [if_neg h]; exact ⟨_, _, rfl, .inr ⟨by omega, rfl⟩⟩
  obtain ⟨lb, eb, hgb, heb⟩ : ∃ lb eb, bin_Get.f b 0 sizesB = some (lb, eb) ∧ ((6 ≤ b.size ∧ eb = 0) ∨ (b.size < 6 ∧ eb = 4)) := by
    rw [getB b hb]
    by_cases h : 6 ≤ b.size
    · rw [if_pos h]; exact ⟨_, _, rfl, .inl ⟨h, rfl⟩⟩
    · rw [if_neg h]; exact ⟨_, _, rfl, .inr ⟨by omega, rfl⟩⟩
  obtain ⟨lc, ec, hgc, hec⟩ : ∃ lc ec, bin_Get.f c 0 sizesC = some (lc, ec) ∧ ((36 ≤ c.size ∧ ec = 0) ∨ (c.size < 36 ∧ ec = 4)) := by
    rw [getC c hc]
    by_cases h : 36 ≤ c.size
    · rw [if_pos h]; exact ⟨_, _, rfl, .inl ⟨h, rfl⟩⟩
    · rw [if_neg h]; exact ⟨_, _, rfl, .inr ⟨by omega, rfl⟩⟩
  have hA := fun C hC w g hg => row_calls a sizesA (by decide) _ hga C hC w g sizesA.length hg rfl
  have hB := fun C hC w g hg => row_calls b sizesB (by decide) _ hgb C hC w g sizesB.length hg rfl
  have hC := fun C hC w g hg => row_calls c sizesC (by decide) _ hgc C hC w g sizesC.length hg rfl
  have HE := Lib.hid (show _ ∧ _ ∧ _ ∧ _ from ⟨hea, heb, hec, h⟩)
  have HA := Lib.hid hA
  have HB := Lib.hid hB
  have HC := Lib.hid hC
  clear hA hB hC hga hgb hgc hea heb hec h ha hb hc
  go_enter Try.func7, Try.ntmps7
  go_wp2_with fail
  refine (HA.out _ rfl _ _ (by simp)).mono ?_
  rintro e w1 ⟨v1, rfl, hv1, hb1⟩
  have HB1 := Lib.hid hb1
  clear hb1 hv1
  go_wp2_with fail
  refine (HB.out _ rfl _ _ rfl).mono ?_
  rintro e w2 ⟨v2, rfl, hv2, hb2⟩
  have HB2 := Lib.hid (HB1.out.trans (hb2.mono HB1.out.size))
  clear hb2 hv2 HB1
  go_wp2_with fail
  refine (HC.out _ rfl _ _ rfl).mono ?_
  rintro e w3 ⟨v3, rfl, hv3, hb3⟩
  have HB3 := Lib.hid (HB2.out.trans (hb3.mono HB2.out.size))
  clear hb3 hv3 HB2
  have hblk := (HB3.out.block w.heap.size (by simp)).trans (heap_alloc_new w _)
  have q0 : w3.cell? ⟨w.heap.size, 0, none⟩ = some (.int .i64 0) := Joins.cell_of_block hblk 0
  have f0 : w3.frozen? ⟨w.heap.size, 0, none⟩ = false := Joins.unfrozen_of_block hblk 0
  have q1 : w3.cell? ⟨w.heap.size, 1, none⟩ = some (.int .i64 0) := Joins.cell_of_block hblk 1
  have f1 : w3.frozen? ⟨w.heap.size, 1, none⟩ = false := Joins.unfrozen_of_block hblk 1
  have q2 : w3.cell? ⟨w.heap.size, 2, none⟩ = some (.int .i64 0) := Joins.cell_of_block hblk 2
  have f2 : w3.frozen? ⟨w.heap.size, 2, none⟩ = false := Joins.unfrozen_of_block hblk 2
  have q3 : w3.cell? ⟨w.heap.size, 3, none⟩ = some (.int .i64 0) := Joins.cell_of_block hblk 3
  have f3 : w3.frozen? ⟨w.heap.size, 3, none⟩ = false := Joins.unfrozen_of_block hblk 3
  have q4 : w3.cell? ⟨w.heap.size, 4, none⟩ = some (.int .i64 0) := Joins.cell_of_block hblk 4
  have f4 : w3.frozen? ⟨w.heap.size, 4, none⟩ = false := Joins.unfrozen_of_block hblk 4
  have q5 : w3.cell? ⟨w.heap.size, 5, none⟩ = some (.bool false) := Joins.cell_of_block hblk 5
  have f5 : w3.frozen? ⟨w.heap.size, 5, none⟩ = false := Joins.unfrozen_of_block hblk 5
  have HBK := Lib.hid hblk
  clear HA HB HC hblk
  obtain ⟨hea, heb, hec, h⟩ := HE.out
  clear HE
  rcases hea with ⟨h1, rfl⟩ | ⟨h1, rfl⟩ <;> rcases heb with ⟨h2, rfl⟩ | ⟨h2, rfl⟩ <;> rcases hec with ⟨h3, rfl⟩ | ⟨h3, rfl⟩
  case inl.inl.inl => omega
  all_goals
    clear h h1 h2 h3
    go_wp2_with fail
    refine bodyPost_ret (v := .tuple #[.agg #[.int .i64 0, .int .i64 0, .int .i64 0, .int .i64 0, .int .i64 0, .bool false], .int .i64 4]) (by simp [results, Try.results7, go_sem, q0, q1, q2, q3, q4, q5]) rfl ⟨rfl, ?_⟩
    exact ((((((((Below.refl w.heap.size w).alloc (Nat.le_refl _) _).trans (HB3.out.mono (by simp))).setCell (Nat.le_refl _) _).setCell (Nat.le_refl _) _).setCell (Nat.le_refl _) _).setCell (Nat.le_refl _) _).setCell (Nat.le_refl _) _).setCell (Nat.le_refl _) _
theorem row_cells {w : World} {A : Option Addr} {n : Nat} {l : List Int} (h : Kd.C (Kd.int .i64) w A n l) (hn : n = l.length) (h0 : 0 < l.length) : ∃ ad, A = some ad ∧ ∀ k : Nat, k < l.length → w.cell? (ad.add k) = some (.int .i64 (rd l (k : Int))) := by
  subst hn
  obtain ⟨ad, rfl, _⟩ := Kd.at_int h 0 (by omega) (by omega)
  refine ⟨ad, rfl, fun k hk => ?_⟩
  obtain ⟨ad', e, hc⟩ := Kd.at_int h (k : Int) (by omega) (by omega)
  injection e with e
  subst e
  rwa [Int.toNat_natCast] at hc
set_option maxHeartbeats 8000000 in
set_option maxRecDepth 100000 in
theorem get_main (a b c : ByteArray) (w : World) (ha : a.size ≤ 140737488351232) (hb : b.size ≤ 140737488351232) (hc : c.size ≤ 140737488351232) (h1 : 54 ≤ a.size) (h2 : 6 ≤ b.size) (h3 : 36 ≤ c.size) (m lo u g me az de : Int)
    (em : ff a 12 4 4 = m) (elo : ff a 50 2 (-2) = lo) (eu : ff a 18 2 2 = u) (eg : ff b 4 2 2 = g) (eme : ff c 34 2 2 = me) (eas : ff c 4 2 (-2) = az) (ede : ff c 6 2 (-2) = de) :
    Calls Try.prog 7 #[.string a, .string b, .string c] w fun e w' => e = .returned (.tuple (if m ≠ 1594834165 ∨ lo < 0 ∨ lo > 1 ∨ headB u g me az de = false then #[.agg #[.int .i64 0, .int .i64 0, .int .i64 0, .int .i64 0, .int .i64 0, .bool false], .int .i64 5] else #[.agg #[.int .i64 u, .int .i64 g, .int .i64 me, .int .i64 az, .int .i64 de, .bool (lo == 1)], .int .i64 0])) ∧ Below w.heap.size w w' := by
  have hga := getA a ha
  have hgb := getB b hb
  have hgc := getC c hc
  rw [if_pos h1] at hga
  rw [if_pos h2] at hgb
  rw [if_pos h3] at hgc
  have hA := fun C hC w g hg => row_calls a sizesA (by decide) _ hga C hC w g sizesA.length hg rfl
  have hB := fun C hC w g hg => row_calls b sizesB (by decide) _ hgb C hC w g sizesB.length hg rfl
  have hC := fun C hC w g hg => row_calls c sizesC (by decide) _ hgc C hC w g sizesC.length hg rfl
  have la : (vals (bytesl a) sizesA).length = 16 := vals_length _ _
  have lb : (vals (bytesl b) sizesB).length = 2 := vals_length _ _
  have lc : (vals (bytesl c) sizesC).length = 11 := vals_length _ _
  have ra3 := rdA3 a
  have ra5 := rdA5 a
  have ra14 := rdA14 a
  have rb1 := rdB1 b
  have rc1 := rdC1 c
  have rc2 := rdC2 c
  have rc10 := rdC10 c
  rw [em] at ra3
  rw [eu] at ra5
  rw [elo] at ra14
  rw [eg] at rb1
  rw [eas] at rc1
  rw [ede] at rc2
  rw [eme] at rc10
  generalize vals (bytesl a) sizesA = VA at hA la ra3 ra5 ra14
  generalize vals (bytesl b) sizesB = VB at hB lb rb1
  generalize vals (bytesl c) sizesC = VC at hC lc rc1 rc2 rc10
  have HA := Lib.hid hA
  have HB := Lib.hid hB
  have HC := Lib.hid hC
  have HLA := Lib.hid (show _ ∧ _ ∧ _ ∧ _ from ⟨la, ra3, ra5, ra14⟩)
  have HLB := Lib.hid (show _ ∧ _ from ⟨lb, rb1⟩)
  have HLC := Lib.hid (show _ ∧ _ ∧ _ ∧ _ from ⟨lc, rc1, rc2, rc10⟩)
  have hi := fun w => head_Is.calls u g me az de (lo == 1) (headB u g me az de) w (head_is_f _ _ _ _ _ _)
  generalize hres : (if m ≠ 1594834165 ∨ lo < 0 ∨ lo > 1 ∨ headB u g me az de = false then #[.agg #[.int .i64 0, .int .i64 0, .int .i64 0, .int .i64 0, .int .i64 0, .bool false], .int .i64 5] else #[.agg #[.int .i64 u, .int .i64 g, .int .i64 me, .int .i64 az, .int .i64 de, .bool (lo == 1)], .int .i64 0] : Array Value) = res
  generalize headB u g me az de = hOK at hi hres
  have HRES := Lib.hid hres
  have HI := Lib.hid hi
  clear hA hB hC hga hgb hgc ha hb hc h1 h2 h3 em elo eu eg eme eas ede la lb lc ra3 ra5 ra14 rb1 rc1 rc2 rc10 hres hi
  go_enter Try.func7, Try.ntmps7
  go_wp2_with fail
  refine (HA.out _ rfl _ _ (by simp)).mono ?_
  rintro e w1 ⟨v1, rfl, hv1, hb1⟩
  obtain ⟨A1, c1, rfl, hle1, hC1⟩ := Kd.R_reads hv1
  have HB1 := Lib.hid hb1
  have HV1 := Lib.hid hC1
  clear hb1 hv1 hC1
  go_wp2_with fail
  refine (HB.out _ rfl _ _ rfl).mono ?_
  rintro e w2 ⟨v2, rfl, hv2, hb2⟩
  obtain ⟨A2, c2, rfl, hle2, hC2⟩ := Kd.R_reads hv2
  have HB2 := Lib.hid (HB1.out.trans (hb2.mono HB1.out.size))
  have HV12 := Lib.hid (Kd.C_below HV1.out hb2)
  have HV2 := Lib.hid hC2
  clear hb2 hv2 HB1 HV1 hC2
  go_wp2_with fail
  refine (HC.out _ rfl _ _ rfl).mono ?_
  rintro e w3 ⟨v3, rfl, hv3, hb3⟩
  obtain ⟨A3, c3, rfl, hle3, hC3⟩ := Kd.R_reads hv3
  have HB3 := Lib.hid (HB2.out.trans (hb3.mono HB2.out.size))
  obtain ⟨ad1, rfl, hc1⟩ := row_cells (Kd.C_below HV12.out hb3) rfl (by rw [HLA.out.1]; decide)
  obtain ⟨ad2, rfl, hc2⟩ := row_cells (Kd.C_below HV2.out hb3) rfl (by rw [HLB.out.1]; decide)
  obtain ⟨ad3, rfl, hc3⟩ := row_cells hC3 rfl (by rw [HLC.out.1]; decide)
  have x3 : w3.cell? ⟨ad1.block, ad1.off + 3, none⟩ = some (.int .i64 m) := by
    have hx := hc1 3 (by rw [HLA.out.1]; decide)
    rw [show ((3 : Nat) : Int) = 3 from rfl, HLA.out.2.1] at hx
    exact hx
  have x5 : w3.cell? ⟨ad1.block, ad1.off + 5, none⟩ = some (.int .i64 u) := by
    have hx := hc1 5 (by rw [HLA.out.1]; decide)
    rw [show ((5 : Nat) : Int) = 5 from rfl, HLA.out.2.2.1] at hx
    exact hx
  have x14 : w3.cell? ⟨ad1.block, ad1.off + 14, none⟩ = some (.int .i64 lo) := by
    have hx := hc1 14 (by rw [HLA.out.1]; decide)
    rw [show ((14 : Nat) : Int) = 14 from rfl, HLA.out.2.2.2] at hx
    exact hx
  have y1 : w3.cell? ⟨ad2.block, ad2.off + 1, none⟩ = some (.int .i64 g) := by
    have hx := hc2 1 (by rw [HLB.out.1]; decide)
    rw [show ((1 : Nat) : Int) = 1 from rfl, HLB.out.2] at hx
    exact hx
  have z1 : w3.cell? ⟨ad3.block, ad3.off + 1, none⟩ = some (.int .i64 az) := by
    have hx := hc3 1 (by rw [HLC.out.1]; decide)
    rw [show ((1 : Nat) : Int) = 1 from rfl, HLC.out.2.1] at hx
    exact hx
  have z2 : w3.cell? ⟨ad3.block, ad3.off + 2, none⟩ = some (.int .i64 de) := by
    have hx := hc3 2 (by rw [HLC.out.1]; decide)
    rw [show ((2 : Nat) : Int) = 2 from rfl, HLC.out.2.2.1] at hx
    exact hx
  have z10 : w3.cell? ⟨ad3.block, ad3.off + 10, none⟩ = some (.int .i64 me) := by
    have hx := hc3 10 (by rw [HLC.out.1]; decide)
    rw [show ((10 : Nat) : Int) = 10 from rfl, HLC.out.2.2.2] at hx
    exact hx
  clear hb3 hv3 HB2 hC3 HV2 HV12 hc1 hc2 hc3 HA HB HC
  have hblk := (HB3.out.block w.heap.size (by simp)).trans (heap_alloc_new w _)
  have HBK := Lib.hid hblk
  clear hblk
  rw [HLA.out.1, HLB.out.1, HLC.out.1]
  go_wp2_with fail
  have n1 := World.new_ne w3 _ x3
  have n2 := World.new_ne w3 _ y1
  have n3 := World.new_ne w3 _ z1
  have hw11 : IntKind.i64.wrap (10 : Int) = 10 := by decide
  go_region_held3 (fun w' => w'.cell? ⟨ad1.block, ad1.off + 5, none⟩ = some (.int .i64 u) ∧ w'.cell? ⟨ad1.block, ad1.off + 3, none⟩ = some (.int .i64 m) ∧ w'.cell? ⟨ad2.block, ad2.off + 1, none⟩ = some (.int .i64 g) ∧ w'.cell? ⟨ad3.block, ad3.off + 1, none⟩ = some (.int .i64 az) ∧ w'.cell? ⟨ad3.block, ad3.off + 2, none⟩ = some (.int .i64 de) ∧ w'.cell? ⟨ad3.block, ad3.off + 10, none⟩ = some (.int .i64 me)) (go_keep) (fail)
  all_goals
    clear hw11 n1 n2 n3 x5 x14 y1 z1 z2 z10
    generalize hWg : (w3.alloc (.cells #[.int .i64 u, .int .i64 g, .int .i64 me, .int .i64 az, .int .i64 de, .bool (lo == 1)] 23)).drew = W4
    have hs4 : W4.heap[w3.heap.size]? = some (.cells #[.int .i64 u, .int .i64 g, .int .i64 me, .int .i64 az, .int .i64 de, .bool (lo == 1)] 23 (0, 0)) := by rw [← hWg]; exact heap_alloc_new w3 _
    have hB4 : Below w3.heap.size w3 W4 := by rw [← hWg]; exact below_drew ((Below.refl w3.heap.size w3).alloc (Nat.le_refl _) _)
    have y3 : W4.cell? ⟨ad1.block, ad1.off + 3, none⟩ = some (.int .i64 m) := (hB4.cell (World.block_lt_of_cell? _ _ x3)).trans x3
    have hblk := (hB4.block w.heap.size (nocell_lt HBK.out)).trans HBK.out
    have hB04 : Below w.heap.size w W4 := ((Below.refl w.heap.size w).alloc (Nat.le_refl _) _).trans ((HB3.out.mono (by simp)).trans (hB4.mono (Nat.le_of_lt (nocell_lt HBK.out))))
    have HS4 := Lib.hid hs4
    have HBW := Lib.hid hB04
    have HBLK := Lib.hid hblk
    have s0 := Joins.cell_of_block hs4 0
    have s1 := Joins.cell_of_block hs4 1
    have s2 := Joins.cell_of_block hs4 2
    have s3 := Joins.cell_of_block hs4 3
    have s4 := Joins.cell_of_block hs4 4
    have s5 := Joins.cell_of_block hs4 5
    simp at s0 s1 s2 s3 s4 s5
    clear hWg hB4 x3 hs4 hB04 hblk HB3 HBK
    by_cases hm : m = 1594834165
    · subst hm
      have hblk := HBLK.out
      have q0 : W4.cell? ⟨w.heap.size, 0, none⟩ = some (.int .i64 0) := Joins.cell_of_block hblk 0
      have f0 : W4.frozen? ⟨w.heap.size, 0, none⟩ = false := Joins.unfrozen_of_block hblk 0
      have q1 : W4.cell? ⟨w.heap.size, 1, none⟩ = some (.int .i64 0) := Joins.cell_of_block hblk 1
      have f1 : W4.frozen? ⟨w.heap.size, 1, none⟩ = false := Joins.unfrozen_of_block hblk 1
      have q2 : W4.cell? ⟨w.heap.size, 2, none⟩ = some (.int .i64 0) := Joins.cell_of_block hblk 2
      have f2 : W4.frozen? ⟨w.heap.size, 2, none⟩ = false := Joins.unfrozen_of_block hblk 2
      have q3 : W4.cell? ⟨w.heap.size, 3, none⟩ = some (.int .i64 0) := Joins.cell_of_block hblk 3
      have f3 : W4.frozen? ⟨w.heap.size, 3, none⟩ = false := Joins.unfrozen_of_block hblk 3
      have q4 : W4.cell? ⟨w.heap.size, 4, none⟩ = some (.int .i64 0) := Joins.cell_of_block hblk 4
      have f4 : W4.frozen? ⟨w.heap.size, 4, none⟩ = false := Joins.unfrozen_of_block hblk 4
      have q5 : W4.cell? ⟨w.heap.size, 5, none⟩ = some (.bool false) := Joins.cell_of_block hblk 5
      have f5 : W4.frozen? ⟨w.heap.size, 5, none⟩ = false := Joins.unfrozen_of_block hblk 5
      by_cases h0 : lo < 0
      · clear hblk
        go_wp2_with fail
        refine bodyPost_ret (v := .tuple #[.agg #[.int .i64 0, .int .i64 0, .int .i64 0, .int .i64 0, .int .i64 0, .bool false], .int .i64 5]) (by simp [results, Try.results7, go_sem, q0, q1, q2, q3, q4, q5]) rfl ⟨by rw [← HRES.out, if_pos (.inr (.inl h0))], ?_⟩
        exact ((((((HBW.out.setCell (Nat.le_refl _) _).setCell (Nat.le_refl _) _).setCell (Nat.le_refl _) _).setCell (Nat.le_refl _) _).setCell (Nat.le_refl _) _).setCell (Nat.le_refl _) _)
      by_cases h1 : lo > 1
      · clear hblk
        go_wp2_with fail
        refine bodyPost_ret (v := .tuple #[.agg #[.int .i64 0, .int .i64 0, .int .i64 0, .int .i64 0, .int .i64 0, .bool false], .int .i64 5]) (by simp [results, Try.results7, go_sem, q0, q1, q2, q3, q4, q5]) rfl ⟨by rw [← HRES.out, if_pos (.inr (.inr (.inl h1)))], ?_⟩
        exact ((((((HBW.out.setCell (Nat.le_refl _) _).setCell (Nat.le_refl _) _).setCell (Nat.le_refl _) _).setCell (Nat.le_refl _) _).setCell (Nat.le_refl _) _).setCell (Nat.le_refl _) _)
      have h2 : 0 ≤ lo := by omega
      have h3 : lo ≤ 1 := by omega
      clear q0 f0 q1 f1 q2 f2 q3 f3 q4 f4 q5 f5 hblk
      have HL := Lib.hid (show ¬ lo < 0 ∧ ¬ lo > 1 from ⟨h0, h1⟩)
      clear h0 h1
      cases hok : hOK
      · rw [hok] at HI
        go_wp2_with (go_at_call 14; refine (HI.out _).mono ?_; rintro e w5 ⟨rfl, hb5⟩; have hblk := (hb5.block w.heap.size (nocell_lt HBLK.out)).trans HBLK.out; have HB5 := Lib.hid (HBW.out.trans (hb5.mono HBW.out.size)); have q0 : w5.cell? ⟨w.heap.size, 0, none⟩ = some (.int .i64 0) := Joins.cell_of_block hblk 0; have f0 : w5.frozen? ⟨w.heap.size, 0, none⟩ = false := Joins.unfrozen_of_block hblk 0; have q1 : w5.cell? ⟨w.heap.size, 1, none⟩ = some (.int .i64 0) := Joins.cell_of_block hblk 1; have f1 : w5.frozen? ⟨w.heap.size, 1, none⟩ = false := Joins.unfrozen_of_block hblk 1; have q2 : w5.cell? ⟨w.heap.size, 2, none⟩ = some (.int .i64 0) := Joins.cell_of_block hblk 2; have f2 : w5.frozen? ⟨w.heap.size, 2, none⟩ = false := Joins.unfrozen_of_block hblk 2; have q3 : w5.cell? ⟨w.heap.size, 3, none⟩ = some (.int .i64 0) := Joins.cell_of_block hblk 3; have f3 : w5.frozen? ⟨w.heap.size, 3, none⟩ = false := Joins.unfrozen_of_block hblk 3; have q4 : w5.cell? ⟨w.heap.size, 4, none⟩ = some (.int .i64 0) := Joins.cell_of_block hblk 4; have f4 : w5.frozen? ⟨w.heap.size, 4, none⟩ = false := Joins.unfrozen_of_block hblk 4; have q5 : w5.cell? ⟨w.heap.size, 5, none⟩ = some (.bool false) := Joins.cell_of_block hblk 5; have f5 : w5.frozen? ⟨w.heap.size, 5, none⟩ = false := Joins.unfrozen_of_block hblk 5; clear hb5 hblk)
        refine bodyPost_ret (v := .tuple #[.agg #[.int .i64 0, .int .i64 0, .int .i64 0, .int .i64 0, .int .i64 0, .bool false], .int .i64 5]) (by simp [results, Try.results7, go_sem, q0, q1, q2, q3, q4, q5]) rfl ⟨by rw [← HRES.out, if_pos (.inr (.inr (.inr hok)))], ?_⟩
        exact ((((((HB5.out.setCell (Nat.le_refl _) _).setCell (Nat.le_refl _) _).setCell (Nat.le_refl _) _).setCell (Nat.le_refl _) _).setCell (Nat.le_refl _) _).setCell (Nat.le_refl _) _)
      · rw [hok] at HI
        go_wp2_with (go_at_call 14; refine (HI.out _).mono ?_; rintro e w5 ⟨rfl, hb5⟩; have hblk := (hb5.block w.heap.size (nocell_lt HBLK.out)).trans HBLK.out; have hs5 := (hb5.block w3.heap.size (nocell_lt HS4.out)).trans HS4.out; have HB5 := Lib.hid (HBW.out.trans (hb5.mono HBW.out.size)); have q0 : w5.cell? ⟨w.heap.size, 0, none⟩ = some (.int .i64 0) := Joins.cell_of_block hblk 0; have f0 : w5.frozen? ⟨w.heap.size, 0, none⟩ = false := Joins.unfrozen_of_block hblk 0; have q1 : w5.cell? ⟨w.heap.size, 1, none⟩ = some (.int .i64 0) := Joins.cell_of_block hblk 1; have f1 : w5.frozen? ⟨w.heap.size, 1, none⟩ = false := Joins.unfrozen_of_block hblk 1; have q2 : w5.cell? ⟨w.heap.size, 2, none⟩ = some (.int .i64 0) := Joins.cell_of_block hblk 2; have f2 : w5.frozen? ⟨w.heap.size, 2, none⟩ = false := Joins.unfrozen_of_block hblk 2; have q3 : w5.cell? ⟨w.heap.size, 3, none⟩ = some (.int .i64 0) := Joins.cell_of_block hblk 3; have f3 : w5.frozen? ⟨w.heap.size, 3, none⟩ = false := Joins.unfrozen_of_block hblk 3; have q4 : w5.cell? ⟨w.heap.size, 4, none⟩ = some (.int .i64 0) := Joins.cell_of_block hblk 4; have f4 : w5.frozen? ⟨w.heap.size, 4, none⟩ = false := Joins.unfrozen_of_block hblk 4; have q5 : w5.cell? ⟨w.heap.size, 5, none⟩ = some (.bool false) := Joins.cell_of_block hblk 5; have f5 : w5.frozen? ⟨w.heap.size, 5, none⟩ = false := Joins.unfrozen_of_block hblk 5; have t0 := Joins.cell_of_block hs5 0; have t1 := Joins.cell_of_block hs5 1; have t2 := Joins.cell_of_block hs5 2; have t3 := Joins.cell_of_block hs5 3; have t4 := Joins.cell_of_block hs5 4; have t5 := Joins.cell_of_block hs5 5; simp at t0 t1 t2 t3 t4 t5; clear hb5 hblk hs5)
        refine bodyPost_ret (v := .tuple #[.agg #[.int .i64 u, .int .i64 g, .int .i64 me, .int .i64 az, .int .i64 de, .bool (lo == 1)], .int .i64 0]) (by simp [results, Try.results7, go_sem, q0, q1, q2, q3, q4, q5]) rfl ⟨by rw [← HRES.out, if_neg (by have h := HL.out; simp [hok]; omega)], ?_⟩
        exact ((((((HB5.out.setCell (Nat.le_refl _) _).setCell (Nat.le_refl _) _).setCell (Nat.le_refl _) _).setCell (Nat.le_refl _) _).setCell (Nat.le_refl _) _).setCell (Nat.le_refl _) _)
    · have m1 : (m == 1594834165) = false := by simpa using hm
      have m2 : (m != 1594834165) = true := by simpa using hm
      have hblk := HBLK.out
      have q0 : W4.cell? ⟨w.heap.size, 0, none⟩ = some (.int .i64 0) := Joins.cell_of_block hblk 0
      have f0 : W4.frozen? ⟨w.heap.size, 0, none⟩ = false := Joins.unfrozen_of_block hblk 0
      have q1 : W4.cell? ⟨w.heap.size, 1, none⟩ = some (.int .i64 0) := Joins.cell_of_block hblk 1
      have f1 : W4.frozen? ⟨w.heap.size, 1, none⟩ = false := Joins.unfrozen_of_block hblk 1
      have q2 : W4.cell? ⟨w.heap.size, 2, none⟩ = some (.int .i64 0) := Joins.cell_of_block hblk 2
      have f2 : W4.frozen? ⟨w.heap.size, 2, none⟩ = false := Joins.unfrozen_of_block hblk 2
      have q3 : W4.cell? ⟨w.heap.size, 3, none⟩ = some (.int .i64 0) := Joins.cell_of_block hblk 3
      have f3 : W4.frozen? ⟨w.heap.size, 3, none⟩ = false := Joins.unfrozen_of_block hblk 3
      have q4 : W4.cell? ⟨w.heap.size, 4, none⟩ = some (.int .i64 0) := Joins.cell_of_block hblk 4
      have f4 : W4.frozen? ⟨w.heap.size, 4, none⟩ = false := Joins.unfrozen_of_block hblk 4
      have q5 : W4.cell? ⟨w.heap.size, 5, none⟩ = some (.bool false) := Joins.cell_of_block hblk 5
      have f5 : W4.frozen? ⟨w.heap.size, 5, none⟩ = false := Joins.unfrozen_of_block hblk 5
      clear hm hblk
      go_wp2_with fail
      refine bodyPost_ret (v := .tuple #[.agg #[.int .i64 0, .int .i64 0, .int .i64 0, .int .i64 0, .int .i64 0, .bool false], .int .i64 5]) (by simp [results, Try.results7, go_sem, q0, q1, q2, q3, q4, q5]) rfl ⟨by rw [← HRES.out, if_pos (.inl (by simpa using m1))], ?_⟩
      exact ((((((HBW.out.setCell (Nat.le_refl _) _).setCell (Nat.le_refl _) _).setCell (Nat.le_refl _) _).setCell (Nat.le_refl _) _).setCell (Nat.le_refl _) _).setCell (Nat.le_refl _) _)
def head_Get.f (a b c : ByteArray) : Option HeadR := if a.size ≤ 140737488351232 ∧ b.size ≤ 140737488351232 ∧ c.size ≤ 140737488351232 then some (getS a b c) else none
theorem head_Get.calls (a0 a1 a2 : ByteArray) (r1 r2 r3 r4 r5 : Int) (r6 : Bool) (r7 : Int) (w : World) (h : head_Get.f a0 a1 a2 = some (r1, r2, r3, r4, r5, r6, r7)) :
    Calls Try.prog 7 #[.string a0, .string a1, .string a2] w fun e w' => e = .returned (.tuple #[.agg #[.int .i64 r1, .int .i64 r2, .int .i64 r3, .int .i64 r4, .int .i64 r5, .bool r6], .int .i64 r7]) ∧ Below w.heap.size w w' := by
  unfold head_Get.f at h
  by_cases hs : a0.size ≤ 140737488351232 ∧ a1.size ≤ 140737488351232 ∧ a2.size ≤ 140737488351232
  · rw [if_pos hs] at h
    have h := Option.some.inj h
    unfold getS noHead at h
    by_cases h1 : a0.size < 54 ∨ a1.size < 6 ∨ a2.size < 36
    · rw [if_pos h1] at h
      simp only [Prod.mk.injEq] at h
      obtain ⟨rfl, rfl, rfl, rfl, rfl, rfl, rfl⟩ := h
      exact get_short a0 a1 a2 w hs.1 hs.2.1 hs.2.2 h1
    · rw [if_neg h1] at h
      have hm := get_main a0 a1 a2 w hs.1 hs.2.1 hs.2.2 (by omega) (by omega) (by omega) _ _ _ _ _ _ _ rfl rfl rfl rfl rfl rfl rfl
      by_cases h2 : ff a0 12 4 4 ≠ 1594834165 ∨ ff a0 50 2 (-2) < 0 ∨ ff a0 50 2 (-2) > 1
      · rw [if_pos h2] at h
        rw [if_pos (h2.elim .inl fun h => .inr (h.elim .inl fun h => .inr (.inl h)))] at hm
        simp only [Prod.mk.injEq] at h
        obtain ⟨rfl, rfl, rfl, rfl, rfl, rfl, rfl⟩ := h
        exact hm
      · rw [if_neg h2] at h
        cases hb : headB (ff a0 18 2 2) (ff a1 4 2 2) (ff a2 34 2 2) (ff a2 4 2 (-2)) (ff a2 6 2 (-2))
        · rw [if_pos (.inr (.inr (.inr hb)))] at hm
          rw [hb] at h
          simp only [Bool.false_eq_true, if_false, Prod.mk.injEq] at h
          obtain ⟨rfl, rfl, rfl, rfl, rfl, rfl, rfl⟩ := h
          exact hm
        · rw [if_neg (fun h => h.elim (fun h => h2 (.inl h)) fun h => h.elim (fun h => h2 (.inr (.inl h))) fun h => h.elim (fun h => h2 (.inr (.inr h))) fun h => absurd (hb.symm.trans h) (by decide))] at hm
          rw [hb] at h
          simp only [if_true, Prod.mk.injEq] at h
          obtain ⟨rfl, rfl, rfl, rfl, rfl, rfl, rfl⟩ := h
          exact hm
  · rw [if_neg hs] at h; exact absurd h (by simp)
end Go.Proofs.Ytfeodnceegkmjaa.P
