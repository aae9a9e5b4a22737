/- (*sfnt.file).read, walked: the next record and its table. Conditions: a text of at most 2^24 bytes that has room for so many records, at most 64. -/
import Derived.Test.YtgchajlfopmcjaaSfReadA
import Derived.Test.YtgchajlfopmcjaaSfRight
import Derived.Deep.RegionHeld3
import Derived.Deep.AppendLies
import Derived.Deep.DrawnRows
namespace Go.Proofs.Ytgchajlfopmcjaa.P
open Go.Shelf Go.RowKit Go.Proofs.YtgchajlfopmcjaaW.PrintWords Go.Proofs.YtgchajlfopmcjaaW.PrintLast Go.Proofs.YtgchajlfopmcjaaW.PrintMore Go.Proofs.Ytgchajlfopmcjaa.BN
set_option linter.unusedVariables false
set_option linter.unusedSimpArgs false
set_option maxRecDepth 100000
attribute [local go_sem ↓] Go.wp_at_zero Go.wp_at_succ
/-- What is known behind the append. -/
structure Mid (B : Nat) (w w4 : World) (g X : Nat) (s : ByteArray) (n g' cap : Nat) : Prop where
  file : FileAt B w4 g s (recsE s (n + 1))
  below : Below B w w4
  kept : KeptT w w4
  c0 : w4.cell? ⟨g, 0, none⟩ = some (.string s)
  c1 : w4.cell? ⟨g, 1, none⟩ = some (.slice (some ⟨g', 0, none⟩) (n + 1) cap)
  x : w4.heap[X]? = some (.cells #[.int .i64 (recE s n).f0.f0, .int .i64 (recE s n).f0.f1, .string (recE s n).f1, .int .i64 (recE s n).f2] 85 (0, 0))
  r : w4.heap[w.heap.size]? = some (.cells #[.string ⟨#[]⟩, .string ⟨#[]⟩] 33 (0, 0))
  prev : 0 < n → w4.cell? ⟨g', (n - 1) * 4 + 2, none⟩ = some (.string (recE s (n - 1)).f1)
theorem recsE_getD (s : ByteArray) (n j : Nat) (h : j < n) : (recsE s n).getD j zE85 = recE s j := by
  unfold recsE
  rw [List.getD_eq_getElem?_getD, List.getElem?_map, List.getElem?_range h]; rfl
theorem mid_facts {B : Nat} {w w1 w2 w3 : World} {g X g' cap n c : Nat} {A : Option Addr} {s : ByteArray} {x : E85} (hx : recE s n = x) (hBg : B ≤ g) (hB : B ≤ w.heap.size) (hg : w.heap[g]? = some (.cells #[.string s, .slice A n c] 49 (0, 0)))
    (ho : w.ownsRow B 85 4 (.slice A n c) n (cellsE (recsE s n))) (h1 : Below w.heap.size w w1) (hr : w1.heap[w.heap.size]? = some (.cells #[.string ⟨#[]⟩, .string ⟨#[]⟩] 33 (0, 0))) (hs1 : w.heap.size + 1 ≤ w1.heap.size)
    (h2 : Below w1.heap.size w1 w2) (hX : X = w1.heap.size) (hxb : w2.heap[X]? = some (.cells #[.int .i64 x.f0.f0, .int .i64 x.f0.f1, .string x.f1, .int .i64 x.f2] 85 (0, 0)))
    (ho3 : w3.ownsRow B 85 4 (.slice (some ⟨g', 0, none⟩) (n + 1) cap) (n + 1) (cellsE (recsE s n) ++ [.int .i64 x.f0.f0, .int .i64 x.f0.f1, .string x.f1, .int .i64 x.f2]))
    (hg3 : w2.grownBy w3 (Value.slice A n c).ownBlock) :
    (w3.cell? ⟨g, 1, none⟩ = some (.slice A n c) ∧ w3.frozen? ⟨g, 1, none⟩ = false ∧ w3.heap[X]? = w2.heap[X]?) ∧ Mid B w (w3.setCell ⟨g, 1, none⟩ (.slice (some ⟨g', 0, none⟩) (n + 1) cap)) g X s n g' cap := by
  subst hx hX
  have hgl := blk_lt hg
  have hne : some g ≠ (Value.slice A n c).ownBlock := own_ne ho hg (by decide)
  have hlt : ∀ k, (Value.slice A n c).ownBlock = some k → B ≤ k ∧ k < w.heap.size := fun k hk => ⟨own_base ho k hk, own_lt ho k hk⟩
  have h12 : Below w.heap.size w w2 := h1.trans (h2.mono h1.size)
  have hg2 : w2.heap[g]? = some (.cells #[.string s, .slice A n c] 49 (0, 0)) := (h12.block g hgl).trans hg
  have hgw3 : w3.heap[g]? = some (.cells #[.string s, .slice A n c] 49 (0, 0)) := (hg3.block g (Nat.lt_of_lt_of_le hgl h12.size) hne).trans hg2
  have hx3 : w3.heap[w1.heap.size]? = w2.heap[w1.heap.size]? := hg3.block _ (blk_lt hxb) (fun e => by have := (hlt _ e.symm).2; omega)
  have hr2 : w2.heap[w.heap.size]? = some (.cells #[.string ⟨#[]⟩, .string ⟨#[]⟩] 33 (0, 0)) := (h2.block _ (by omega)).trans hr
  have hr3 : w3.heap[w.heap.size]? = some (.cells #[.string ⟨#[]⟩, .string ⟨#[]⟩] 33 (0, 0)) := (hg3.block _ (blk_lt hr2) (fun e => by have := (hlt _ e.symm).2; omega)).trans hr2
  have hbel : Below B w w3 := Below.grown (h12.mono hB) hg3 (Nat.le_trans hB h12.size) (fun k hk => (hlt k hk).1)
  have hrows : cellsE (recsE s n) ++ encE (recE s n) = cellsE (recsE s (n + 1)) := by rw [recsE_succ, cellsE, cellsE, List.flatMap_append]; simp
  have ho3' : w3.ownsRow B 85 4 (.slice (some ⟨g', 0, none⟩) (n + 1) cap) (n + 1) (cellsE (recsE s (n + 1))) := by rw [← hrows]; exact ho3
  have hgg : g ≠ g' := fun e => by
    subst e
    have h4 := own_ne ho3' hgw3 (by decide)
    exact h4 rfl
  have ho4 : (w3.setCell ⟨g, 1, none⟩ (.slice (some ⟨g', 0, none⟩) (n + 1) cap)).ownsRow B 85 4 (.slice (some ⟨g', 0, none⟩) (n + 1) cap) (n + 1) (cellsE (recsE s (n + 1))) := own_setCell ho3' (p := ⟨g, 1, none⟩) (by simp [Value.ownBlock]; exact hgg) _
  have hg4 := blk_set hgw3 1 (.slice (some ⟨g', 0, none⟩) (n + 1) cap)
  refine ⟨⟨by rw [blk_cell hgw3]; rfl, blk_frozen hgw3 1, hx3⟩, ?_⟩
  exact {
    file := ⟨hBg, _, hg4, by rw [recsE_length]; exact ho4⟩
    below := hbel.setCell hBg _
    kept := KeptT.trans (KeptT.trans (KeptT.below h12) (KeptT.grown hg3 (fun k hk => by
      have e := (h12.block k (hlt k hk).2)
      obtain ⟨cells, h⟩ := own_typed ho k hk
      exact ⟨cells, (0, 0), e.trans h⟩))) (KeptT.set_ hgw3 1 _)
    c0 := by rw [blk_cell hg4]; rfl
    c1 := by rw [blk_cell hg4]; rfl
    x := by rw [Below.heap_setCell w3 ⟨g, 1, none⟩ _ _ (by show w1.heap.size ≠ g; have := h1.size; omega), hx3]; exact hxb
    r := by rw [Below.heap_setCell w3 ⟨g, 1, none⟩ _ _ (by show w.heap.size ≠ g; omega)]; exact hr3
    prev := fun h0 => by
      rw [World.ownsRow.cellAt ho4 ((n - 1) * 4 + 2) (by omega), cellsE_at _ (n - 1) 2 (by rw [recsE_length]; omega) (by decide), recsE_getD s (n + 1) (n - 1) (by omega)]
      rfl }
theorem mid_end {B : Nat} {w w4 w5 : World} {g X g' cap n : Nat} {s : ByteArray} (hm : Mid B w w4 g X s n g' cap) (hB : B ≤ w.heap.size) (hb : Below w4.heap.size w4 w5) (u v : Value) :
    FileAt B ((w5.setCell ⟨w.heap.size, 0, none⟩ u).setCell ⟨w.heap.size, 1, none⟩ v) g s (recsE s (n + 1)) ∧ Below B w ((w5.setCell ⟨w.heap.size, 0, none⟩ u).setCell ⟨w.heap.size, 1, none⟩ v) ∧ KeptT w ((w5.setCell ⟨w.heap.size, 0, none⟩ u).setCell ⟨w.heap.size, 1, none⟩ v) := by
  have hr5 := (hb.block _ (blk_lt hm.r)).trans hm.r
  obtain ⟨hBg, vv, hg4, ho4⟩ := hm.file
  have hg5 := (hb.block _ (blk_lt hg4)).trans hg4
  have ho5 := pw_own_below ho4 hb
  have n1 : w.heap.size ≠ g := blk_ne hr5 hg5 (by decide)
  have n2 : some w.heap.size ≠ vv.ownBlock := own_ne ho5 hr5 (by decide)
  have hbe : Below B w w5 := hm.below.trans (hb.mono (Nat.le_trans hB hm.below.size))
  refine ⟨⟨hBg, vv, ?_, ?_⟩, (hbe.setCell hB _).setCell hB _, ?_⟩
  · rw [Below.heap_setCell _ ⟨w.heap.size, 1, none⟩ v g (Ne.symm n1), Below.heap_setCell _ ⟨w.heap.size, 0, none⟩ u g (Ne.symm n1)]; exact hg5
  · exact own_setCell (own_setCell ho5 (p := ⟨w.heap.size, 0, none⟩) n2 u) (p := ⟨w.heap.size, 1, none⟩) n2 v
  · have hk := KeptT.trans hm.kept (KeptT.below hb)
    refine ⟨by simp; exact hk.1, fun k cells T fr h1 h2 h3 => ?_⟩
    have hlt := blk_lt h1
    rw [Below.heap_setCell _ ⟨w.heap.size, 1, none⟩ v k (by show k ≠ w.heap.size; omega), Below.heap_setCell _ ⟨w.heap.size, 0, none⟩ u k (by show k ≠ w.heap.size; omega)]
    exact hk.2 k cells T fr h1 h2 h3
theorem keep4 {W W' : World} (hb : Below W.heap.size W W') {a b c d : Addr} {va vb vc vd : Value} (h : W.cell? a = some va ∧ W.cell? b = some vb ∧ W.cell? c = some vc ∧ W.cell? d = some vd) :
    W'.cell? a = some va ∧ W'.cell? b = some vb ∧ W'.cell? c = some vc ∧ W'.cell? d = some vd := ⟨pw_cell_below hb h.1, pw_cell_below hb h.2.1, pw_cell_below hb h.2.2.1, pw_cell_below hb h.2.2.2⟩
theorem keep4s {W : World} {Y i : Nat} {u : Value} {a b c d : Addr} {va vb vc vd : Value} (ha : ¬ a.block = Y) (hb : ¬ b.block = Y) (hc : ¬ c.block = Y) (hd : ¬ d.block = Y) (h : W.cell? a = some va ∧ W.cell? b = some vb ∧ W.cell? c = some vc ∧ W.cell? d = some vd) :
    (W.setCell ⟨Y, i, none⟩ u).cell? a = some va ∧ (W.setCell ⟨Y, i, none⟩ u).cell? b = some vb ∧ (W.setCell ⟨Y, i, none⟩ u).cell? c = some vc ∧ (W.setCell ⟨Y, i, none⟩ u).cell? d = some vd := by
  have k : ∀ q : Addr, ¬ q.block = Y → (W.setCell ⟨Y, i, none⟩ u).cell? q = W.cell? q := fun q hq => World.cell?_of_block (Below.heap_setCell W ⟨Y, i, none⟩ u q.block hq)
  rw [k a ha, k b hb, k c hc, k d hd]
  exact h
theorem new_cells {w w2 : World} {C : Array Value} {T : TypeId} (hb : Below (w.alloc (.cells C T)).heap.size (w.alloc (.cells C T)) w2) : w2.heap[w.heap.size]? = some (.cells C T (0, 0)) := (hb.block _ (by simp)).trans (heap_alloc_new w _)
theorem new_cellsD {w w2 : World} {C : Array Value} {T : TypeId} (hb : Below (w.alloc (.cells C T)).drew.heap.size (w.alloc (.cells C T)).drew w2) : w2.heap[w.heap.size]? = some (.cells C T (0, 0)) := (hb.block w.heap.size (by show w.heap.size < (w.alloc (.cells C T)).heap.size; simp)).trans (heap_alloc_new w _)
theorem tail1 {w4 w6 w7 : World} {o : Obj} (h6 : Below w4.heap.size w4 w6) (hbk : Below w6.drew.heap.size w6.drew w7) : Below w4.heap.size w4 (w7.alloc o) := by
  have h7 : Below w6.heap.size w6 w7 := (below_drew (Below.refl w6.heap.size w6)).trans hbk
  have h8 : Below w4.heap.size w4 w7 := h6.trans (h7.mono h6.size)
  exact below_alloc h8 _
theorem tail2 {w4 w6 w7 : World} {C : Array Value} {T : TypeId} {u v : Value} (h6 : Below w4.heap.size w4 w6) (hbk : Below (w6.alloc (.cells C T)).drew.heap.size (w6.alloc (.cells C T)).drew w7) :
    Below w4.heap.size w4 ((w7.setCell ⟨w6.heap.size, 0, none⟩ u).setCell ⟨w6.heap.size, 1, none⟩ v) := by
  have h7 : Below w6.heap.size w6 w7 := (below_drew (below_alloc (Below.refl w6.heap.size w6) _)).trans (hbk.mono (by show w6.heap.size ≤ (w6.alloc (.cells C T)).heap.size; simp))
  have h8 : Below w4.heap.size w4 w7 := h6.trans (h7.mono h6.size)
  exact (h8.setCell h6.size _).setCell h6.size _
theorem two_set {W : World} {Y : Nat} {u v a b : Value} (h0 : W.cell? ⟨Y, 0, none⟩ = some a) (h1 : W.cell? ⟨Y, 1, none⟩ = some b) :
    ((W.setCell ⟨Y, 0, none⟩ u).setCell ⟨Y, 1, none⟩ v).cell? ⟨Y, 0, none⟩ = some u ∧ ((W.setCell ⟨Y, 0, none⟩ u).setCell ⟨Y, 1, none⟩ v).cell? ⟨Y, 1, none⟩ = some v := by
  refine ⟨?_, ?_⟩
  · rw [World.cell?_setCell_other _ _ _ _ (by simp)]
    exact World.cell?_setCell_same _ _ _ h0
  · exact World.cell?_setCell_same _ _ _ ((World.cell?_setCell_other _ _ _ _ (by simp)).trans h1)
theorem rec_cut (s : ByteArray) (n : Nat) (h : 12 + 16 * n + 4 ≤ s.size) : recE s n = ⟨⟨nm s (12 + 16 * n + 4 + 4), nm s (12 + 16 * n + 4 + 8)⟩, (s.extract (12 + 16 * n) s.size).extract 0 4, nm s (12 + 16 * n + 4)⟩ := by
  have e : (s.extract (12 + 16 * n) s.size).extract 0 4 = s.extract (12 + 16 * n) (12 + 16 * n + 4) := by
    rw [ByteArray.extract_extract]
    congr 1
    omega
  rw [e]
  rfl
set_option maxHeartbeats 8000000 in
theorem read_calls (B g : Nat) (s : ByteArray) (n many : Nat) (w : World) (hf : FileAt B w g s (recsE s n)) (hB : B ≤ w.heap.size) (hs : s.size ≤ 16777216) (hn : n < many) (hmany : many ≤ 64) (hfit : 12 + 16 * many ≤ s.size) :
    Calls Try.prog 22 #[.pointer (some ⟨g, 0, none⟩), .int .i64 (many : Int)] w fun e w' =>
      e = .returned (.tuple #[.agg #[.string (tabR s many n).f0, .string (tabR s many n).f1], .int .i64 (errR s many n)]) ∧ FileAt B w' g s (recsE s (n + 1)) ∧ Below B w w' ∧ KeptT w w' := by
  obtain ⟨hBg, v, hg, ho⟩ := hf
  rw [recsE_length] at ho
  obtain ⟨A, c, rfl⟩ := own_slice ho
  have c0 : w.cell? ⟨g, 0, none⟩ = some (.string s) := by rw [blk_cell hg]; rfl
  have c1 : w.cell? ⟨g, 1, none⟩ = some (.slice A n c) := by rw [blk_cell hg]; rfl
  have hgl := blk_lt hg
  have hgne : ¬ (g = w.heap.size) := by omega
  have hgne2 : ¬ (g = w.heap.size + 1) := by omega
  have HG := Lib.hid hg
  have HO := Lib.hid ho
  have hGET := Lib.hid (fun W G hG => read_get s (12 + 16 * n + 4) hs (by omega) W G hG)
  have hat : (12 : Int) + 16 * (n : Int) + 4 = ((12 + 16 * n + 4 : Nat) : Int) := by omega
  have HAT := Lib.hid hat
  obtain ⟨s1, hx1⟩ : ∃ s1, s.extract (12 + 16 * n) s.size = s1 := ⟨_, rfl⟩
  obtain ⟨tg, hx2⟩ : ∃ tg, s1.extract 0 4 = tg := ⟨_, rfl⟩
  have hz1 : s1.size = s.size - (12 + 16 * n) := by rw [← hx1]; simp
  have hz2 : 4 ≤ s1.size := by omega
  have hz3 : (4 : Int) ≤ (s1.size : Int) := by omega
  have hz4 : (12 : Int) + 16 * (n : Int) ≤ (s.size : Int) := by omega
  have hz6 : (4 : Int) ≤ ((s.size - ((12 : Int) + 16 * (n : Int)).toNat : Nat) : Int) := by omega
  have hz5 : (0 : Int) ≤ (12 : Int) + 16 * (n : Int) := by omega
  have HZ1 := Lib.hid hz1
  obtain ⟨nsum, hq0⟩ : ∃ x, nm s (12 + 16 * n + 4) = x := ⟨_, rfl⟩
  obtain ⟨nat, hq1⟩ : ∃ x, nm s (12 + 16 * n + 4 + 4) = x := ⟨_, rfl⟩
  obtain ⟨nmany, hq2⟩ : ∃ x, nm s (12 + 16 * n + 4 + 8) = x := ⟨_, rfl⟩
  have hrec : recE s n = ⟨⟨nat, nmany⟩, tg, nsum⟩ := by
    rw [← hq0, ← hq1, ← hq2, ← hx2, ← hx1]
    exact rec_cut s n (by omega)
  have HREC := Lib.hid hrec
  have HQ0 := Lib.hid hq0
  have HQ1 := Lib.hid hq1
  have HQ2 := Lib.hid hq2
  clear hg ho hat hz1 hrec hq0 hq1 hq2
  go_enter Try.func22, Try.ntmps22
  go_wp2_with fail
  rw [HAT.out]
  refine (hGET.out _ _ (by simp)).mono ?_
  rintro e w1 ⟨b, cb, rfl, ⟨q0, q1, q2⟩, hb1, hb2, hb⟩
  have hbw := (below_alloc (Below.refl w.heap.size w) _).trans (hb.mono (by simp))
  have d0 := (hbw.cell (p := ⟨g, 0, none⟩) hgl).trans c0
  have d1 := (hbw.cell (p := ⟨g, 1, none⟩) hgl).trans c1
  rw [HQ0.out] at q0
  rw [HQ1.out] at q1
  rw [HQ2.out] at q2
  have HBW := Lib.hid hbw
  have hsz1 := hb.size
  simp only [World.size_alloc] at hsz1 hb1
  have hbb := hb.block w.heap.size (by simp)
  rw [heap_alloc_new] at hbb
  have HBB := Lib.hid hbb
  clear hbw hb hbb
  go_wp2_with fail
  go_region_held3 (fun w' => w'.cell? ⟨b, 0, none⟩ = some (.int .i64 nsum) ∧ w'.cell? ⟨b, 1, none⟩ = some (.int .i64 nat) ∧ w'.cell? ⟨b, 2, none⟩ = some (.int .i64 nmany) ∧ w'.cell? ⟨g, 0, none⟩ = some (.string s)) (go_keep) (fail)
  have hcut : (s.extract ((12 : Int) + 16 * (n : Int)).toNat s.size).extract 0 4 = tg := by
    rw [show ((12 : Int) + 16 * (n : Int)).toNat = 12 + 16 * n by omega, hx1, hx2]
  rw [hcut]
  clear hcut hx1 hx2 hz6
  generalize hw2 : (w1.alloc (.cells #[.int .i64 nat, .int .i64 nmany, .string tg, .int .i64 nsum] 85)).drew = w2
  have hB2 : Below w1.heap.size w1 w2 := by rw [← hw2]; exact below_drew (below_alloc (Below.refl w1.heap.size w1) _)
  have hxb : w2.heap[w1.heap.size]? = some (.cells #[.int .i64 nat, .int .i64 nmany, .string tg, .int .i64 nsum] 85 (0, 0)) := by rw [← hw2]; exact heap_alloc_new w1 _
  have hsz2 : w2.heap.size = w1.heap.size + 1 := by rw [← hw2]; simp
  have e2 : w2.cell? ⟨w1.heap.size, 0, none⟩ = some (.int .i64 nat) := by rw [blk_cell hxb]; rfl
  have e3 : w2.cell? ⟨w1.heap.size, 1, none⟩ = some (.int .i64 nmany) := by rw [blk_cell hxb]; rfl
  have e4 : w2.cell? ⟨w1.heap.size, 2, none⟩ = some (.string tg) := by rw [blk_cell hxb]; rfl
  have e5 : w2.cell? ⟨w1.heap.size, 3, none⟩ = some (.int .i64 nsum) := by rw [blk_cell hxb]; rfl
  have hgw1 : g < w1.heap.size := by omega
  have e1 : w2.cell? ⟨g, 1, none⟩ = some (.slice A n c) := (hB2.cell (p := ⟨g, 1, none⟩) hgw1).trans d1
  have HXB := Lib.hid hxb
  have HB2 := Lib.hid hB2
  have HW2 := Lib.hid hsz2
  clear hw2 hxb hB2 q0 q1 q2 d0 d1 hsz2
  obtain ⟨i0, hi0, hz0', hz1', hz2'⟩ := info_parts info85
  go_wp2_with fail
  refine wp_region_noPanic ?_
  refine start_ (n := 11) (S := fun w' => w'.cell? ⟨g, 1, none⟩ = some (.slice A n c) ∧ w'.cell? ⟨w1.heap.size, 0, none⟩ = some (.int .i64 nat) ∧ w'.cell? ⟨w1.heap.size, 1, none⟩ = some (.int .i64 nmany) ∧ w'.cell? ⟨w1.heap.size, 2, none⟩ = some (.string tg) ∧ w'.cell? ⟨w1.heap.size, 3, none⟩ = some (.int .i64 nsum)) (ds := [10]) #[false, false, false, false, false, false, false, false, false, false, false] (by kernel_rfl) rfl rfl ⟨e1, e2, e3, e4, e5⟩ (fun hHeld => ?_)
  refine pure_ (i := 0) (N := some 52) (v := ?_) (a' := ?_) #[true, false, false, false, false, false, false, false, false, false, false] rfl rfl (by kernel_rfl) (fun _ _ _ h => h) (Or.inl ⟨by rfl, ?_⟩) ?_ ?_
  rotate_left
  · intro w'
    go_simp
    with_reducible rfl
  rotate_left
  · simp only [Act.put, List.setIfInBounds_toArray, List.set_cons_zero, List.set_cons_succ]
    rfl
  refine pure_ (i := 1) (N := some 53) (v := ?_) (a' := ?_) #[true, true, false, false, false, false, false, false, false, false, false] rfl rfl (by kernel_rfl) (fun _ _ _ h => h) (Or.inl ⟨by rfl, ?_⟩) ?_ ?_
  rotate_left
  · intro w'
    go_simp
    with_reducible rfl
  rotate_left
  · simp only [Act.put, List.setIfInBounds_toArray, List.set_cons_zero, List.set_cons_succ]
    rfl
  refine pure_ (i := 2) (N := some 54) (v := ?_) (a' := ?_) #[true, true, true, false, false, false, false, false, false, false, false] rfl rfl (by kernel_rfl) (fun _ _ _ h => h) (Or.inl ⟨by rfl, ?_⟩) ?_ ?_
  rotate_left
  · intro w'
    go_simp
    with_reducible rfl
  rotate_left
  · simp only [Act.put, List.setIfInBounds_toArray, List.set_cons_zero, List.set_cons_succ]
    rfl
  refine pure_ (i := 3) (N := some 55) (v := ?_) (a' := ?_) #[true, true, true, true, false, false, false, false, false, false, false] rfl rfl (by kernel_rfl) (fun _ _ _ h => h) (Or.inl ⟨by rfl, ?_⟩) ?_ ?_
  rotate_left
  · intro w'
    go_simp
    with_reducible rfl
  rotate_left
  · simp only [Act.put, List.setIfInBounds_toArray, List.set_cons_zero, List.set_cons_succ]
    rfl
  refine take_ (i := 4) (N := some 56) (v := ?_) (a' := ?_) #[true, true, true, true, true, false, false, false, false, false, false] rfl rfl (by kernel_rfl) (fun _ _ _ h => h) (Or.inl ⟨by rfl, ?_⟩) hHeld ?_ ?_
  rotate_left
  · intro w' s0
    obtain ⟨t1, t2, t3, t4, t5⟩ := s0
    go_simp
    with_reducible rfl
  rotate_left
  · simp only [Act.put, List.setIfInBounds_toArray, List.set_cons_zero, List.set_cons_succ]
    rfl
  refine take_ (i := 5) (N := some 57) (v := ?_) (a' := ?_) #[true, true, true, true, true, true, false, false, false, false, false] rfl rfl (by kernel_rfl) (fun _ _ _ h => h) (Or.inl ⟨by rfl, ?_⟩) hHeld ?_ ?_
  rotate_left
  · intro w' s0
    obtain ⟨t1, t2, t3, t4, t5⟩ := s0
    go_simp
    with_reducible rfl
  rotate_left
  · simp only [Act.put, List.setIfInBounds_toArray, List.set_cons_zero, List.set_cons_succ]
    rfl
  refine one_ (i := 6) (N := some 58) #[true, true, true, true, true, true, true, false, false, false, false] rfl rfl (by kernel_rfl) (by decide) (fun K hK => ?_)
  go_simp
  have hA1 : Below w2.heap.size w2 (w2.alloc (.cells #[.int .i64 nat, .int .i64 nmany, .string tg, .int .i64 nsum] 85)).drew := below_drew (below_alloc (Below.refl w2.heap.size w2) _)
  have hgw2 : g < w2.heap.size := by have := HW2.out; omega
  have hxw2 : w1.heap.size < w2.heap.size := by have := HW2.out; omega
  refine hK.out _ _ ⟨(hA1.cell (p := ⟨g, 1, none⟩) hgw2).trans e1, (hA1.cell (p := ⟨w1.heap.size, 0, none⟩) hxw2).trans e2, (hA1.cell (p := ⟨w1.heap.size, 1, none⟩) hxw2).trans e3, (hA1.cell (p := ⟨w1.heap.size, 2, none⟩) hxw2).trans e4, (hA1.cell (p := ⟨w1.heap.size, 3, none⟩) hxw2).trans e5⟩ (fun hHeld => ?_)
  clear hK K
  refine one_ (i := 7) (N := some 59) #[true, true, true, true, true, true, true, true, false, false, false] rfl rfl (by kernel_rfl) (by decide) (fun K hK => ?_)
  refine step_append_lies _ rfl (.tmp 56) (.tmp 58) 47 rfl B 85 i0 _ 4 40 Try.underlying47 hi0 hz0' hz1' hz2' rfl (by omega) (.slice A n c) n (cellsE (recsE s n)) rfl ?_ ⟨w2.heap.size, 0, none⟩ 1 1 [.int .i64 nat, .int .i64 nmany, .string tg, .int .i64 nsum] rfl rfl (World.news_of_block (cs := #[.int .i64 nat, .int .i64 nmany, .string tg, .int .i64 nsum]) (t := 85) (fr := (0, 0)) (heap_alloc_new w2 _)) (by simp [Value.oneCell']) (by omega) (by unfold maxLen; omega) (by omega) ?_ (w2.heap.size + 1) (by simp) ?_
  · exact pw_own_below (pw_own_below (pw_own_below HO.out HBW.out) (HB2.out)) hA1
  · have h1 := HBW.out.size
    have h2 := HB2.out.size
    simp
    omega
  intro g' cap w3 hown3 hgrow3 hat hlt
  have hgrow2 : w2.grownBy w3 (Value.slice A n c).ownBlock := by
    have h := hgrow3
    exact ⟨h.os, h.tape, h.output, by have := h.size; simp at this; omega, fun k hk hne => (h.block k (by simp; omega) hne).trans (by have := hA1.block k hk; exact this)⟩
  obtain ⟨⟨m1, m2, m3⟩, hMid⟩ := mid_facts HREC.out hBg hB HG.out HO.out HBW.out HBB.out hsz1 HB2.out rfl HXB.out hown3 hgrow2
  have HMID := Lib.hid hMid
  clear hown3 hgrow3 hgrow2 hMid hat
  refine hK.out _ _ ⟨m1, ?_⟩ (fun hHeld => ?_)
  · have hx3 := m3.trans HXB.out
    exact ⟨by rw [blk_cell hx3]; rfl, by rw [blk_cell hx3]; rfl, by rw [blk_cell hx3]; rfl, by rw [blk_cell hx3]; rfl⟩
  clear hK K m3
  refine norm_ (a' := ?_) ?_ ?_
  rotate_left
  · simp only [Act.put, List.setIfInBounds_toArray, List.set_cons_zero, List.set_cons_succ]
    rfl
  refine pure_ (i := 8) (N := some 60) (v := ?_) (a' := ?_) #[true, true, true, true, true, true, true, true, true, false, false] rfl rfl (by kernel_rfl) (fun _ _ _ h => h) (Or.inl ⟨by rfl, ?_⟩) ?_ ?_
  rotate_left
  · intro w'
    go_simp
    with_reducible rfl
  rotate_left
  · simp only [Act.put, List.setIfInBounds_toArray, List.set_cons_zero, List.set_cons_succ]
    rfl
  refine pure_ (i := 9) (N := some 61) (v := ?_) (a' := ?_) #[true, true, true, true, true, true, true, true, true, true, false] rfl rfl (by kernel_rfl) (fun _ _ _ h => h) (Or.inl ⟨by rfl, ?_⟩) ?_ ?_
  rotate_left
  · intro w'
    go_simp
    with_reducible rfl
  rotate_left
  · simp only [Act.put, List.setIfInBounds_toArray, List.set_cons_zero, List.set_cons_succ]
    rfl
  refine last_ (i := 10) (N := none) #[true, true, true, true, true, true, true, true, true, true, true] rfl rfl (by kernel_rfl) (by decide) (fun K hK => ?_)
  go_simp
  refine hK.out _ _ ?_
  clear hK K
  refine done_ (by kernel_rfl) ?_
  refine NoPanic.normal ?_
  have HSz := Lib.hid hsz1
  obtain ⟨X, hX⟩ : ∃ X, w1.heap.size = X := ⟨_, rfl⟩
  rw [hX] at HMID ⊢
  have hRX : ¬ (w.heap.size = X) := by omega
  clear m1 m2 e1 e2 e3 e4 e5 hsz1 hX hb1 hb2 hgw1 hgw2 hxw2 hA1 hz2 hz3 hi0 hz0' hz1' hz2' c0 c1
  generalize w3.setCell ⟨g, 1, none⟩ (.slice (some ⟨g', 0, none⟩) (n + 1) cap) = w4 at HMID ⊢
  have f0 := HMID.out.c0
  have f1 := HMID.out.c1
  have hxx := HMID.out.x
  rw [HREC.out] at hxx
  have x0 : w4.cell? ⟨X, 0, none⟩ = some (.int .i64 nat) := by rw [blk_cell hxx]; rfl
  have x1 : w4.cell? ⟨X, 1, none⟩ = some (.int .i64 nmany) := by rw [blk_cell hxx]; rfl
  have x2 : w4.cell? ⟨X, 2, none⟩ = some (.string tg) := by rw [blk_cell hxx]; rfl
  have x3 : w4.cell? ⟨X, 3, none⟩ = some (.int .i64 nsum) := by rw [blk_cell hxx]; rfl
  clear hxx
  have HBw := Lib.hid hB
  clear hB
  have hsm : (0 ≤ nat ∧ nat < 4294967296) ∧ 0 ≤ nmany ∧ nmany < 4294967296 := by rw [← HQ1.out, ← HQ2.out]; exact ⟨nm_small _ _, nm_small _ _⟩
  obtain ⟨⟨hs1, hs2⟩, hs3, hs4⟩ := hsm
  go_wp2_with fail
  obtain ⟨xn, hxn⟩ : ∃ xn : Int, (n : Int) = xn := ⟨_, rfl⟩
  rw [hxn] at hz4 hz5 ⊢
  have hprev := HMID.out.prev
  have HXN := Lib.hid hxn
  clear hxn
  have HTG := Lib.hid (tag_calls tg)
  have HEND := Lib.hid (fun W => span_end nat nmany W (by omega) (by omega) (by omega) (by omega))
  have hbad : badR s many n = (!tagB tg || (decide (0 < n) && !Op.bytesLess (recE s (n - 1)).f1.toList tg.toList) || decide (nat % 4 ≠ 0) || decide (nat < 12 + 16 * (many : Int))) := by unfold badR; rw [HREC.out]
  generalize tagB tg = tgb at HTG hbad
  have p0 := kept_cell x0
  have p1 := kept_cell x1
  have p2 := kept_cell x2
  have p3 := kept_cell x3
  have pf0 := kept_cell f0
  have pf1 := kept_cell f1
  clear x0 x1 x2 x3 f0 f1
  cases tgb with
  | false =>
    have hE : errR s many n = 5 := by unfold errR; rw [hbad]; rfl
    have HER := Lib.hid hE
    clear hbad hE
    have hmx : Try.prog.follows .mixedOrders = true := by kernel_rfl
    refine wp_region_kept hmx (by kernel_rfl) ?_
    repeat (go_big_quiet_step (exact kept_calls (HTG.out _)))
    refine wpQuiet_nil ?_
    rintro _ ⟨pw, rfl⟩
    have HB5 := Lib.hid pw.h
    have hrr := (HB5.out.block _ (blk_lt HMID.out.r)).trans HMID.out.r
    have r0 : pw.w'.cell? ⟨w.heap.size, 0, none⟩ = some (.string ⟨#[]⟩) := by rw [blk_cell hrr]; rfl
    have r1 : pw.w'.cell? ⟨w.heap.size, 1, none⟩ = some (.string ⟨#[]⟩) := by rw [blk_cell hrr]; rfl
    have z0 : pw.w'.frozen? ⟨w.heap.size, 0, none⟩ = false := blk_frozen hrr 0
    have z1 : pw.w'.frozen? ⟨w.heap.size, 1, none⟩ = false := blk_frozen hrr 1
    clear hrr
    go_wp2
    refine bodyPost_ret (v := .tuple #[.agg #[.string ⟨#[]⟩, .string ⟨#[]⟩], .int .i64 5]) (by simp [results, Try.results22, go_sem, r0, r1]) rfl ⟨?_, mid_end HMID.out HBw.out HB5.out _ _⟩
    have ht : tabR s many n = z33 := by unfold tabR; rw [HER.out]; rfl
    rw [HER.out, ht]
    rfl
  | true =>
    by_cases hn0 : n < 1
    · have gx : ¬ 0 < xn := by have := HXN.out; omega
      have gd := decide_eq_false (p := 0 < xn) gx
      rw [decide_eq_false (show ¬ 0 < n by omega)] at hbad
      clear hprev
      by_cases hm4 : nat % 4 = 0
      · have hq1 : (nat % 4 == 0) = true := by rw [hm4]; rfl
        have hq2 : (nat % 4 != 0) = false := by rw [hm4]; rfl
        rw [decide_eq_false (show ¬ nat % 4 ≠ 0 by omega)] at hbad
        clear hm4
        by_cases hlo : nat < 12 + 16 * (many : Int)
        · rw [decide_eq_true hlo] at hbad
          have hE : errR s many n = 5 := by unfold errR; rw [hbad]; rfl
          have HER := Lib.hid hE
          clear hbad hE
          have hmx : Try.prog.follows .mixedOrders = true := by kernel_rfl
          refine wp_region_kept hmx (by kernel_rfl) ?_
          repeat (go_big_quiet_step (exact kept_calls (HTG.out _)))
          refine wpQuiet_nil ?_
          rintro _ ⟨pw, rfl⟩
          have HB5 := Lib.hid pw.h
          have hrr := (HB5.out.block _ (blk_lt HMID.out.r)).trans HMID.out.r
          have r0 : pw.w'.cell? ⟨w.heap.size, 0, none⟩ = some (.string ⟨#[]⟩) := by rw [blk_cell hrr]; rfl
          have r1 : pw.w'.cell? ⟨w.heap.size, 1, none⟩ = some (.string ⟨#[]⟩) := by rw [blk_cell hrr]; rfl
          have z0 : pw.w'.frozen? ⟨w.heap.size, 0, none⟩ = false := blk_frozen hrr 0
          have z1 : pw.w'.frozen? ⟨w.heap.size, 1, none⟩ = false := blk_frozen hrr 1
          clear hrr
          go_wp2
          refine bodyPost_ret (v := .tuple #[.agg #[.string ⟨#[]⟩, .string ⟨#[]⟩], .int .i64 5]) (by simp [results, Try.results22, go_sem, r0, r1]) rfl ⟨?_, mid_end HMID.out HBw.out HB5.out _ _⟩
          have ht : tabR s many n = z33 := by unfold tabR; rw [HER.out]; rfl
          rw [HER.out, ht]
          rfl
        · rw [decide_eq_false hlo] at hbad
          replace hbad : badR s many n = false := hbad
          have HNB := Lib.hid hbad
          clear hbad
          have hmx : Try.prog.follows .mixedOrders = true := by kernel_rfl
          refine wp_region_kept hmx (by kernel_rfl) ?_
          repeat (go_big_quiet_step (exact kept_calls (HTG.out _)))
          refine wpQuiet_nil ?_
          rintro _ ⟨pw, rfl⟩
          have HB5 := Lib.hid pw.h
          have y0 := p0 pw
          have y1 := p1 pw
          have y2 := p2 pw
          have y3 := p3 pw
          have yf := pf0 pw
          generalize pw.w' = w5 at HB5 y0 y1 y2 y3 yf ⊢
          clear p0 p1 p2 p3 pf0 pf1
          go_wp2_with fail
          have k0 := kept_cell y0
          have k1 := kept_cell y1
          have k2 := kept_cell y2
          have k3 := kept_cell y3
          have kf := kept_cell yf
          by_cases hov : (s.size : Int) < nat + nmany
          · have hE : errR s many n = 4 := by unfold errR; rw [HNB.out, HREC.out]; rw [if_neg Bool.false_ne_true, if_pos hov]
            have HER := Lib.hid hE
            clear hE
            have hmx : Try.prog.follows .mixedOrders = true := by kernel_rfl
            refine wp_region_kept hmx (by kernel_rfl) ?_
            repeat (go_big_quiet_step (exact kept_calls (HEND.out _)))
            refine wpQuiet_nil ?_
            rintro _ ⟨pw, rfl⟩
            have HB6 := Lib.hid (HB5.out.trans (pw.h.mono HB5.out.size))
            have hrr := (HB6.out.block _ (blk_lt HMID.out.r)).trans HMID.out.r
            have r0 : pw.w'.cell? ⟨w.heap.size, 0, none⟩ = some (.string ⟨#[]⟩) := by rw [blk_cell hrr]; rfl
            have r1 : pw.w'.cell? ⟨w.heap.size, 1, none⟩ = some (.string ⟨#[]⟩) := by rw [blk_cell hrr]; rfl
            have z0 : pw.w'.frozen? ⟨w.heap.size, 0, none⟩ = false := blk_frozen hrr 0
            have z1 : pw.w'.frozen? ⟨w.heap.size, 1, none⟩ = false := blk_frozen hrr 1
            clear hrr
            go_wp2
            refine bodyPost_ret (v := .tuple #[.agg #[.string ⟨#[]⟩, .string ⟨#[]⟩], .int .i64 4]) (by simp [results, Try.results22, go_sem, r0, r1]) rfl ⟨?_, mid_end HMID.out HBw.out HB6.out _ _⟩
            have ht : tabR s many n = z33 := by unfold tabR; rw [HER.out]; rfl
            rw [HER.out, ht]
            rfl
          · have hmx : Try.prog.follows .mixedOrders = true := by kernel_rfl
            refine wp_region_kept hmx (by kernel_rfl) ?_
            repeat (go_big_quiet_step (exact kept_calls (HEND.out _)))
            refine wpQuiet_nil ?_
            rintro _ ⟨pw, rfl⟩
            have HB6 := Lib.hid (HB5.out.trans (pw.h.mono HB5.out.size))
            have v0 := k0 pw
            have v1 := k1 pw
            have v2 := k2 pw
            have v3 := k3 pw
            have vf := kf pw
            generalize pw.w' = w6 at HB6 v0 v1 v2 v3 vf ⊢
            clear k0 k1 k2 k3 kf y0 y1 y2 y3 yf
            have hv0 : (0 : Int) ≤ nat + nmany := by omega
            have hv1 : nat ≤ nat + nmany := by omega
            have hv2 : nat + nmany ≤ (s.size : Int) := by omega
            have hXw : ¬ X = w6.heap.size := by have := World.block_lt_of_cell? _ _ v0; simp at this; omega
            have hgw : ¬ g = w6.heap.size := by have := World.block_lt_of_cell? _ _ vf; simp at this; omega
            obtain ⟨D, hD⟩ : ∃ D, s.extract nat.toNat (nat + nmany).toNat = D := ⟨_, rfl⟩
            go_wp2_with fail
            go_region_held3 (fun w' => w'.cell? ⟨X, 0, none⟩ = some (.int .i64 nat) ∧ w'.cell? ⟨X, 1, none⟩ = some (.int .i64 nmany) ∧ w'.cell? ⟨X, 2, none⟩ = some (.string tg) ∧ w'.cell? ⟨g, 0, none⟩ = some (.string s)) (first | exact keep4 hbk (by assumption) | exact keep4 (below_alloc hbk _) ⟨v0, v1, v2, vf⟩ | exact keep4s hXw hXw hXw hgw (keep4s hXw hXw hXw hgw (by assumption)) | go_keep) (first | (go_at_call 47; refine (HEND.out _).mono ?_; rintro e w7 ⟨rfl, hbk⟩; try (have hnb : w7.heap[w6.heap.size]? = some (.cells #[.string ⟨#[]⟩, .string ⟨#[]⟩] 33 (0, 0)) := new_cellsD hbk; have u0 : w7.cell? ⟨w6.heap.size, 0, none⟩ = some (.string ⟨#[]⟩) := (blk_cell hnb 0).trans rfl; have u1 : w7.cell? ⟨w6.heap.size, 1, none⟩ = some (.string ⟨#[]⟩) := (blk_cell hnb 1).trans rfl; have uf0 := blk_frozen hnb 0; have uf1 := blk_frozen hnb 1; clear hnb)))
            · have hB8 := tail1 (o := (.cells #[.string tg, .string D] 33)) HB6.out hbk
              have u0 : (w7.alloc (.cells #[.string tg, .string D] 33)).cell? ⟨w7.heap.size, 0, none⟩ = some (.string tg) := by simp
              have u1 : (w7.alloc (.cells #[.string tg, .string D] 33)).cell? ⟨w7.heap.size, 1, none⟩ = some (.string D) := by simp
              have u3 : (w7.alloc (.cells #[.string tg, .string D] 33)).cell? ⟨X, 3, none⟩ = some (.int .i64 nsum) := pw_cell_below (below_alloc (Below.refl w7.heap.size w7) _) (pw_cell_below hbk v3)
              clear v0 v1 v2 v3 vf hXw hgw hbk
              generalize w7.alloc (.cells #[.string tg, .string D] 33) = w8 at hB8 u0 u1 u3 ⊢
              generalize w7.heap.size = T at u0 u1 ⊢
              have HB8 := Lib.hid hB8
              clear hB8
              have hdl : D.size ≤ 1000000000 := by
                rw [← hD, ByteArray.size_extract]
                omega
              have HSUM := Lib.hid (sfnt_sum_calls tg D hdl)
              have hErr : errR s many n = if tabSum tg D ≠ nsum then 5 else 0 := by
                unfold errR dataR
                rw [HNB.out, HREC.out]
                simp only [hD]
                rw [if_neg Bool.false_ne_true, if_neg (show ¬ (s.size : Int) < nat + nmany by omega)]
              have hTab : errR s many n = 0 → tabR s many n = ⟨tg, D⟩ := fun h => by
                unfold tabR dataR
                rw [if_pos h, HREC.out]
                simp only [hD]
              generalize tabSum tg D = sm at HSUM hErr
              have HTB := Lib.hid hTab
              clear hTab hdl hD hv0 hv1 hv2 hov
              go_wp2_with fail
              have k0 := kept_cell u0
              have k1 := kept_cell u1
              have k3 := kept_cell u3
              clear u0 u1 u3
              by_cases hsn : sm = nsum
              · rw [if_neg (fun h => h hsn)] at hErr
                have HER := Lib.hid hErr
                have hq1 : (sm != nsum) = false := by rw [hsn]; simp
                have hq2 : (sm == nsum) = true := by rw [hsn]; simp
                clear hsn hErr
                have hmx : Try.prog.follows .mixedOrders = true := by kernel_rfl
                refine wp_region_kept hmx (by kernel_rfl) ?_
                repeat (go_big_quiet_step (exact kept_calls (HSUM.out _)))
                refine wpQuiet_nil ?_
                rintro _ ⟨pw, rfl⟩
                have HB9 := Lib.hid (HB8.out.trans (pw.h.mono HB8.out.size))
                have t0 := k0 pw
                have t1 := k1 pw
                have hrr := (HB9.out.block _ (blk_lt HMID.out.r)).trans HMID.out.r
                have r0 : pw.w'.cell? ⟨w.heap.size, 0, none⟩ = some (.string ⟨#[]⟩) := by rw [blk_cell hrr]; rfl
                have r1 : pw.w'.cell? ⟨w.heap.size, 1, none⟩ = some (.string ⟨#[]⟩) := by rw [blk_cell hrr]; rfl
                have z0 : pw.w'.frozen? ⟨w.heap.size, 0, none⟩ = false := blk_frozen hrr 0
                have z1 : pw.w'.frozen? ⟨w.heap.size, 1, none⟩ = false := blk_frozen hrr 1
                clear hrr
                go_wp2
                refine bodyPost_ret (v := .tuple #[.agg #[.string tg, .string D], .int .i64 0]) (by simp [results, Try.results22, go_sem, r0, r1]) rfl ⟨?_, mid_end HMID.out HBw.out HB9.out _ _⟩
                rw [HTB.out HER.out, HER.out]
              · rw [if_pos hsn] at hErr
                have HER := Lib.hid hErr
                have hq1 : (sm != nsum) = true := by simpa using hsn
                have hq2 : (sm == nsum) = false := by simpa using hsn
                clear hsn hErr
                have hmx : Try.prog.follows .mixedOrders = true := by kernel_rfl
                refine wp_region_kept hmx (by kernel_rfl) ?_
                repeat (go_big_quiet_step (exact kept_calls (HSUM.out _)))
                refine wpQuiet_nil ?_
                rintro _ ⟨pw, rfl⟩
                have HB9 := Lib.hid (HB8.out.trans (pw.h.mono HB8.out.size))
                have hrr := (HB9.out.block _ (blk_lt HMID.out.r)).trans HMID.out.r
                have r0 : pw.w'.cell? ⟨w.heap.size, 0, none⟩ = some (.string ⟨#[]⟩) := by rw [blk_cell hrr]; rfl
                have r1 : pw.w'.cell? ⟨w.heap.size, 1, none⟩ = some (.string ⟨#[]⟩) := by rw [blk_cell hrr]; rfl
                have z0 : pw.w'.frozen? ⟨w.heap.size, 0, none⟩ = false := blk_frozen hrr 0
                have z1 : pw.w'.frozen? ⟨w.heap.size, 1, none⟩ = false := blk_frozen hrr 1
                clear hrr
                go_wp2
                refine bodyPost_ret (v := .tuple #[.agg #[.string ⟨#[]⟩, .string ⟨#[]⟩], .int .i64 5]) (by simp [results, Try.results22, go_sem, r0, r1]) rfl ⟨?_, mid_end HMID.out HBw.out HB9.out _ _⟩
                have ht : tabR s many n = z33 := by unfold tabR; rw [HER.out]; rfl
                rw [HER.out, ht]
                rfl
            · have hB8 := tail2 (u := .string tg) (v := .string D) HB6.out hbk
              have hu0 := u0
              have hu1 := u1
              have e0 : ((w7.setCell ⟨w6.heap.size, 0, none⟩ (.string tg)).setCell ⟨w6.heap.size, 1, none⟩ (.string D)).cell? ⟨w6.heap.size, 0, none⟩ = some (.string tg) := (two_set hu0 hu1).1
              have e1 : ((w7.setCell ⟨w6.heap.size, 0, none⟩ (.string tg)).setCell ⟨w6.heap.size, 1, none⟩ (.string D)).cell? ⟨w6.heap.size, 1, none⟩ = some (.string D) := (two_set hu0 hu1).2
              have u3 : ((w7.setCell ⟨w6.heap.size, 0, none⟩ (.string tg)).setCell ⟨w6.heap.size, 1, none⟩ (.string D)).cell? ⟨X, 3, none⟩ = some (.int .i64 nsum) := by
                rw [World.cell?_of_block (a := ⟨X, 3, none⟩) (Below.heap_setCell _ ⟨w6.heap.size, 1, none⟩ _ X hXw), World.cell?_of_block (a := ⟨X, 3, none⟩) (Below.heap_setCell _ ⟨w6.heap.size, 0, none⟩ _ X hXw)]
                exact pw_cell_below hbk (pw_cell_below (below_drew (below_alloc (Below.refl w6.heap.size w6) _)) v3)
              clear v0 v1 v2 v3 vf hXw hgw hbk u0 u1 uf0 uf1 hu0 hu1
              generalize ((w7.setCell ⟨w6.heap.size, 0, none⟩ (.string tg)).setCell ⟨w6.heap.size, 1, none⟩ (.string D)) = w8 at hB8 e0 e1 u3 ⊢
              generalize w6.heap.size = T at e0 e1 ⊢
              have u0 := e0
              have u1 := e1
              clear e0 e1
              have HB8 := Lib.hid hB8
              clear hB8
              have hdl : D.size ≤ 1000000000 := by
                rw [← hD, ByteArray.size_extract]
                omega
              have HSUM := Lib.hid (sfnt_sum_calls tg D hdl)
              have hErr : errR s many n = if tabSum tg D ≠ nsum then 5 else 0 := by
                unfold errR dataR
                rw [HNB.out, HREC.out]
                simp only [hD]
                rw [if_neg Bool.false_ne_true, if_neg (show ¬ (s.size : Int) < nat + nmany by omega)]
              have hTab : errR s many n = 0 → tabR s many n = ⟨tg, D⟩ := fun h => by
                unfold tabR dataR
                rw [if_pos h, HREC.out]
                simp only [hD]
              generalize tabSum tg D = sm at HSUM hErr
              have HTB := Lib.hid hTab
              clear hTab hdl hD hv0 hv1 hv2 hov
              go_wp2_with fail
              have k0 := kept_cell u0
              have k1 := kept_cell u1
              have k3 := kept_cell u3
              clear u0 u1 u3
              by_cases hsn : sm = nsum
              · rw [if_neg (fun h => h hsn)] at hErr
                have HER := Lib.hid hErr
                have hq1 : (sm != nsum) = false := by rw [hsn]; simp
                have hq2 : (sm == nsum) = true := by rw [hsn]; simp
                clear hsn hErr
                have hmx : Try.prog.follows .mixedOrders = true := by kernel_rfl
                refine wp_region_kept hmx (by kernel_rfl) ?_
                repeat (go_big_quiet_step (exact kept_calls (HSUM.out _)))
                refine wpQuiet_nil ?_
                rintro _ ⟨pw, rfl⟩
                have HB9 := Lib.hid (HB8.out.trans (pw.h.mono HB8.out.size))
                have t0 := k0 pw
                have t1 := k1 pw
                have hrr := (HB9.out.block _ (blk_lt HMID.out.r)).trans HMID.out.r
                have r0 : pw.w'.cell? ⟨w.heap.size, 0, none⟩ = some (.string ⟨#[]⟩) := by rw [blk_cell hrr]; rfl
                have r1 : pw.w'.cell? ⟨w.heap.size, 1, none⟩ = some (.string ⟨#[]⟩) := by rw [blk_cell hrr]; rfl
                have z0 : pw.w'.frozen? ⟨w.heap.size, 0, none⟩ = false := blk_frozen hrr 0
                have z1 : pw.w'.frozen? ⟨w.heap.size, 1, none⟩ = false := blk_frozen hrr 1
                clear hrr
                go_wp2
                refine bodyPost_ret (v := .tuple #[.agg #[.string tg, .string D], .int .i64 0]) (by simp [results, Try.results22, go_sem, r0, r1]) rfl ⟨?_, mid_end HMID.out HBw.out HB9.out _ _⟩
                rw [HTB.out HER.out, HER.out]
              · rw [if_pos hsn] at hErr
                have HER := Lib.hid hErr
                have hq1 : (sm != nsum) = true := by simpa using hsn
                have hq2 : (sm == nsum) = false := by simpa using hsn
                clear hsn hErr
                have hmx : Try.prog.follows .mixedOrders = true := by kernel_rfl
                refine wp_region_kept hmx (by kernel_rfl) ?_
                repeat (go_big_quiet_step (exact kept_calls (HSUM.out _)))
                refine wpQuiet_nil ?_
                rintro _ ⟨pw, rfl⟩
                have HB9 := Lib.hid (HB8.out.trans (pw.h.mono HB8.out.size))
                have hrr := (HB9.out.block _ (blk_lt HMID.out.r)).trans HMID.out.r
                have r0 : pw.w'.cell? ⟨w.heap.size, 0, none⟩ = some (.string ⟨#[]⟩) := by rw [blk_cell hrr]; rfl
                have r1 : pw.w'.cell? ⟨w.heap.size, 1, none⟩ = some (.string ⟨#[]⟩) := by rw [blk_cell hrr]; rfl
                have z0 : pw.w'.frozen? ⟨w.heap.size, 0, none⟩ = false := blk_frozen hrr 0
                have z1 : pw.w'.frozen? ⟨w.heap.size, 1, none⟩ = false := blk_frozen hrr 1
                clear hrr
                go_wp2
                refine bodyPost_ret (v := .tuple #[.agg #[.string ⟨#[]⟩, .string ⟨#[]⟩], .int .i64 5]) (by simp [results, Try.results22, go_sem, r0, r1]) rfl ⟨?_, mid_end HMID.out HBw.out HB9.out _ _⟩
                have ht : tabR s many n = z33 := by unfold tabR; rw [HER.out]; rfl
                rw [HER.out, ht]
                rfl
      · have hE : errR s many n = 5 := by unfold errR; rw [hbad, decide_eq_true hm4]; rfl
        have hq1 : (nat % 4 == 0) = false := by simpa using hm4
        have hq2 : (nat % 4 != 0) = true := by simpa using hm4
        clear hm4
        have HER := Lib.hid hE
        clear hbad hE
        have hmx : Try.prog.follows .mixedOrders = true := by kernel_rfl
        refine wp_region_kept hmx (by kernel_rfl) ?_
        repeat (go_big_quiet_step (exact kept_calls (HTG.out _)))
        refine wpQuiet_nil ?_
        rintro _ ⟨pw, rfl⟩
        have HB5 := Lib.hid pw.h
        have hrr := (HB5.out.block _ (blk_lt HMID.out.r)).trans HMID.out.r
        have r0 : pw.w'.cell? ⟨w.heap.size, 0, none⟩ = some (.string ⟨#[]⟩) := by rw [blk_cell hrr]; rfl
        have r1 : pw.w'.cell? ⟨w.heap.size, 1, none⟩ = some (.string ⟨#[]⟩) := by rw [blk_cell hrr]; rfl
        have z0 : pw.w'.frozen? ⟨w.heap.size, 0, none⟩ = false := blk_frozen hrr 0
        have z1 : pw.w'.frozen? ⟨w.heap.size, 1, none⟩ = false := blk_frozen hrr 1
        clear hrr
        go_wp2
        refine bodyPost_ret (v := .tuple #[.agg #[.string ⟨#[]⟩, .string ⟨#[]⟩], .int .i64 5]) (by simp [results, Try.results22, go_sem, r0, r1]) rfl ⟨?_, mid_end HMID.out HBw.out HB5.out _ _⟩
        have ht : tabR s many n = z33 := by unfold tabR; rw [HER.out]; rfl
        rw [HER.out, ht]
        rfl
    · have gx : 0 < xn := by have := HXN.out; omega
      have gd := decide_eq_true gx
      have hpv := hprev (by omega)
      rw [decide_eq_true (show 0 < n by omega)] at hbad
      clear hprev
      generalize (recE s (n - 1)).f1 = pt at hpv hbad
      obtain ⟨y, hy⟩ : ∃ y : Int, xn - 1 = y := ⟨_, rfl⟩
      have hyk : y = ((n - 1 : Nat) : Int) := by have := HXN.out; omega
      have hy0 : 0 ≤ y := by omega
      have hyn : y < xn + 1 := by omega
      have hyt : y.toNat = n - 1 := by omega
      have hyb0 := eq_true hy0
      have hxe : ((n + 1 : Nat) : Int) = xn + 1 := by have := HXN.out; omega
      have hyn2 : y < ((n + 1 : Nat) : Int) := by omega
      have hyb1 := eq_true hyn2
      have hyw : IntKind.i64.wrap (xn - 1) = y := by rw [i64_w, wrap64_small (by omega) (by omega), hy]
      rw [← hyt] at hpv
      have pp := kept_cell hpv
      have HY := Lib.hid hy
      clear hy hyk hyt hxe hpv
      have hle := leq_flip tg.toList pt.toList
      cases hbl : Op.bytesLess pt.toList tg.toList with
      | false =>
        rw [hbl] at hle hbad
        have hE : errR s many n = 5 := by unfold errR; rw [hbad]; rfl
        clear hbl
        have HER := Lib.hid hE
        clear hbad hE
        have hmx : Try.prog.follows .mixedOrders = true := by kernel_rfl
        refine wp_region_kept hmx (by kernel_rfl) ?_
        repeat (go_big_quiet_step (exact kept_calls (HTG.out _)))
        refine wpQuiet_nil ?_
        rintro _ ⟨pw, rfl⟩
        have HB5 := Lib.hid pw.h
        have hrr := (HB5.out.block _ (blk_lt HMID.out.r)).trans HMID.out.r
        have r0 : pw.w'.cell? ⟨w.heap.size, 0, none⟩ = some (.string ⟨#[]⟩) := by rw [blk_cell hrr]; rfl
        have r1 : pw.w'.cell? ⟨w.heap.size, 1, none⟩ = some (.string ⟨#[]⟩) := by rw [blk_cell hrr]; rfl
        have z0 : pw.w'.frozen? ⟨w.heap.size, 0, none⟩ = false := blk_frozen hrr 0
        have z1 : pw.w'.frozen? ⟨w.heap.size, 1, none⟩ = false := blk_frozen hrr 1
        clear hrr
        go_wp2
        refine bodyPost_ret (v := .tuple #[.agg #[.string ⟨#[]⟩, .string ⟨#[]⟩], .int .i64 5]) (by simp [results, Try.results22, go_sem, r0, r1]) rfl ⟨?_, mid_end HMID.out HBw.out HB5.out _ _⟩
        have ht : tabR s many n = z33 := by unfold tabR; rw [HER.out]; rfl
        rw [HER.out, ht]
        rfl
      | true =>
        rw [hbl] at hle hbad
        clear hbl
        by_cases hm4 : nat % 4 = 0
        · have hq1 : (nat % 4 == 0) = true := by rw [hm4]; rfl
          have hq2 : (nat % 4 != 0) = false := by rw [hm4]; rfl
          rw [decide_eq_false (show ¬ nat % 4 ≠ 0 by omega)] at hbad
          clear hm4
          by_cases hlo : nat < 12 + 16 * (many : Int)
          · rw [decide_eq_true hlo] at hbad
            have hE : errR s many n = 5 := by unfold errR; rw [hbad]; rfl
            have HER := Lib.hid hE
            clear hbad hE
            have hmx : Try.prog.follows .mixedOrders = true := by kernel_rfl
            refine wp_region_kept hmx (by kernel_rfl) ?_
            repeat (go_big_quiet_step (exact kept_calls (HTG.out _)))
            refine wpQuiet_nil ?_
            rintro _ ⟨pw, rfl⟩
            have HB5 := Lib.hid pw.h
            have hrr := (HB5.out.block _ (blk_lt HMID.out.r)).trans HMID.out.r
            have r0 : pw.w'.cell? ⟨w.heap.size, 0, none⟩ = some (.string ⟨#[]⟩) := by rw [blk_cell hrr]; rfl
            have r1 : pw.w'.cell? ⟨w.heap.size, 1, none⟩ = some (.string ⟨#[]⟩) := by rw [blk_cell hrr]; rfl
            have z0 : pw.w'.frozen? ⟨w.heap.size, 0, none⟩ = false := blk_frozen hrr 0
            have z1 : pw.w'.frozen? ⟨w.heap.size, 1, none⟩ = false := blk_frozen hrr 1
            clear hrr
            go_wp2
            refine bodyPost_ret (v := .tuple #[.agg #[.string ⟨#[]⟩, .string ⟨#[]⟩], .int .i64 5]) (by simp [results, Try.results22, go_sem, r0, r1]) rfl ⟨?_, mid_end HMID.out HBw.out HB5.out _ _⟩
            have ht : tabR s many n = z33 := by unfold tabR; rw [HER.out]; rfl
            rw [HER.out, ht]
            rfl
          · rw [decide_eq_false hlo] at hbad
            replace hbad : badR s many n = false := hbad
            have p9 := pp
            clear pp
            have HNB := Lib.hid hbad
            clear hbad
            have hmx : Try.prog.follows .mixedOrders = true := by kernel_rfl
            refine wp_region_kept hmx (by kernel_rfl) ?_
            repeat (go_big_quiet_step (exact kept_calls (HTG.out _)))
            refine wpQuiet_nil ?_
            rintro _ ⟨pw, rfl⟩
            have HB5 := Lib.hid pw.h
            have y0 := p0 pw
            have y1 := p1 pw
            have y2 := p2 pw
            have y3 := p3 pw
            have yf := pf0 pw
            generalize pw.w' = w5 at HB5 y0 y1 y2 y3 yf ⊢
            clear p9 p0 p1 p2 p3 pf0 pf1
            go_wp2_with fail
            have k0 := kept_cell y0
            have k1 := kept_cell y1
            have k2 := kept_cell y2
            have k3 := kept_cell y3
            have kf := kept_cell yf
            by_cases hov : (s.size : Int) < nat + nmany
            · have hE : errR s many n = 4 := by unfold errR; rw [HNB.out, HREC.out]; rw [if_neg Bool.false_ne_true, if_pos hov]
              have HER := Lib.hid hE
              clear hE
              have hmx : Try.prog.follows .mixedOrders = true := by kernel_rfl
              refine wp_region_kept hmx (by kernel_rfl) ?_
              repeat (go_big_quiet_step (exact kept_calls (HEND.out _)))
              refine wpQuiet_nil ?_
              rintro _ ⟨pw, rfl⟩
              have HB6 := Lib.hid (HB5.out.trans (pw.h.mono HB5.out.size))
              have hrr := (HB6.out.block _ (blk_lt HMID.out.r)).trans HMID.out.r
              have r0 : pw.w'.cell? ⟨w.heap.size, 0, none⟩ = some (.string ⟨#[]⟩) := by rw [blk_cell hrr]; rfl
              have r1 : pw.w'.cell? ⟨w.heap.size, 1, none⟩ = some (.string ⟨#[]⟩) := by rw [blk_cell hrr]; rfl
              have z0 : pw.w'.frozen? ⟨w.heap.size, 0, none⟩ = false := blk_frozen hrr 0
              have z1 : pw.w'.frozen? ⟨w.heap.size, 1, none⟩ = false := blk_frozen hrr 1
              clear hrr
              go_wp2
              refine bodyPost_ret (v := .tuple #[.agg #[.string ⟨#[]⟩, .string ⟨#[]⟩], .int .i64 4]) (by simp [results, Try.results22, go_sem, r0, r1]) rfl ⟨?_, mid_end HMID.out HBw.out HB6.out _ _⟩
              have ht : tabR s many n = z33 := by unfold tabR; rw [HER.out]; rfl
              rw [HER.out, ht]
              rfl
            · have hmx : Try.prog.follows .mixedOrders = true := by kernel_rfl
              refine wp_region_kept hmx (by kernel_rfl) ?_
              repeat (go_big_quiet_step (exact kept_calls (HEND.out _)))
              refine wpQuiet_nil ?_
              rintro _ ⟨pw, rfl⟩
              have HB6 := Lib.hid (HB5.out.trans (pw.h.mono HB5.out.size))
              have v0 := k0 pw
              have v1 := k1 pw
              have v2 := k2 pw
              have v3 := k3 pw
              have vf := kf pw
              generalize pw.w' = w6 at HB6 v0 v1 v2 v3 vf ⊢
              clear k0 k1 k2 k3 kf y0 y1 y2 y3 yf
              have hv0 : (0 : Int) ≤ nat + nmany := by omega
              have hv1 : nat ≤ nat + nmany := by omega
              have hv2 : nat + nmany ≤ (s.size : Int) := by omega
              have hXw : ¬ X = w6.heap.size := by have := World.block_lt_of_cell? _ _ v0; simp at this; omega
              have hgw : ¬ g = w6.heap.size := by have := World.block_lt_of_cell? _ _ vf; simp at this; omega
              obtain ⟨D, hD⟩ : ∃ D, s.extract nat.toNat (nat + nmany).toNat = D := ⟨_, rfl⟩
              go_wp2_with fail
              go_region_held3 (fun w' => w'.cell? ⟨X, 0, none⟩ = some (.int .i64 nat) ∧ w'.cell? ⟨X, 1, none⟩ = some (.int .i64 nmany) ∧ w'.cell? ⟨X, 2, none⟩ = some (.string tg) ∧ w'.cell? ⟨g, 0, none⟩ = some (.string s)) (first | exact keep4 hbk (by assumption) | exact keep4 (below_alloc hbk _) ⟨v0, v1, v2, vf⟩ | exact keep4s hXw hXw hXw hgw (keep4s hXw hXw hXw hgw (by assumption)) | go_keep) (first | (go_at_call 47; refine (HEND.out _).mono ?_; rintro e w7 ⟨rfl, hbk⟩; try (have hnb : w7.heap[w6.heap.size]? = some (.cells #[.string ⟨#[]⟩, .string ⟨#[]⟩] 33 (0, 0)) := new_cellsD hbk; have u0 : w7.cell? ⟨w6.heap.size, 0, none⟩ = some (.string ⟨#[]⟩) := (blk_cell hnb 0).trans rfl; have u1 : w7.cell? ⟨w6.heap.size, 1, none⟩ = some (.string ⟨#[]⟩) := (blk_cell hnb 1).trans rfl; have uf0 := blk_frozen hnb 0; have uf1 := blk_frozen hnb 1; clear hnb)))
              · have hB8 := tail1 (o := (.cells #[.string tg, .string D] 33)) HB6.out hbk
                have u0 : (w7.alloc (.cells #[.string tg, .string D] 33)).cell? ⟨w7.heap.size, 0, none⟩ = some (.string tg) := by simp
                have u1 : (w7.alloc (.cells #[.string tg, .string D] 33)).cell? ⟨w7.heap.size, 1, none⟩ = some (.string D) := by simp
                have u3 : (w7.alloc (.cells #[.string tg, .string D] 33)).cell? ⟨X, 3, none⟩ = some (.int .i64 nsum) := pw_cell_below (below_alloc (Below.refl w7.heap.size w7) _) (pw_cell_below hbk v3)
                clear v0 v1 v2 v3 vf hXw hgw hbk
                generalize w7.alloc (.cells #[.string tg, .string D] 33) = w8 at hB8 u0 u1 u3 ⊢
                generalize w7.heap.size = T at u0 u1 ⊢
                have HB8 := Lib.hid hB8
                clear hB8
                have hdl : D.size ≤ 1000000000 := by
                  rw [← hD, ByteArray.size_extract]
                  omega
                have HSUM := Lib.hid (sfnt_sum_calls tg D hdl)
                have hErr : errR s many n = if tabSum tg D ≠ nsum then 5 else 0 := by
                  unfold errR dataR
                  rw [HNB.out, HREC.out]
                  simp only [hD]
                  rw [if_neg Bool.false_ne_true, if_neg (show ¬ (s.size : Int) < nat + nmany by omega)]
                have hTab : errR s many n = 0 → tabR s many n = ⟨tg, D⟩ := fun h => by
                  unfold tabR dataR
                  rw [if_pos h, HREC.out]
                  simp only [hD]
                generalize tabSum tg D = sm at HSUM hErr
                have HTB := Lib.hid hTab
                clear hTab hdl hD hv0 hv1 hv2 hov
                go_wp2_with fail
                have k0 := kept_cell u0
                have k1 := kept_cell u1
                have k3 := kept_cell u3
                clear u0 u1 u3
                by_cases hsn : sm = nsum
                · rw [if_neg (fun h => h hsn)] at hErr
                  have HER := Lib.hid hErr
                  have hq1 : (sm != nsum) = false := by rw [hsn]; simp
                  have hq2 : (sm == nsum) = true := by rw [hsn]; simp
                  clear hsn hErr
                  have hmx : Try.prog.follows .mixedOrders = true := by kernel_rfl
                  refine wp_region_kept hmx (by kernel_rfl) ?_
                  repeat (go_big_quiet_step (exact kept_calls (HSUM.out _)))
                  refine wpQuiet_nil ?_
                  rintro _ ⟨pw, rfl⟩
                  have HB9 := Lib.hid (HB8.out.trans (pw.h.mono HB8.out.size))
                  have t0 := k0 pw
                  have t1 := k1 pw
                  have hrr := (HB9.out.block _ (blk_lt HMID.out.r)).trans HMID.out.r
                  have r0 : pw.w'.cell? ⟨w.heap.size, 0, none⟩ = some (.string ⟨#[]⟩) := by rw [blk_cell hrr]; rfl
                  have r1 : pw.w'.cell? ⟨w.heap.size, 1, none⟩ = some (.string ⟨#[]⟩) := by rw [blk_cell hrr]; rfl
                  have z0 : pw.w'.frozen? ⟨w.heap.size, 0, none⟩ = false := blk_frozen hrr 0
                  have z1 : pw.w'.frozen? ⟨w.heap.size, 1, none⟩ = false := blk_frozen hrr 1
                  clear hrr
                  go_wp2
                  refine bodyPost_ret (v := .tuple #[.agg #[.string tg, .string D], .int .i64 0]) (by simp [results, Try.results22, go_sem, r0, r1]) rfl ⟨?_, mid_end HMID.out HBw.out HB9.out _ _⟩
                  rw [HTB.out HER.out, HER.out]
                · rw [if_pos hsn] at hErr
                  have HER := Lib.hid hErr
                  have hq1 : (sm != nsum) = true := by simpa using hsn
                  have hq2 : (sm == nsum) = false := by simpa using hsn
                  clear hsn hErr
                  have hmx : Try.prog.follows .mixedOrders = true := by kernel_rfl
                  refine wp_region_kept hmx (by kernel_rfl) ?_
                  repeat (go_big_quiet_step (exact kept_calls (HSUM.out _)))
                  refine wpQuiet_nil ?_
                  rintro _ ⟨pw, rfl⟩
                  have HB9 := Lib.hid (HB8.out.trans (pw.h.mono HB8.out.size))
                  have hrr := (HB9.out.block _ (blk_lt HMID.out.r)).trans HMID.out.r
                  have r0 : pw.w'.cell? ⟨w.heap.size, 0, none⟩ = some (.string ⟨#[]⟩) := by rw [blk_cell hrr]; rfl
                  have r1 : pw.w'.cell? ⟨w.heap.size, 1, none⟩ = some (.string ⟨#[]⟩) := by rw [blk_cell hrr]; rfl
                  have z0 : pw.w'.frozen? ⟨w.heap.size, 0, none⟩ = false := blk_frozen hrr 0
                  have z1 : pw.w'.frozen? ⟨w.heap.size, 1, none⟩ = false := blk_frozen hrr 1
                  clear hrr
                  go_wp2
                  refine bodyPost_ret (v := .tuple #[.agg #[.string ⟨#[]⟩, .string ⟨#[]⟩], .int .i64 5]) (by simp [results, Try.results22, go_sem, r0, r1]) rfl ⟨?_, mid_end HMID.out HBw.out HB9.out _ _⟩
                  have ht : tabR s many n = z33 := by unfold tabR; rw [HER.out]; rfl
                  rw [HER.out, ht]
                  rfl
              · have hB8 := tail2 (u := .string tg) (v := .string D) HB6.out hbk
                have hu0 := u0
                have hu1 := u1
                have e0 : ((w7.setCell ⟨w6.heap.size, 0, none⟩ (.string tg)).setCell ⟨w6.heap.size, 1, none⟩ (.string D)).cell? ⟨w6.heap.size, 0, none⟩ = some (.string tg) := (two_set hu0 hu1).1
                have e1 : ((w7.setCell ⟨w6.heap.size, 0, none⟩ (.string tg)).setCell ⟨w6.heap.size, 1, none⟩ (.string D)).cell? ⟨w6.heap.size, 1, none⟩ = some (.string D) := (two_set hu0 hu1).2
                have u3 : ((w7.setCell ⟨w6.heap.size, 0, none⟩ (.string tg)).setCell ⟨w6.heap.size, 1, none⟩ (.string D)).cell? ⟨X, 3, none⟩ = some (.int .i64 nsum) := by
                  rw [World.cell?_of_block (a := ⟨X, 3, none⟩) (Below.heap_setCell _ ⟨w6.heap.size, 1, none⟩ _ X hXw), World.cell?_of_block (a := ⟨X, 3, none⟩) (Below.heap_setCell _ ⟨w6.heap.size, 0, none⟩ _ X hXw)]
                  exact pw_cell_below hbk (pw_cell_below (below_drew (below_alloc (Below.refl w6.heap.size w6) _)) v3)
                clear v0 v1 v2 v3 vf hXw hgw hbk u0 u1 uf0 uf1 hu0 hu1
                generalize ((w7.setCell ⟨w6.heap.size, 0, none⟩ (.string tg)).setCell ⟨w6.heap.size, 1, none⟩ (.string D)) = w8 at hB8 e0 e1 u3 ⊢
                generalize w6.heap.size = T at e0 e1 ⊢
                have u0 := e0
                have u1 := e1
                clear e0 e1
                have HB8 := Lib.hid hB8
                clear hB8
                have hdl : D.size ≤ 1000000000 := by
                  rw [← hD, ByteArray.size_extract]
                  omega
                have HSUM := Lib.hid (sfnt_sum_calls tg D hdl)
                have hErr : errR s many n = if tabSum tg D ≠ nsum then 5 else 0 := by
                  unfold errR dataR
                  rw [HNB.out, HREC.out]
                  simp only [hD]
                  rw [if_neg Bool.false_ne_true, if_neg (show ¬ (s.size : Int) < nat + nmany by omega)]
                have hTab : errR s many n = 0 → tabR s many n = ⟨tg, D⟩ := fun h => by
                  unfold tabR dataR
                  rw [if_pos h, HREC.out]
                  simp only [hD]
                generalize tabSum tg D = sm at HSUM hErr
                have HTB := Lib.hid hTab
                clear hTab hdl hD hv0 hv1 hv2 hov
                go_wp2_with fail
                have k0 := kept_cell u0
                have k1 := kept_cell u1
                have k3 := kept_cell u3
                clear u0 u1 u3
                by_cases hsn : sm = nsum
                · rw [if_neg (fun h => h hsn)] at hErr
                  have HER := Lib.hid hErr
                  have hq1 : (sm != nsum) = false := by rw [hsn]; simp
                  have hq2 : (sm == nsum) = true := by rw [hsn]; simp
                  clear hsn hErr
                  have hmx : Try.prog.follows .mixedOrders = true := by kernel_rfl
                  refine wp_region_kept hmx (by kernel_rfl) ?_
                  repeat (go_big_quiet_step (exact kept_calls (HSUM.out _)))
                  refine wpQuiet_nil ?_
                  rintro _ ⟨pw, rfl⟩
                  have HB9 := Lib.hid (HB8.out.trans (pw.h.mono HB8.out.size))
                  have t0 := k0 pw
                  have t1 := k1 pw
                  have hrr := (HB9.out.block _ (blk_lt HMID.out.r)).trans HMID.out.r
                  have r0 : pw.w'.cell? ⟨w.heap.size, 0, none⟩ = some (.string ⟨#[]⟩) := by rw [blk_cell hrr]; rfl
                  have r1 : pw.w'.cell? ⟨w.heap.size, 1, none⟩ = some (.string ⟨#[]⟩) := by rw [blk_cell hrr]; rfl
                  have z0 : pw.w'.frozen? ⟨w.heap.size, 0, none⟩ = false := blk_frozen hrr 0
                  have z1 : pw.w'.frozen? ⟨w.heap.size, 1, none⟩ = false := blk_frozen hrr 1
                  clear hrr
                  go_wp2
                  refine bodyPost_ret (v := .tuple #[.agg #[.string tg, .string D], .int .i64 0]) (by simp [results, Try.results22, go_sem, r0, r1]) rfl ⟨?_, mid_end HMID.out HBw.out HB9.out _ _⟩
                  rw [HTB.out HER.out, HER.out]
                · rw [if_pos hsn] at hErr
                  have HER := Lib.hid hErr
                  have hq1 : (sm != nsum) = true := by simpa using hsn
                  have hq2 : (sm == nsum) = false := by simpa using hsn
                  clear hsn hErr
                  have hmx : Try.prog.follows .mixedOrders = true := by kernel_rfl
                  refine wp_region_kept hmx (by kernel_rfl) ?_
                  repeat (go_big_quiet_step (exact kept_calls (HSUM.out _)))
                  refine wpQuiet_nil ?_
                  rintro _ ⟨pw, rfl⟩
                  have HB9 := Lib.hid (HB8.out.trans (pw.h.mono HB8.out.size))
                  have hrr := (HB9.out.block _ (blk_lt HMID.out.r)).trans HMID.out.r
                  have r0 : pw.w'.cell? ⟨w.heap.size, 0, none⟩ = some (.string ⟨#[]⟩) := by rw [blk_cell hrr]; rfl
                  have r1 : pw.w'.cell? ⟨w.heap.size, 1, none⟩ = some (.string ⟨#[]⟩) := by rw [blk_cell hrr]; rfl
                  have z0 : pw.w'.frozen? ⟨w.heap.size, 0, none⟩ = false := blk_frozen hrr 0
                  have z1 : pw.w'.frozen? ⟨w.heap.size, 1, none⟩ = false := blk_frozen hrr 1
                  clear hrr
                  go_wp2
                  refine bodyPost_ret (v := .tuple #[.agg #[.string ⟨#[]⟩, .string ⟨#[]⟩], .int .i64 5]) (by simp [results, Try.results22, go_sem, r0, r1]) rfl ⟨?_, mid_end HMID.out HBw.out HB9.out _ _⟩
                  have ht : tabR s many n = z33 := by unfold tabR; rw [HER.out]; rfl
                  rw [HER.out, ht]
                  rfl
        · have hE : errR s many n = 5 := by unfold errR; rw [hbad, decide_eq_true hm4]; rfl
          have hq1 : (nat % 4 == 0) = false := by simpa using hm4
          have hq2 : (nat % 4 != 0) = true := by simpa using hm4
          clear hm4
          have HER := Lib.hid hE
          clear hbad hE
          have hmx : Try.prog.follows .mixedOrders = true := by kernel_rfl
          refine wp_region_kept hmx (by kernel_rfl) ?_
          repeat (go_big_quiet_step (exact kept_calls (HTG.out _)))
          refine wpQuiet_nil ?_
          rintro _ ⟨pw, rfl⟩
          have HB5 := Lib.hid pw.h
          have hrr := (HB5.out.block _ (blk_lt HMID.out.r)).trans HMID.out.r
          have r0 : pw.w'.cell? ⟨w.heap.size, 0, none⟩ = some (.string ⟨#[]⟩) := by rw [blk_cell hrr]; rfl
          have r1 : pw.w'.cell? ⟨w.heap.size, 1, none⟩ = some (.string ⟨#[]⟩) := by rw [blk_cell hrr]; rfl
          have z0 : pw.w'.frozen? ⟨w.heap.size, 0, none⟩ = false := blk_frozen hrr 0
          have z1 : pw.w'.frozen? ⟨w.heap.size, 1, none⟩ = false := blk_frozen hrr 1
          clear hrr
          go_wp2
          refine bodyPost_ret (v := .tuple #[.agg #[.string ⟨#[]⟩, .string ⟨#[]⟩], .int .i64 5]) (by simp [results, Try.results22, go_sem, r0, r1]) rfl ⟨?_, mid_end HMID.out HBw.out HB5.out _ _⟩
          have ht : tabR s many n = z33 := by unfold tabR; rw [HER.out]; rfl
          rw [HER.out, ht]
          rfl
end Go.Proofs.Ytgchajlfopmcjaa.P
