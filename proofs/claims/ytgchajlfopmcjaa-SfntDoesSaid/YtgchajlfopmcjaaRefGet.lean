/- The reference's wrong and Get, walked: they answer as sfnt.Get does. Condition: a text that is no longer than a machine holds. -/
import Derived.Test.YtgchajlfopmcjaaSfRead
import Derived.Test.YtgchajlfopmcjaaPx5
import Derived.Test.YtgchajlfopmcjaaPx4
import Derived.Test.YtgchajlfopmcjaaSfGet
import Derived.Test.YtgchajlfopmcjaaPutGet
namespace Go.Proofs.Ytgchajlfopmcjaa.P
open Go.Shelf Go.RowKit Go.Proofs.YtgchajlfopmcjaaW.PrintWords Go.Proofs.YtgchajlfopmcjaaW.PrintLast Go.Proofs.YtgchajlfopmcjaaW.PrintMore Go.Proofs.Ytgchajlfopmcjaa.BN
set_option linter.unusedVariables false
set_option linter.unusedSimpArgs false
set_option maxRecDepth 100000
theorem ref_sum04 (t d : ByteArray) (hd : d.size ≤ 1000000000) : Ev (fun k => vinculumref04_Sum.f k t d) (tabSum t d) := by
  unfold vinculumref04_Sum.f tabSum sumOf headT
  by_cases h : t.toList = ([104, 101, 97, 100] : List UInt8)
  · by_cases h12 : 12 ≤ d.size
    · have e1 : (d.extract 0 8).size = 8 := by rw [ByteArray.size_extract]; omega
      have e2 : (d.extract 12 d.size).size = d.size - 12 := by rw [ByteArray.size_extract]; omega
      have e3 : ((d.extract 0 8) ++ (⟨#[0, 0, 0, 0]⟩ : ByteArray)).size = 12 := by rw [ByteArray.size_append, e1]; rfl
      rw [if_pos ⟨h, h12⟩]
      refine Ev.congr (f := fun k => (vinculumref03_Sum.f k (((d.extract 0 8) ++ (⟨#[0, 0, 0, 0]⟩ : ByteArray)) ++ (d.extract 12 d.size))).bind fun t117 => (some t117)) (fun k => ?_) (Ev.bind (ref_sum _ (by rw [ByteArray.size_append, e3, e2]; omega)) (Ev.now _))
      rw [if_pos h, if_pos (by omega), if_pos (by omega), if_pos (by omega), e1, if_pos (by omega), if_pos (by omega), e3, e2, if_pos (by omega)]
    · rw [if_neg (by omega)]
      refine Ev.congr (f := fun k => (vinculumref03_Sum.f k d).bind fun t117 => (some t117)) (fun k => ?_) (Ev.bind (ref_sum _ hd) (Ev.now _))
      rw [if_pos h, if_neg (by omega)]
  · rw [if_neg (fun q => h q.1)]
    refine Ev.congr (f := fun k => (vinculumref03_Sum.f k d).bind fun t117 => (some t117)) (fun k => ?_) (Ev.bind (ref_sum _ hd) (Ev.now _))
    rw [if_neg h]
theorem ref_sum_any (t d : ByteArray) (hd : d.size ≤ 1000000000) (w : World) : Calls Try.prog 16 #[.agg #[.string t, .string d]] w fun e w' => e = .returned (.int .i64 (tabSum t d)) ∧ Below w.heap.size w w' := by
  obtain ⟨k, hk⟩ := Ev.rounds (ref_sum04 t d hd)
  exact vinculumref04_Sum.calls k t d _ w hk
theorem ref_tag_below (s : ByteArray) (hs : s.size ≤ 1000000000) (w : World) : Calls Try.prog 55 #[.string s] w fun e w' => e = .returned (.bool (tagB s)) ∧ Below w.heap.size w w' :=
  (ref_tag_any s hs w).mono fun _ _ ⟨he, hd⟩ => ⟨he, Drawn0.below hd⟩
def badW (l : List S60) (x : Int) : Bool :=
  !tagB (rd_T60 l x).f0 || (decide (0 < x) && !Op.bytesLess (rd_T60 l (x - 1)).f0.toList (rd_T60 l x).f0.toList) || decide ((rd_T60 l x).f2 % 4 ≠ 0) || decide ((rd_T60 l x).f2 < 12 + 16 * (l.length : Int))
def wrongR (s : ByteArray) (l : List S60) (x : Int) : Int :=
  if badW l x then 5 else if (s.size : Int) < (rd_T60 l x).f2 + (rd_T60 l x).f3 then 4
  else if tabSum (rd_T60 l x).f0 (s.extract (rd_T60 l x).f2.toNat ((rd_T60 l x).f2 + (rd_T60 l x).f3).toNat) ≠ (rd_T60 l x).f1 then 5 else 0
set_option maxHeartbeats 8000000 in
theorem wrong_calls (s : ByteArray) (A : Option Addr) (c : Nat) (l : List S60) (x : Int) (w : World) (hr : Kd.C k60 w A l.length l) (hc : l.length ≤ c) (h0 : 0 ≤ x) (h1 : x < (l.length : Int)) (hs : s.size ≤ 16777216) (hl : l.length ≤ 64)
    (ht : (rd_T60 l x).f0.size ≤ 1000000000) (b2 : 0 ≤ (rd_T60 l x).f2) (b2' : (rd_T60 l x).f2 < 4294967296) (b3 : 0 ≤ (rd_T60 l x).f3) (b3' : (rd_T60 l x).f3 < 4294967296) :
    Calls Try.prog 27 #[.string s, .slice A l.length c, .int .i64 x] w fun e w' => e = .returned (.int .i64 (wrongR s l x)) ∧ Below w.heap.size w w' := by
  have HTAG := Lib.hid (ref_tag_below (rd_T60 l x).f0 ht)
  have HW := Lib.hid (show wrongR s l x = if badW l x then 5 else if (s.size : Int) < (rd_T60 l x).f2 + (rd_T60 l x).f3 then 4
    else if tabSum (rd_T60 l x).f0 (s.extract (rd_T60 l x).f2.toNat ((rd_T60 l x).f2 + (rd_T60 l x).f3).toNat) ≠ (rd_T60 l x).f1 then 5 else 0 from rfl)
  have hbw : badW l x = (!tagB (rd_T60 l x).f0 || (decide (0 < x) && !Op.bytesLess (rd_T60 l (x - 1)).f0.toList (rd_T60 l x).f0.toList) || decide ((rd_T60 l x).f2 % 4 ≠ 0) || decide ((rd_T60 l x).f2 < 12 + 16 * (l.length : Int))) := rfl
  have hprev : 0 < x → ∃ ad, A = some ad ∧ w.cell? (ad.add ((x - 1).toNat * 4)) = some (.string (rd_T60 l (x - 1)).f0) := fun hx => by
    obtain ⟨ad, e, y0, _, _, _⟩ := at_T60 hr (x - 1) (by omega) (by omega)
    exact ⟨ad, e, y0⟩
  obtain ⟨ad, rfl, x0, x1, x2, x3⟩ := at_T60 hr x h0 h1
  have hpv : 0 < x → w.cell? (ad.add ((x - 1).toNat * 4)) = some (.string (rd_T60 l (x - 1)).f0) := fun hx => by
    obtain ⟨ad', e, y0⟩ := hprev hx
    cases e
    exact y0
  have HPV := Lib.hid hpv
  obtain ⟨y, hy⟩ : ∃ y, x - 1 = y := ⟨_, rfl⟩
  have hxw : IntKind.i64.wrap (x - 1) = y := (IntWalk.i64_in _ (by omega)).trans hy
  have hy0 : 0 < x → 0 ≤ y := fun h => by omega
  have hy1 : y < (l.length : Int) := by omega
  rw [hy] at HPV hbw
  generalize rd_T60 l y = rp at HPV hbw
  generalize rd_T60 l x = r at *
  obtain ⟨tg, sm, pa, mn⟩ := r
  obtain ⟨pt, _, _, _⟩ := rp
  simp only at *
  have HBW := Lib.hid hbw
  clear hbw hprev hpv hy
  have wr1 : IntKind.i64.wrap (16 * (l.length : Int)) = 16 * (l.length : Int) := IntWalk.i64_in _ (by omega)
  have wr2 : IntKind.i64.wrap (12 + 16 * (l.length : Int)) = 12 + 16 * (l.length : Int) := IntWalk.i64_in _ (by omega)
  have wr3 : IntKind.i64.wrap (pa + mn) = pa + mn := IntWalk.i64_in _ (by omega)
  have HS := Lib.hid hs
  clear hr hc ht
  go_enter Try.func27, Try.ntmps27
  go_upto_region 2 with (fail)
  generalize hW : w.alloc (.cells #[.string tg, .int .i64 sm, .int .i64 pa, .int .i64 mn] 60) = W1
  have hbk : W1.heap[w.heap.size]? = some (.cells #[.string tg, .int .i64 sm, .int .i64 pa, .int .i64 mn] 60 (0, 0)) := by rw [← hW]; exact heap_alloc_new w _
  have q0 : W1.cell? ⟨w.heap.size, 0, none⟩ = some (.string tg) := Joins.cell_of_block hbk 0
  have q1 : W1.cell? ⟨w.heap.size, 1, none⟩ = some (.int .i64 sm) := Joins.cell_of_block hbk 1
  have q2 : W1.cell? ⟨w.heap.size, 2, none⟩ = some (.int .i64 pa) := Joins.cell_of_block hbk 2
  have q3 : W1.cell? ⟨w.heap.size, 3, none⟩ = some (.int .i64 mn) := Joins.cell_of_block hbk 3
  have hB1 : Below w.heap.size w W1 := by rw [← hW]; exact (Below.refl w.heap.size w).alloc (Nat.le_refl _) _
  have HB1 := Lib.hid hB1
  have hmx : Try.prog.follows .mixedOrders = true := by kernel_rfl
  clear hW hbk hB1 x0 x1 x2 x3
  have HQ := Lib.hid (And.intro q0 (And.intro q1 (And.intro q2 q3)))
  go_cut [45] (fun v45 wc => v45 = .bool (badW l x) ∧ Hid (Below W1.heap.size W1 wc))
  case first =>
    have p0 := kept_cell q0
    have p2 := kept_cell q2
    clear q0 q1 q2 q3
    generalize tagB tg = tb at HTAG HBW
    cases tb with
    | false =>
      refine wp_region_kept hmx (by kernel_rfl) ?_
      repeat (go_big_quiet_step (exact kept_calls (HTAG.out _)))
      refine wpQuiet_nil ?_
      rintro _ ⟨pw, rfl⟩
      go_wp2
      go_meet
      case rel => exact ⟨by rw [HBW.out]; rfl, Lib.hid pw.h⟩
    | true =>
      have key : decide (0 < x) = false ∨ (0 < x ∧ decide (0 < x) = true ∧ Op.bytesLess pt.toList tg.toList = true) ∨ (0 < x ∧ decide (0 < x) = true ∧ Op.bytesLess pt.toList tg.toList = false) := by
        by_cases hx : 0 < x
        · cases hbl : Op.bytesLess pt.toList tg.toList
          · exact .inr (.inr ⟨hx, decide_eq_true hx, rfl⟩)
          · exact .inr (.inl ⟨hx, decide_eq_true hx, rfl⟩)
        · exact .inl (decide_eq_false hx)
      have hle := leq_flip tg.toList pt.toList
      rcases key with hx | ⟨hx0, hx, hbl⟩ | ⟨hx0, hx, hbl⟩
      rotate_left 2
      · rw [hbl] at hle
        have y0 := (HB1.out.cell (World.block_lt_of_cell? w _ (HPV.out hx0))).trans (HPV.out hx0)
        have py := kept_cell y0
        have h0y := hy0 hx0
        clear y0
        refine wp_region_kept hmx (by kernel_rfl) ?_
        repeat (go_big_quiet_step (exact kept_calls (HTAG.out _)))
        refine wpQuiet_nil ?_
        rintro _ ⟨pw, rfl⟩
        go_wp2
        go_meet
        case rel => exact ⟨by rw [HBW.out]; rw [hx, hbl]; rfl, Lib.hid pw.h⟩
      all_goals
        by_cases hm4 : pa % 4 = 0
        rotate_left
        · have hq1 : (pa % 4 == 0) = false := by simpa using hm4
          have hq2 : (pa % 4 != 0) = true := by simpa using hm4
          try
            rw [hbl] at hle
          try
            have y0 := (HB1.out.cell (World.block_lt_of_cell? w _ (HPV.out hx0))).trans (HPV.out hx0)
            have py := kept_cell y0
            have h0y := hy0 hx0
            clear y0
          refine wp_region_kept hmx (by kernel_rfl) ?_
          repeat (go_big_quiet_step (exact kept_calls (HTAG.out _)))
          refine wpQuiet_nil ?_
          rintro _ ⟨pw, rfl⟩
          go_wp2
          go_meet
          case rel => exact ⟨by rw [HBW.out]; simp [hx, hm4] <;> simp [hbl], Lib.hid pw.h⟩
        have hq1 : (pa % 4 == 0) = true := by rw [hm4]; rfl
        have hq2 : (pa % 4 != 0) = false := by rw [hm4]; rfl
        by_cases hlow : pa < 12 + 16 * (l.length : Int)
        · have hlw : decide (pa < 12 + 16 * (l.length : Int)) = true := decide_eq_true hlow
          try
            rw [hbl] at hle
          try
            have y0 := (HB1.out.cell (World.block_lt_of_cell? w _ (HPV.out hx0))).trans (HPV.out hx0)
            have py := kept_cell y0
            have h0y := hy0 hx0
            clear y0
          refine wp_region_kept hmx (by kernel_rfl) ?_
          repeat (go_big_quiet_step (exact kept_calls (HTAG.out _)))
          refine wpQuiet_nil ?_
          rintro _ ⟨pw, rfl⟩
          go_wp2
          go_meet
          case rel => exact ⟨by rw [HBW.out]; simp [hlow], Lib.hid pw.h⟩
        · have hlw : decide (pa < 12 + 16 * (l.length : Int)) = false := decide_eq_false hlow
          try
            rw [hbl] at hle
          try
            have y0 := (HB1.out.cell (World.block_lt_of_cell? w _ (HPV.out hx0))).trans (HPV.out hx0)
            have py := kept_cell y0
            have h0y := hy0 hx0
            clear y0
          refine wp_region_kept hmx (by kernel_rfl) ?_
          repeat (go_big_quiet_step (exact kept_calls (HTAG.out _)))
          refine wpQuiet_nil ?_
          rintro _ ⟨pw, rfl⟩
          go_wp2
          go_meet
          case rel => exact ⟨by rw [HBW.out]; simp [hx, hm4, hlow] <;> simp [hbl], Lib.hid pw.h⟩
  case rest =>
    obtain ⟨rfl, HBC⟩ := hcut
    have z0 := (HBC.out.cell (World.block_lt_of_cell? _ _ q0)).trans q0
    have z1 := (HBC.out.cell (World.block_lt_of_cell? _ _ q1)).trans q1
    have z2 := (HBC.out.cell (World.block_lt_of_cell? _ _ q2)).trans q2
    have z3 := (HBC.out.cell (World.block_lt_of_cell? _ _ q3)).trans q3
    have HB2 := Lib.hid (HB1.out.trans (HBC.out.mono HB1.out.size))
    clear q0 q1 q2 q3 HBC
    generalize badW l x = bw at HW HBW ⊢
    clear HBW
    cases bw with
    | true =>
      go_wp2
      go_ret
      exact ⟨by rw [HW.out]; rfl, HB2.out⟩
    | false =>
      by_cases h4 : (s.size : Int) < pa + mn
      · have h4d : decide ((s.size : Int) < pa + mn) = true := decide_eq_true h4
        go_wp2
        go_ret
        exact ⟨by rw [HW.out, if_neg (by decide), if_pos h4]; rfl, HB2.out⟩
      · have h4d : decide ((s.size : Int) < pa + mn) = false := decide_eq_false h4
        have hv0 : (0 : Int) ≤ pa + mn := by omega
        have hv1 : pa ≤ pa + mn := by omega
        have hv2 : pa + mn ≤ (s.size : Int) := by omega
        have hDs : (s.extract pa.toNat (pa + mn).toNat).size ≤ 1000000000 := by rw [ByteArray.size_extract]; omega
        obtain ⟨D, hD⟩ : ∃ D, s.extract pa.toNat (pa + mn).toNat = D := ⟨_, rfl⟩
        rw [hD] at hDs HW
        have HSUM := Lib.hid (ref_sum_any tg D hDs)
        generalize tabSum tg D = T at HW HSUM
        have hfin : wrongR s l x = if T ≠ sm then 5 else 0 := by rw [HW.out, if_neg (by decide), if_neg h4]
        have HF := Lib.hid hfin
        have k0 := kept_cell z0
        have k1 := kept_cell z1
        have k2 := kept_cell z2
        have k3 := kept_cell z3
        clear hfin HW hDs h4
        go_upto_region 6 with (fail)
        clear z0 z1 z2 z3
        refine wp_region_kept hmx (by kernel_rfl) ?_
        repeat (go_big_quiet_step (exact kept_calls (HSUM.out _)))
        refine wpQuiet_nil ?_
        rintro _ ⟨pw, rfl⟩
        have HB3 := Lib.hid (HB2.out.trans (pw.h.mono HB2.out.size))
        by_cases hT : T = sm
        · have t1 : (T != sm) = false := bne_eq_false_iff_eq.mpr hT
          go_wp2
          go_ret
          exact ⟨by rw [HF.out, if_neg (by simpa using hT)]; rfl, HB3.out⟩
        · have t1 : (T != sm) = true := bne_iff_ne.mpr hT
          go_wp2
          go_ret
          exact ⟨by rw [HF.out, if_pos hT]; rfl, HB3.out⟩
end Go.Proofs.Ytgchajlfopmcjaa.P
namespace Go.Proofs.Ytgchajlfopmcjaa.P
open Go.Shelf Go.RowKit Go.Proofs.YtgchajlfopmcjaaW.PrintWords Go.Proofs.YtgchajlfopmcjaaW.PrintLast Go.Proofs.YtgchajlfopmcjaaW.PrintMore Go.Proofs.Ytgchajlfopmcjaa.BN
set_option linter.unusedVariables false
set_option linter.unusedSimpArgs false
set_option maxRecDepth 100000
theorem cut_bytes' (s : ByteArray) (a b : Nat) : bytesl (s.extract a b) = ((bytesl s).drop a).take (b - a) := by rw [bytesl_extract, List.drop_take]
theorem ref_number (s : ByteArray) (a m : Nat) (hs : s.size ≤ 16777216) (h1 : 1 ≤ m) (h4 : m ≤ 4) (ha : a + m ≤ s.size) : Ev (fun k => vinculumref04_number.f k s (a : Int) (m : Int)) (be (((bytesl s).drop a).take m)) := by
  have hw : wrap64 ((a : Int) + (m : Int)) = ((a + m : Nat) : Int) := by rw [wrap64_small (by omega) (by omega)]; omega
  have hsz : (s.extract a (a + m)).size = m := by rw [ByteArray.size_extract]; omega
  have ho := ref_one (s.extract a (a + m)) (m : Int) (by omega) (by omega)
  rw [hsz] at ho
  have hv : takeV (s.extract a (a + m)) m (m : Int) = be (((bytesl s).drop a).take m) := by
    rw [takeV_pos _ _ _ (by omega), cut_bytes', show a + m - a = m by omega, List.take_take, Nat.min_self]
  rw [hv] at ho
  refine Ev.congr (f := fun k => (vinculumref03_One.f k (s.extract a (a + m)) (m : Int)).bind fun t106 => (some t106)) (fun k => ?_) (Ev.bind ho (Ev.now _))
  unfold vinculumref04_number.f
  rw [hw, if_pos (by omega), if_pos (by omega), if_pos (by omega), Int.toNat_natCast, Int.toNat_natCast]
def recS (s : ByteArray) (i : Nat) : S60 := ⟨(recE s i).f1, (recE s i).f2, (recE s i).f0.f0, (recE s i).f0.f1⟩
def recsS (s : ByteArray) (n : Nat) : List S60 := (List.range n).map (recS s)
theorem recsS_succ (s : ByteArray) (n : Nat) : recsS s (n + 1) = recsS s n ++ [recS s n] := by unfold recsS; rw [List.range_succ, List.map_append]; rfl
theorem recsS_length (s : ByteArray) (n : Nat) : (recsS s n).length = n := by unfold recsS; simp
theorem ref_records (s : ByteArray) (m : Nat) (hs : s.size ≤ 16777216) (hm : nm2 s 4 = (m : Int)) (hm64 : m ≤ 64) (hfit : 12 + 16 * m ≤ s.size) : Ev (fun k => vinculumref04_records.f k s) (recsS s m) := by
  have key : ∀ (d i : Nat), i ≤ m → m - i = d → Ev (fun k => vinculumref04_records.l0 k s (recsS s i) (m : Int) (i : Int)) (recsS s m) := by
    intro d
    induction d with
    | zero =>
      intro i hi hd
      obtain rfl : i = m := by omega
      exact Ev.step (f := fun k => some (recsS s i)) (fun k => by rw [vinculumref04_records.l0, if_neg (by omega)]) (Ev.now _)
    | succ d ih =>
      intro i hi hd
      have w1 : wrap64 (16 * (i : Int)) = ((16 * i : Nat) : Int) := by rw [wrap64_small (by omega) (by omega)]; omega
      have w2 : wrap64 (12 + ((16 * i : Nat) : Int)) = ((12 + 16 * i : Nat) : Int) := by rw [wrap64_small (by omega) (by omega)]; omega
      have w3 : wrap64 (((12 + 16 * i : Nat) : Int) + 4) = ((12 + 16 * i + 4 : Nat) : Int) := by rw [wrap64_small (by omega) (by omega)]; omega
      have w4 : wrap64 (((12 + 16 * i : Nat) : Int) + 8) = ((12 + 16 * i + 8 : Nat) : Int) := by rw [wrap64_small (by omega) (by omega)]; omega
      have w5 : wrap64 (((12 + 16 * i : Nat) : Int) + 12) = ((12 + 16 * i + 12 : Nat) : Int) := by rw [wrap64_small (by omega) (by omega)]; omega
      have n1 := ref_number s (12 + 16 * i + 4) 4 hs (by omega) (by omega) (by omega)
      have n2 := ref_number s (12 + 16 * i + 8) 4 hs (by omega) (by omega) (by omega)
      have n3 := ref_number s (12 + 16 * i + 12) 4 hs (by omega) (by omega) (by omega)
      have hih := ih (i + 1) (by omega) (by omega)
      rw [recsS_succ] at hih
      refine Ev.step (f := fun k => (vinculumref04_number.f k s ((12 + 16 * i + 4 : Nat) : Int) ((4 : Nat) : Int)).bind fun t108 => ((vinculumref04_number.f k s ((12 + 16 * i + 8 : Nat) : Int) ((4 : Nat) : Int)).bind fun t109 => ((vinculumref04_number.f k s ((12 + 16 * i + 12 : Nat) : Int) ((4 : Nat) : Int)).bind fun t110 =>
        vinculumref04_records.l0 k s (recsS s i ++ [⟨s.extract (12 + 16 * i) (12 + 16 * i + 4), t108, t109, t110⟩]) (m : Int) ((i + 1 : Nat) : Int)))) (fun k => ?_) (Ev.bind n1 (Ev.bind n2 (Ev.bind n3 hih)))
      rw [vinculumref04_records.l0, if_pos (by omega), w1, w2, w3, w4, w5, if_pos (by omega), if_pos (by omega), if_pos (by omega), wrap_succ i (by omega), Int.toNat_natCast, Int.toNat_natCast]
      simp only [if_pos (show (recsS s i).length < 3518437208883 by rw [recsS_length]; omega)]
      rfl
  unfold vinculumref04_records.f
  have h0 := ref_number s 4 2 hs (by omega) (by omega) (by omega)
  rw [show be (((bytesl s).drop 4).take 2) = (m : Int) from hm] at h0
  exact Ev.bind h0 (key m 0 (by omega) (by omega))
theorem rd_recs (s : ByteArray) (n i : Nat) (hi : i < n) : rd_T60 (recsS s n) (i : Int) = recS s i := by
  unfold rd_T60 recsS
  rw [Int.toNat_natCast, List.getD_eq_getElem?_getD, List.getElem?_eq_getElem (by simpa using hi)]
  simp
theorem wrong_err (s : ByteArray) (n i : Nat) (hi : i < n) : wrongR s (recsS s n) (i : Int) = errR s n i := by
  unfold wrongR errR
  have hb : badW (recsS s n) (i : Int) = badR s n i := by
    unfold badW badR
    rw [rd_recs s n i hi, recsS_length]
    by_cases h0 : 0 < i
    · rw [show ((i : Int) - 1) = ((i - 1 : Nat) : Int) by omega, rd_recs s n (i - 1) (by omega), decide_eq_true (show (0 : Int) < (i : Int) by omega), decide_eq_true h0]
      rfl
    · rw [decide_eq_false (show ¬ (0 : Int) < (i : Int) by omega), decide_eq_false h0]
      rfl
  rw [hb, rd_recs s n i hi]
  rfl
/-- Do two records have a byte in common? -/
def pairB (a b : S60) : Bool := decide (0 < a.f3) && (decide (0 < b.f3) && (decide (a.f2 < b.f2 + b.f3) && decide (b.f2 < a.f2 + a.f3)))
theorem keep_pos (s : ByteArray) (i : Nat) : decide (0 < (recE s i).f0.f1) = keepE (recE s i) := by
  have h : 0 ≤ (recE s i).f0.f1 := (nm_small s (12 + 16 * i + 12)).1
  unfold keepE
  by_cases h0 : (recE s i).f0.f1 = 0
  · rw [h0]; rfl
  · rw [decide_eq_true (show 0 < (recE s i).f0.f1 by omega), beq_eq_false_iff_ne.mpr h0]; rfl
theorem pair_over (s : ByteArray) (i j : Nat) : pairB (recS s i) (recS s j) = (keepE (recE s i) && (keepE (recE s j) && overE (recE s i) (recE s j))) := by
  rw [← keep_pos, ← keep_pos]
  rfl
theorem meets_none (s : ByteArray) (n : Nat) (h : ∀ i, i < n → ∀ j, j < i → pairB (recS s i) (recS s j) = false) : meetB (recsE s n) = false := by
  unfold meetB
  rw [Bool.not_eq_false', decide_eq_true_eq, List.pairwise_filter, List.pairwise_iff_getElem]
  intro i j hi hj hij k1 k2
  have hn : (recsE s n).length = n := recsE_length _ _
  have hj' : j < n := by omega
  have ei : (recsE s n)[i] = recE s i := by simp [recsE]
  have ej : (recsE s n)[j] = recE s j := by simp [recsE]
  rw [ei] at k1 ⊢
  rw [ej] at k2 ⊢
  have := h j hj' i hij
  rw [pair_over, k1, k2] at this
  exact over_symm (by simpa using this)
theorem meets_some (s : ByteArray) (n i j : Nat) (hi : i < n) (hj : j < i) (h : pairB (recS s i) (recS s j) = true) : meetB (recsE s n) = true := by
  cases hq : meetB (recsE s n)
  · exfalso
    unfold meetB at hq
    rw [Bool.not_eq_false', decide_eq_true_eq, List.pairwise_filter, List.pairwise_iff_getElem] at hq
    have hn : (recsE s n).length = n := recsE_length _ _
    have hq2 := hq j i (by omega) (by omega) hj
    have ei : (recsE s n)[i]'(by omega) = recE s i := by simp [recsE]
    have ej : (recsE s n)[j]'(by omega) = recE s j := by simp [recsE]
    rw [ei, ej] at hq2
    rw [pair_over, Bool.and_eq_true, Bool.and_eq_true] at h
    have := over_symm (hq2 h.2.1 h.1)
    rw [this] at h
    exact absurd h.2.2 (by decide)
  · rfl
end Go.Proofs.Ytgchajlfopmcjaa.P
namespace Go.Proofs.Ytgchajlfopmcjaa.P
open Go.Shelf Go.RowKit Go.Proofs.YtgchajlfopmcjaaW.PrintWords Go.Proofs.YtgchajlfopmcjaaW.PrintLast Go.Proofs.YtgchajlfopmcjaaW.PrintMore Go.Proofs.Ytgchajlfopmcjaa.BN
set_option linter.unusedVariables false
set_option linter.unusedSimpArgs false
set_option maxRecDepth 100000
theorem num4_any (s : ByteArray) (hs : s.size ≤ 16777216) (h : 4 ≤ s.size) (w : World) : Calls Try.prog 25 #[.string s, .int .i64 0, .int .i64 4] w fun e w' => e = .returned (.int .i64 (nm s 0)) ∧ Drawn0 w w' := by
  obtain ⟨k, hk⟩ := Ev.rounds (ref_number s 0 4 hs (by omega) (by omega) (by omega))
  exact vinculumref04_number.calls k s 0 4 _ w hk
theorem num2_any (s : ByteArray) (hs : s.size ≤ 16777216) (h : 6 ≤ s.size) (w : World) : Calls Try.prog 25 #[.string s, .int .i64 4, .int .i64 2] w fun e w' => e = .returned (.int .i64 (nm2 s 4)) ∧ Drawn0 w w' := by
  obtain ⟨k, hk⟩ := Ev.rounds (ref_number s 4 2 hs (by omega) (by omega) (by omega))
  exact vinculumref04_number.calls k s 4 2 _ w hk
theorem refver_any (x : Int) (w : World) : Calls Try.prog 24 #[.int .i64 x] w fun e w' => e = .returned (.bool (verB x)) ∧ Drawn0 w w' := by
  refine vinculumref04_Version.calls x (verB x) w ?_
  unfold vinculumref04_Version.f verB
  by_cases h : x = 65536
  · rw [if_pos h, decide_eq_true h]; rfl
  · rw [if_neg h, decide_eq_false h, Bool.false_or]; rfl
theorem records_any (s : ByteArray) (m : Nat) (hs : s.size ≤ 16777216) (hm : nm2 s 4 = (m : Int)) (hm64 : m ≤ 64) (hfit : 12 + 16 * m ≤ s.size) (w : World) :
    Calls Try.prog 26 #[.string s] w fun e w' => ∃ v0_ : Value, e = .returned (v0_) ∧ Kd.R k60 60 w' w.heap.size (fun _ => True) v0_ (recsS s m) ∧ Below w.heap.size w w' := by
  obtain ⟨k, hk⟩ := Ev.rounds (ref_records s m hs hm hm64 hfit)
  exact vinculumref04_records.calls k s _ w hk
/-- What Get tells where it tells nothing. -/
def Told0 (s : ByteArray) (w : World) (e : Ending) (w' : World) : Prop := ∃ v, e = .returned (.tuple #[.int .i64 (getS s).1, v, .int .i64 (getS s).2.2]) ∧ Kd.R k33 33 w' w.heap.size (fun _ => True) v (getS s).2.1 ∧ Below w.heap.size w w'
theorem told0 {s : ByteArray} {w w' : World} {er : Int} (h : getS s = (0, [], er)) (hb : Below w.heap.size w w') : Told0 s w (.returned (.tuple #[.int .i64 0, .slice none 0 0, .int .i64 er])) w' := by
  unfold Told0
  rw [h]
  exact ⟨_, rfl, Kd.R_nil _ _ _ _ _, hb⟩
theorem get_front {s : ByteArray} {er : Int} (h : frontS s = (0, 0, er)) (he : er ≠ 0) : getS s = (0, [], er) := by
  unfold getS
  rw [h]
  exact if_pos he
set_option maxHeartbeats 8000000 in
theorem refget_front (s : ByteArray) (w : World) (hs : s.size ≤ 140737488351232) (h : (frontS s).2.2 ≠ 0) : Calls Try.prog 10 #[.string s] w (Told0 s w) := by
  by_cases c1 : 16777216 < s.size
  · have HG := Lib.hid (get_front (s := s) (er := 7) (by unfold frontS; rw [if_pos c1]) (by decide))
    have d1 : decide ((16777216 : Int) < (s.size : Int)) = true := decide_eq_true (by omega)
    have d1' : decide (16777216 < s.size) = true := decide_eq_true (by omega)
    clear h hs c1
    go_enter Try.func10, Try.ntmps10
    go_wp2
    go_ret3
    exact told0 HG.out (Below.refl _ _)
  have d1 : decide ((16777216 : Int) < (s.size : Int)) = false := decide_eq_false (by omega)
  have d1' : decide (16777216 < s.size) = false := decide_eq_false (by omega)
  by_cases c2 : s.size < 12
  · have HG := Lib.hid (get_front (s := s) (er := 4) (by unfold frontS; rw [if_neg c1, if_pos c2]) (by decide))
    have d2 : decide ((s.size : Int) < 12) = true := decide_eq_true (by omega)
    have d2' : decide (s.size < 12) = true := decide_eq_true (by omega)
    clear h hs c1 c2
    go_enter Try.func10, Try.ntmps10
    go_wp2
    go_ret3
    exact told0 HG.out (Below.refl _ _)
  have d2 : decide ((s.size : Int) < 12) = false := decide_eq_false (by omega)
  have d2' : decide (s.size < 12) = false := decide_eq_false (by omega)
  have HN4 := Lib.hid (num4_any s (by omega) (by omega))
  have HN2 := Lib.hid (num2_any s (by omega) (by omega))
  have HV := Lib.hid (refver_any (nm s 0))
  cases c3 : verB (nm s 0) with
  | false =>
    have HG := Lib.hid (get_front (s := s) (er := 5) (by unfold frontS; rw [if_neg c1, if_neg c2, if_pos c3]) (by decide))
    rw [c3] at HV
    clear h hs c1 c2 c3
    go_enter Try.func10, Try.ntmps10
    go_wp2_with (first
      | (go_at_call 25; refine (HN4.out _).mono ?_; rintro e w' ⟨rfl, ⟨nd, rfl⟩⟩)
      | (go_at_call 24; refine (HV.out _).mono ?_; rintro e w' ⟨rfl, ⟨nd2, rfl⟩⟩))
    go_ret3
    exact told0 HG.out (below_one _ _)
  | true =>
  rw [c3] at HV
  have hns := nm2_small s 4
  obtain ⟨z, hz⟩ : ∃ z, nm2 s 4 = z := ⟨_, rfl⟩
  rw [hz] at HN2 hns
  by_cases c4 : 64 < z
  · have HG := Lib.hid (get_front (s := s) (er := 7) (by unfold frontS; rw [if_neg c1, if_neg c2, if_neg (by rw [c3]; decide), hz, if_pos c4]) (by decide))
    have d4 : decide (64 < z) = true := decide_eq_true c4
    clear h hs c1 c2 c3 hz hns
    go_enter Try.func10, Try.ntmps10
    go_wp2_with (first
      | (go_at_call 25; first | (with_reducible refine (HN4.out _).mono ?_; rintro e w' ⟨rfl, ⟨nd, rfl⟩⟩) | (with_reducible refine (HN2.out _).mono ?_; rintro e w' ⟨rfl, ⟨nd3, rfl⟩⟩))
      | (go_at_call 24; refine (HV.out _).mono ?_; rintro e w' ⟨rfl, ⟨nd2, rfl⟩⟩))
    go_ret3
    exact told0 HG.out (below_one _ _)
  have d4 : decide (64 < z) = false := decide_eq_false c4
  have w1 : IntKind.i64.wrap (16 * z) = 16 * z := IntWalk.i64_in _ (by omega)
  have w2 : IntKind.i64.wrap (12 + 16 * z) = 12 + 16 * z := IntWalk.i64_in _ (by omega)
  by_cases c5 : (s.size : Int) < 12 + 16 * z
  · have HG := Lib.hid (get_front (s := s) (er := 4) (by unfold frontS; rw [if_neg c1, if_neg c2, if_neg (by rw [c3]; decide), hz, if_neg c4, if_pos c5]) (by decide))
    have d5 : decide ((s.size : Int) < 12 + 16 * z) = true := decide_eq_true c5
    clear h hs c1 c2 c3 c4 c5 hz hns
    go_enter Try.func10, Try.ntmps10
    go_wp2_with (first
      | (go_at_call 25; first | (with_reducible refine (HN4.out _).mono ?_; rintro e w' ⟨rfl, ⟨nd, rfl⟩⟩) | (with_reducible refine (HN2.out _).mono ?_; rintro e w' ⟨rfl, ⟨nd3, rfl⟩⟩))
      | (go_at_call 24; refine (HV.out _).mono ?_; rintro e w' ⟨rfl, ⟨nd2, rfl⟩⟩))
    go_ret3
    exact told0 HG.out (below_one _ _)
  · exact absurd (by unfold frontS; rw [if_neg c1, if_neg c2, if_neg (by rw [c3]; decide), hz, if_neg c4, if_neg c5]) h
theorem get_sums {s : ByteArray} {m : Nat} (hf : frontS s = (nm s 0, (m : Int), 0)) :
    getS s = if errsTo s m m ≠ 0 then (0, [], errsTo s m m) else if meetB (recsE s m) then (0, [], 5) else (nm s 0, tabsTo s m m, 0) := by
  unfold getS
  rw [hf]
  simp only [Int.toNat_natCast]
  rw [if_neg (by simp)]
def okTo (s : ByteArray) (n : Nat) : Prop := ∀ i, i < n → ∀ j, j < i → pairB (recS s i) (recS s j) = false
set_option maxHeartbeats 16000000 in
theorem refget_main (s : ByteArray) (w : World) (m : Nat) (hs : s.size ≤ 16777216) (h12 : 12 ≤ s.size) (hm : nm2 s 4 = (m : Int)) (hm64 : m ≤ 64) (hfit : 12 + 16 * m ≤ s.size) (hv : verB (nm s 0) = true) (hf : frontS s = (nm s 0, (m : Int), 0)) :
    Calls Try.prog 10 #[.string s] w (Told0 s w) := by
  have HGS := Lib.hid (get_sums hf)
  have HN4 := Lib.hid (num4_any s hs (by omega))
  have HN2 := Lib.hid (num2_any s hs (by omega))
  have HV := Lib.hid (refver_any (nm s 0))
  have HREC := Lib.hid (records_any s m hs hm hm64 hfit)
  have HSZ := Lib.hid hs
  rw [hv] at HV
  rw [hm] at HN2
  generalize nm s 0 = V at HGS HN4 HV
  obtain ⟨z, hz⟩ : ∃ z : Int, (m : Int) = z := ⟨_, rfl⟩
  rw [hz] at HN2
  have d1 : decide ((16777216 : Int) < (s.size : Int)) = false := decide_eq_false (by omega)
  have d1' : decide (16777216 < s.size) = false := decide_eq_false (by omega)
  have d2 : decide ((s.size : Int) < 12) = false := decide_eq_false (by omega)
  have d2' : decide (s.size < 12) = false := decide_eq_false (by omega)
  have d4 : decide (64 < z) = false := decide_eq_false (by omega)
  have wr1 : IntKind.i64.wrap (16 * z) = 16 * z := IntWalk.i64_in _ (by omega)
  have wr2 : IntKind.i64.wrap (12 + 16 * z) = 12 + 16 * z := IntWalk.i64_in _ (by omega)
  have d5 : decide ((s.size : Int) < 12 + 16 * z) = false := decide_eq_false (by omega)
  have HZ := Lib.hid hz
  have HM := Lib.hid hm64
  clear hs h12 hm hm64 hfit hv hf hz
  go_enter Try.func10, Try.ntmps10
  go_upto_region 13 with (first
    | (go_at_call 25; first | (with_reducible refine (HN4.out _).mono ?_; rintro e w' ⟨rfl, ⟨nd, rfl⟩⟩) | (with_reducible refine (HN2.out _).mono ?_; rintro e w' ⟨rfl, ⟨nd3, rfl⟩⟩))
    | (go_at_call 24; refine (HV.out _).mono ?_; rintro e w' ⟨rfl, ⟨nd2, rfl⟩⟩)
    | (go_at_call 26; refine (HREC.out _).mono ?_; rintro e w1 ⟨v0, rfl, hr, hb1⟩))
  have hB1 : Below w.heap.size w w1 := (below_one w _).trans hb1
  obtain ⟨A, c, rfl⟩ := Kd.R_slice hr
  have hC := (Kd.R_reads' hr).2.2
  have hc := (Kd.R_reads' hr).2.1
  have hL : (recsS s m).length = m := recsS_length s m
  have hrd : ∀ i : Nat, i < m → rd_T60 (recsS s m) (i : Int) = recS s i := rd_recs s m
  have hwr : ∀ i : Nat, i < m → wrongR s (recsS s m) (i : Int) = errR s m i := wrong_err s m
  generalize recsS s m = L at hr hC hc hL hrd hwr ⊢
  have HB1 := Lib.hid hB1
  have HC := Lib.hid hC
  have HL := Lib.hid hL
  have HRD := Lib.hid hrd
  have HWR := Lib.hid hwr
  have HCP := Lib.hid hc
  clear hr hb1 hB1 hC hL hrd hwr hc HREC d1 d1' d2 d2' d4 d5 wr1 wr2
  go_wp2
  go_loopg [7] (m + 1) (fun gk v7 wr => ∃ (x : Int) (k : Nat), v7 = .int .i64 x ∧ Hid (x = (k : Int)) ∧ Hid (k ≤ m ∧ m + 1 - k ≤ gk ∧ errsTo s m k = 0) ∧ Hid (Below w1.heap.size w1 wr))
  case atStart => exact ⟨0, 0, rfl, Lib.hid rfl, Lib.hid ⟨by omega, by omega, rfl⟩, Lib.hid (Below.refl _ _)⟩
  case round =>
    obtain ⟨x, k, rfl, HXK, HT, HB⟩ := hrel
    by_cases hlt : k < m
    · have hltz : decide (x < z) = true := decide_eq_true (by have := HXK.out; have := HZ.out; omega)
      have hx0 : 0 ≤ x := by have := HXK.out; omega
      have hrk : rd_T60 L x = recS s k := by rw [HXK.out]; exact HRD.out k hlt
      have sm2 := nm_small s (12 + 16 * k + 8)
      have sm3 := nm_small s (12 + 16 * k + 12)
      have HW := Lib.hid (wrong_calls s A c L x wr (Kd.C_below HC.out HB.out) HCP.out hx0 (by have := HXK.out; have := HL.out; omega) HSZ.out (by have := HL.out; have := HM.out; omega)
        (by rw [hrk]; show (s.extract (12 + 16 * k) (12 + 16 * k + 4)).size ≤ _; rw [ByteArray.size_extract]; omega) (by rw [hrk]; exact sm2.1) (by rw [hrk]; exact sm2.2) (by rw [hrk]; exact sm3.1) (by rw [hrk]; exact sm3.2))
      have hwk : wrongR s L x = errR s m k := by rw [HXK.out]; exact HWR.out k hlt
      rw [hwk] at HW
      obtain ⟨er, her⟩ : ∃ er, errR s m k = er := ⟨_, rfl⟩
      rw [her] at HW
      have HER := Lib.hid her
      clear hwk her hrk sm2 sm3
      by_cases hz : er = 0
      · have hq1 : (er != 0) = false := by rw [hz]; rfl
        have hxw : IntKind.i64.wrap (x + 1) = x + 1 := by rw [i64_w, wrap64_small (by have := HXK.out; have := HM.out; omega) (by have := HXK.out; have := HM.out; omega)]
        have HE0 := Lib.hid (errsTo_go s m k HT.out.2.2 (HER.out.trans hz))
        clear hz
        go_wp2_with (go_at_call 27; refine HW.out.mono ?_; rintro e w2 ⟨rfl, hb2⟩)
        go_roundg (m - k)
        case measure => have := HT.out; omega
        case rel => exact ⟨x + 1, k + 1, rfl, Lib.hid (by have := HXK.out; omega), Lib.hid ⟨by omega, by omega, HE0.out⟩, Lib.hid (HB.out.trans (hb2.mono HB.out.size))⟩
      · have hq1 : (er != 0) = true := by simpa using hz
        have HG : Hid (getS s = (0, [], er)) := Lib.hid (by
          rw [HGS.out, errsTo_stop s m m k hlt HT.out.2.2 (by rw [HER.out]; exact hz), HER.out, if_pos hz])
        clear hz
        go_wp2_with (go_at_call 27; refine HW.out.mono ?_; rintro e w2 ⟨rfl, hb2⟩)
        go_ret3
        exact told0 HG.out (HB1.out.trans ((HB.out.trans (hb2.mono HB.out.size)).mono HB1.out.size))
    · have hltz : decide (x < z) = false := decide_eq_false (by have := HXK.out; have := HZ.out; have := HT.out; omega)
      have HE : Hid (errsTo s m m = 0) := Lib.hid (by have := HT.out.2.2; rw [show k = m by have := HT.out; omega] at this; exact this)
      have HX : Hid (x = (m : Int)) := Lib.hid (by have := HXK.out; have := HT.out; omega)
      clear hlt HT HXK
      go_wp2
      go_loopg [9, 10] (m + 1) (fun gk v9 v10 wo => ∃ (x : Int) (k : Nat), v10 = .int .i64 x ∧ Hid (x = (k : Int)) ∧ Hid (k ≤ m ∧ m + 1 - k ≤ gk) ∧ Hid (okTo s k) ∧ Hid (Kd.R k33 33 wo w1.heap.size (fun _ => True) v9 (tabsTo s m k)) ∧ Hid (Below w1.heap.size w1 wo))
      case atStart => exact ⟨0, 0, rfl, Lib.hid rfl, Lib.hid ⟨by omega, by omega⟩, Lib.hid (fun i hi => absurd hi (Nat.not_lt_zero _)), Lib.hid (Kd.R_nil _ _ _ _ _), HB⟩
      case round =>
        clear HB HX hltz
        obtain ⟨x, k, rfl, HXK, HT, HOK, HO, HB⟩ := hrel
        by_cases hlt : k < m
        · have hltz : decide (x < z) = true := decide_eq_true (by have := HXK.out; have := HZ.out; omega)
          have hx0 : 0 ≤ x := by have := HXK.out; omega
          have hx1 : x < (L.length : Int) := by have := HXK.out; have := HL.out; omega
          obtain ⟨ad, rfl, x0, x1, x2, x3⟩ := at_T60 HC.out x hx0 hx1
          have hrk : rd_T60 L x = recS s k := by rw [HXK.out]; exact HRD.out k hlt
          rw [hrk] at x0 x1 x2 x3
          have HX0 := Lib.hid x0
          have HX2 := Lib.hid x2
          have HX3 := Lib.hid x3
          clear x0 x1 x2 x3 hrk
          go_wp2
          go_loopg [11] (k + 1) (fun gk v11 wq => ∃ (y : Int) (j : Nat), v11 = .int .i64 y ∧ Hid (y = (j : Int)) ∧ Hid (j ≤ k ∧ k + 1 - j ≤ gk) ∧ Hid (∀ q, q < j → pairB (recS s k) (recS s q) = false) ∧ Hid (Below wr.heap.size wr wq))
          case atStart => exact ⟨0, 0, rfl, Lib.hid rfl, Lib.hid ⟨by omega, by omega⟩, Lib.hid (fun i hi => absurd hi (Nat.not_lt_zero _)), Lib.hid (Below.refl _ _)⟩
          case round =>
            obtain ⟨y, j, rfl, HYJ, HTJ, HOKJ, HBQ⟩ := hrel
            have HB2 := Lib.hid (HB.out.trans (HBQ.out.mono HB.out.size))
            by_cases hjk : j < k
            · have hjz : decide (y < x) = true := decide_eq_true (by have := HXK.out; have := HYJ.out; omega)
              have hy0 : 0 ≤ y := by have := HYJ.out; omega
              have hy1 : y < (L.length : Int) := by have := HYJ.out; have := HL.out; omega
              obtain ⟨ad', e', y0, y1, y2, y3⟩ := at_T60 HC.out y hy0 hy1
              cases e'
              have hrj : rd_T60 L y = recS s j := by rw [HYJ.out]; exact HRD.out j (by omega)
              rw [hrj] at y2 y3
              have p2 := kept_cell ((HB2.out.cell (World.block_lt_of_cell? _ _ y2)).trans y2)
              have p3 := kept_cell ((HB2.out.cell (World.block_lt_of_cell? _ _ y3)).trans y3)
              have q2 := kept_cell ((HB2.out.cell (World.block_lt_of_cell? _ _ HX2.out)).trans HX2.out)
              have q3 := kept_cell ((HB2.out.cell (World.block_lt_of_cell? _ _ HX3.out)).trans HX3.out)
              have b2 : 0 ≤ (recS s j).f2 ∧ (recS s j).f2 < 4294967296 := nm_small s (12 + 16 * j + 8)
              have b3 : 0 ≤ (recS s j).f3 ∧ (recS s j).f3 < 4294967296 := nm_small s (12 + 16 * j + 12)
              have a2 : 0 ≤ (recS s k).f2 ∧ (recS s k).f2 < 4294967296 := nm_small s (12 + 16 * k + 8)
              have a3 : 0 ≤ (recS s k).f3 ∧ (recS s k).f3 < 4294967296 := nm_small s (12 + 16 * k + 12)
              have HP := Lib.hid (show pairB (recS s k) (recS s j) = (decide (0 < (recS s k).f3) && (decide (0 < (recS s j).f3) && (decide ((recS s k).f2 < (recS s j).f2 + (recS s j).f3) && decide ((recS s j).f2 < (recS s k).f2 + (recS s k).f3)))) from rfl)
              have HSOME := Lib.hid (fun h => meets_some s m k j hlt hjk h)
              clear y0 y1 y2 y3 hrj
              generalize (recS s k).f2 = ka at p2 p3 q2 q3 a2 a3 b2 b3 HP
              generalize (recS s k).f3 = km at p2 p3 q2 q3 a2 a3 b2 b3 HP
              generalize (recS s j).f2 = ja at p2 p3 q2 q3 a2 a3 b2 b3 HP
              generalize (recS s j).f3 = jm at p2 p3 q2 q3 a2 a3 b2 b3 HP
              have wj : IntKind.i64.wrap (ja + jm) = ja + jm := IntWalk.i64_in _ (by omega)
              have wk : IntKind.i64.wrap (ka + km) = ka + km := IntWalk.i64_in _ (by omega)
              have hyw : IntKind.i64.wrap (y + 1) = y + 1 := by rw [i64_w, wrap64_small (by have := HYJ.out; have := HM.out; omega) (by have := HYJ.out; have := HM.out; omega)]
              clear a2 a3 b2 b3
              have hmx : Try.prog.follows .mixedOrders = true := by kernel_rfl
              go_upto_region 26 with (fail)
              go_cut [107] (fun v107 wc => v107 = .bool (pairB (recS s k) (recS s j)) ∧ Hid (Below wr.heap.size wr wc))
              case first =>
                cases e1 : decide (0 < km)
                · rw [e1] at HP
                  refine wp_region_kept hmx (by kernel_rfl) ?_
                  repeat (go_big_quiet_step (fail))
                  refine wpQuiet_nil ?_
                  rintro _ ⟨pw, rfl⟩
                  go_wp2
                  go_meet
                  case rel => exact ⟨by rw [HP.out]; rfl, Lib.hid pw.h⟩
                cases e2 : decide (0 < jm)
                · rw [e1, e2] at HP
                  refine wp_region_kept hmx (by kernel_rfl) ?_
                  repeat (go_big_quiet_step (fail))
                  refine wpQuiet_nil ?_
                  rintro _ ⟨pw, rfl⟩
                  go_wp2
                  go_meet
                  case rel => exact ⟨by rw [HP.out]; rfl, Lib.hid pw.h⟩
                cases e3 : decide (ka < ja + jm)
                · rw [e1, e2, e3] at HP
                  refine wp_region_kept hmx (by kernel_rfl) ?_
                  repeat (go_big_quiet_step (fail))
                  refine wpQuiet_nil ?_
                  rintro _ ⟨pw, rfl⟩
                  go_wp2
                  go_meet
                  case rel => exact ⟨by rw [HP.out]; rfl, Lib.hid pw.h⟩
                cases e4 : decide (ja < ka + km)
                · rw [e1, e2, e3, e4] at HP
                  refine wp_region_kept hmx (by kernel_rfl) ?_
                  repeat (go_big_quiet_step (fail))
                  refine wpQuiet_nil ?_
                  rintro _ ⟨pw, rfl⟩
                  go_wp2
                  go_meet
                  case rel => exact ⟨by rw [HP.out]; rfl, Lib.hid pw.h⟩
                · rw [e1, e2, e3, e4] at HP
                  refine wp_region_kept hmx (by kernel_rfl) ?_
                  repeat (go_big_quiet_step (fail))
                  refine wpQuiet_nil ?_
                  rintro _ ⟨pw, rfl⟩
                  go_wp2
                  go_meet
                  case rel => exact ⟨by rw [HP.out]; rfl, Lib.hid pw.h⟩
              case rest =>
                obtain ⟨rfl, HBC⟩ := hcut
                clear p2 p3 q2 q3 HP
                have HB3 := Lib.hid (HB2.out.trans (HBC.out.mono HB2.out.size))
                have HBQ2 := Lib.hid (HBQ.out.trans (HBC.out.mono HBQ.out.size))
                cases hpb : pairB (recS s k) (recS s j) with
                | true =>
                  have HG : Hid (getS s = (0, [], 5)) := Lib.hid (by rw [HGS.out, if_neg (by rw [HE.out]; simp), HSOME.out hpb]; rfl)
                  go_wp2
                  go_ret3
                  exact told0 HG.out (HB1.out.trans (HB3.out.mono HB1.out.size))
                | false =>
                  have HNX : Hid (∀ q, q < j + 1 → pairB (recS s k) (recS s q) = false) := Lib.hid (fun q hq => by
                    rcases Nat.lt_or_ge q j with h | h
                    · exact HOKJ.out q h
                    · rw [show q = j by omega]; exact hpb)
                  go_wp2
                  go_roundg (k - j)
                  case measure => have := HTJ.out; omega
                  case rel => exact ⟨y + 1, j + 1, rfl, Lib.hid (by have := HYJ.out; omega), Lib.hid ⟨by omega, by omega⟩, HNX, HBQ2⟩
            · have hjz : decide (y < x) = false := decide_eq_false (by have := HXK.out; have := HYJ.out; omega)
              have HNX : Hid (okTo s (k + 1)) := Lib.hid (fun i hi q hq => by
                rcases Nat.lt_or_ge i k with h | h
                · exact HOK.out i h q hq
                · obtain rfl : i = k := by omega
                  exact HOKJ.out q (by have := HTJ.out; omega))
              have her : errR s m k = 0 := firstE_each _ m HE.out k hlt
              have hbd := (errR_bad her).2
              have htab : tabsTo s m (k + 1) = tabsTo s m k ++ [⟨(recS s k).f0, s.extract (recS s k).f2.toNat ((recS s k).f2 + (recS s k).f3).toNat⟩] := by
                rw [tabsTo_succ, tabR_ok her]; rfl
              have a2 : 0 ≤ (recS s k).f2 ∧ (recS s k).f2 < 4294967296 := nm_small s (12 + 16 * k + 8)
              have a3 : 0 ≤ (recS s k).f3 ∧ (recS s k).f3 < 4294967296 := nm_small s (12 + 16 * k + 12)
              have hb3 : (recS s k).f2 + (recS s k).f3 ≤ (s.size : Int) := hbd
              have hxw : IntKind.i64.wrap (x + 1) = x + 1 := by rw [i64_w, wrap64_small (by have := HXK.out; have := HM.out; omega) (by have := HXK.out; have := HM.out; omega)]
              generalize (recS s k).f2 = ka at HX2 a2 a3 hb3 htab
              generalize (recS s k).f3 = km at HX3 a2 a3 hb3 htab
              generalize (recS s k).f0 = tg at HX0 htab
              obtain ⟨b2, b2'⟩ := a2
              obtain ⟨b3, b3'⟩ := a3
              obtain ⟨D, hD⟩ : ∃ D, s.extract ka.toNat (ka + km).toNat = D := ⟨_, rfl⟩
              rw [hD] at htab
              have wk : IntKind.i64.wrap (ka + km) = ka + km := IntWalk.i64_in _ (by omega)
              have hv0 : (0 : Int) ≤ ka + km := by omega
              have hv1 : ka ≤ ka + km := by omega
              have HTAB := Lib.hid htab
              clear htab her hbd
              go_upto_region 28 with (fail)
              have HO4 := Lib.hid (Kd.R_drew (Kd.R_below HO.out HBQ.out))
              have HB4 := Lib.hid (below_drew HB2.out)
              refine start_ (n := 28) (S := fun w' => Below w1.heap.size w1 w') (ds := []) #[false, false, false, false, false, false, false, false, false, false, false, false, false, false, false, false, false, false, false, false, false, false, false, false, false, false, false, false] (by kernel_rfl) rfl rfl HB4.out (fun hHeld => ?_)
              generalize wr.drew = w12 at HO4 HB4 hHeld ⊢
              refine pure_ (i := 0) (N := some 108) (v := ?_) (a' := ?_) #[true, false, false, false, false, false, false, false, false, false, false, false, false, false, false, false, false, false, false, false, false, false, false, false, false, false, false, false] rfl rfl (by kernel_rfl) (fun _ _ _ h => h) (Or.inl ⟨by rfl, ?_⟩) ?_ ?_
              rotate_left
              · intro w'
                go_simp
                with_reducible rfl
              rotate_left
              · simp only [Act.put, List.setIfInBounds_toArray, List.set_cons_zero, List.set_cons_succ]
                rfl
              refine pure_ (i := 1) (N := some 109) (v := ?_) (a' := ?_) #[true, true, false, false, false, false, false, false, false, false, false, false, false, false, false, false, false, false, false, false, false, false, false, false, false, false, false, false] rfl rfl (by kernel_rfl) (fun _ _ _ h => h) (Or.inl ⟨by rfl, ?_⟩) ?_ ?_
              rotate_left
              · intro w'
                go_simp
                with_reducible rfl
              rotate_left
              · simp only [Act.put, List.setIfInBounds_toArray, List.set_cons_zero, List.set_cons_succ]
                rfl
              refine pure_ (i := 2) (N := some 110) (v := ?_) (a' := ?_) #[true, true, true, false, false, false, false, false, false, false, false, false, false, false, false, false, false, false, false, false, false, false, false, false, false, false, false, false] rfl rfl (by kernel_rfl) (fun _ _ _ h => h) (Or.inl ⟨by rfl, ?_⟩) ?_ ?_
              rotate_left
              · intro w'
                go_simp
                with_reducible rfl
              rotate_left
              · simp only [Act.put, List.setIfInBounds_toArray, List.set_cons_zero, List.set_cons_succ]
                rfl
              refine pure_ (i := 3) (N := some 111) (v := ?_) (a' := ?_) #[true, true, true, true, false, false, false, false, false, false, false, false, false, false, false, false, false, false, false, false, false, false, false, false, false, false, false, false] rfl rfl (by kernel_rfl) (fun _ _ _ h => h) (Or.inl ⟨by rfl, ?_⟩) ?_ ?_
              rotate_left
              · intro w'
                go_simp
                with_reducible rfl
              rotate_left
              · simp only [Act.put, List.setIfInBounds_toArray, List.set_cons_zero, List.set_cons_succ]
                rfl
              refine pure_ (i := 4) (N := some 112) (v := ?_) (a' := ?_) #[true, true, true, true, true, false, false, false, false, false, false, false, false, false, false, false, false, false, false, false, false, false, false, false, false, false, false, false] rfl rfl (by kernel_rfl) (fun _ _ _ h => h) (Or.inl ⟨by rfl, ?_⟩) ?_ ?_
              rotate_left
              · intro w'
                go_simp
                with_reducible rfl
              rotate_left
              · simp only [Act.put, List.setIfInBounds_toArray, List.set_cons_zero, List.set_cons_succ]
                rfl
              refine take_ (i := 5) (N := some 113) (v := ?_) (a' := ?_) #[true, true, true, true, true, true, false, false, false, false, false, false, false, false, false, false, false, false, false, false, false, false, false, false, false, false, false, false] rfl rfl (by kernel_rfl) (fun _ _ _ h => h) (Or.inl ⟨by rfl, ?_⟩) hHeld ?_ ?_
              rotate_left
              · intro w' s0
                have f0 := (s0.cell (World.block_lt_of_cell? _ _ HX0.out)).trans HX0.out
                go_simp
                with_reducible rfl
              rotate_left
              · simp only [Act.put, List.setIfInBounds_toArray, List.set_cons_zero, List.set_cons_succ]
                rfl
              refine pure_ (i := 6) (N := some 114) (v := ?_) (a' := ?_) #[true, true, true, true, true, true, true, false, false, false, false, false, false, false, false, false, false, false, false, false, false, false, false, false, false, false, false, false] rfl rfl (by kernel_rfl) (fun _ _ _ h => h) (Or.inl ⟨by rfl, ?_⟩) ?_ ?_
              rotate_left
              · intro w'
                go_simp
                with_reducible rfl
              rotate_left
              · simp only [Act.put, List.setIfInBounds_toArray, List.set_cons_zero, List.set_cons_succ]
                rfl
              refine pure_ (i := 7) (N := some 115) (v := ?_) (a' := ?_) #[true, true, true, true, true, true, true, true, false, false, false, false, false, false, false, false, false, false, false, false, false, false, false, false, false, false, false, false] rfl rfl (by kernel_rfl) (fun _ _ _ h => h) (Or.inl ⟨by rfl, ?_⟩) ?_ ?_
              rotate_left
              · intro w'
                go_simp
                with_reducible rfl
              rotate_left
              · simp only [Act.put, List.setIfInBounds_toArray, List.set_cons_zero, List.set_cons_succ]
                rfl
              refine pure_ (i := 8) (N := some 116) (v := ?_) (a' := ?_) #[true, true, true, true, true, true, true, true, true, false, false, false, false, false, false, false, false, false, false, false, false, false, false, false, false, false, false, false] rfl rfl (by kernel_rfl) (fun _ _ _ h => h) (Or.inl ⟨by rfl, ?_⟩) ?_ ?_
              rotate_left
              · intro w'
                go_simp
                with_reducible rfl
              rotate_left
              · simp only [Act.put, List.setIfInBounds_toArray, List.set_cons_zero, List.set_cons_succ]
                rfl
              refine pure_ (i := 9) (N := some 117) (v := ?_) (a' := ?_) #[true, true, true, true, true, true, true, true, true, true, false, false, false, false, false, false, false, false, false, false, false, false, false, false, false, false, false, false] rfl rfl (by kernel_rfl) (fun _ _ _ h => h) (Or.inl ⟨by rfl, ?_⟩) ?_ ?_
              rotate_left
              · intro w'
                go_simp
                with_reducible rfl
              rotate_left
              · simp only [Act.put, List.setIfInBounds_toArray, List.set_cons_zero, List.set_cons_succ]
                rfl
              refine pure_ (i := 10) (N := some 118) (v := ?_) (a' := ?_) #[true, true, true, true, true, true, true, true, true, true, true, false, false, false, false, false, false, false, false, false, false, false, false, false, false, false, false, false] rfl rfl (by kernel_rfl) (fun _ _ _ h => h) (Or.inl ⟨by rfl, ?_⟩) ?_ ?_
              rotate_left
              · intro w'
                go_simp
                with_reducible rfl
              rotate_left
              · simp only [Act.put, List.setIfInBounds_toArray, List.set_cons_zero, List.set_cons_succ]
                rfl
              refine take_ (i := 11) (N := some 119) (v := ?_) (a' := ?_) #[true, true, true, true, true, true, true, true, true, true, true, true, false, false, false, false, false, false, false, false, false, false, false, false, false, false, false, false] rfl rfl (by kernel_rfl) (fun _ _ _ h => h) (Or.inl ⟨by rfl, ?_⟩) hHeld ?_ ?_
              rotate_left
              · intro w' s0
                have f0 := (s0.cell (World.block_lt_of_cell? _ _ HX2.out)).trans HX2.out
                go_simp
                with_reducible rfl
              rotate_left
              · simp only [Act.put, List.setIfInBounds_toArray, List.set_cons_zero, List.set_cons_succ]
                rfl
              refine pure_ (i := 12) (N := some 120) (v := ?_) (a' := ?_) #[true, true, true, true, true, true, true, true, true, true, true, true, true, false, false, false, false, false, false, false, false, false, false, false, false, false, false, false] rfl rfl (by kernel_rfl) (fun _ _ _ h => h) (Or.inl ⟨by rfl, ?_⟩) ?_ ?_
              rotate_left
              · intro w'
                go_simp
                with_reducible rfl
              rotate_left
              · simp only [Act.put, List.setIfInBounds_toArray, List.set_cons_zero, List.set_cons_succ]
                rfl
              refine pure_ (i := 13) (N := some 121) (v := ?_) (a' := ?_) #[true, true, true, true, true, true, true, true, true, true, true, true, true, true, false, false, false, false, false, false, false, false, false, false, false, false, false, false] rfl rfl (by kernel_rfl) (fun _ _ _ h => h) (Or.inl ⟨by rfl, ?_⟩) ?_ ?_
              rotate_left
              · intro w'
                go_simp
                with_reducible rfl
              rotate_left
              · simp only [Act.put, List.setIfInBounds_toArray, List.set_cons_zero, List.set_cons_succ]
                rfl
              refine pure_ (i := 14) (N := some 122) (v := ?_) (a' := ?_) #[true, true, true, true, true, true, true, true, true, true, true, true, true, true, true, false, false, false, false, false, false, false, false, false, false, false, false, false] rfl rfl (by kernel_rfl) (fun _ _ _ h => h) (Or.inl ⟨by rfl, ?_⟩) ?_ ?_
              rotate_left
              · intro w'
                go_simp
                with_reducible rfl
              rotate_left
              · simp only [Act.put, List.setIfInBounds_toArray, List.set_cons_zero, List.set_cons_succ]
                rfl
              refine pure_ (i := 15) (N := some 123) (v := ?_) (a' := ?_) #[true, true, true, true, true, true, true, true, true, true, true, true, true, true, true, true, false, false, false, false, false, false, false, false, false, false, false, false] rfl rfl (by kernel_rfl) (fun _ _ _ h => h) (Or.inl ⟨by rfl, ?_⟩) ?_ ?_
              rotate_left
              · intro w'
                go_simp
                with_reducible rfl
              rotate_left
              · simp only [Act.put, List.setIfInBounds_toArray, List.set_cons_zero, List.set_cons_succ]
                rfl
              refine take_ (i := 16) (N := some 124) (v := ?_) (a' := ?_) #[true, true, true, true, true, true, true, true, true, true, true, true, true, true, true, true, true, false, false, false, false, false, false, false, false, false, false, false] rfl rfl (by kernel_rfl) (fun _ _ _ h => h) (Or.inl ⟨by rfl, ?_⟩) hHeld ?_ ?_
              rotate_left
              · intro w' s0
                have f0 := (s0.cell (World.block_lt_of_cell? _ _ HX2.out)).trans HX2.out
                go_simp
                with_reducible rfl
              rotate_left
              · simp only [Act.put, List.setIfInBounds_toArray, List.set_cons_zero, List.set_cons_succ]
                rfl
              refine pure_ (i := 17) (N := some 125) (v := ?_) (a' := ?_) #[true, true, true, true, true, true, true, true, true, true, true, true, true, true, true, true, true, true, false, false, false, false, false, false, false, false, false, false] rfl rfl (by kernel_rfl) (fun _ _ _ h => h) (Or.inl ⟨by rfl, ?_⟩) ?_ ?_
              rotate_left
              · intro w'
                go_simp
                with_reducible rfl
              rotate_left
              · simp only [Act.put, List.setIfInBounds_toArray, List.set_cons_zero, List.set_cons_succ]
                rfl
              refine pure_ (i := 18) (N := some 126) (v := ?_) (a' := ?_) #[true, true, true, true, true, true, true, true, true, true, true, true, true, true, true, true, true, true, true, false, false, false, false, false, false, false, false, false] rfl rfl (by kernel_rfl) (fun _ _ _ h => h) (Or.inl ⟨by rfl, ?_⟩) ?_ ?_
              rotate_left
              · intro w'
                go_simp
                with_reducible rfl
              rotate_left
              · simp only [Act.put, List.setIfInBounds_toArray, List.set_cons_zero, List.set_cons_succ]
                rfl
              refine pure_ (i := 19) (N := some 127) (v := ?_) (a' := ?_) #[true, true, true, true, true, true, true, true, true, true, true, true, true, true, true, true, true, true, true, true, false, false, false, false, false, false, false, false] rfl rfl (by kernel_rfl) (fun _ _ _ h => h) (Or.inl ⟨by rfl, ?_⟩) ?_ ?_
              rotate_left
              · intro w'
                go_simp
                with_reducible rfl
              rotate_left
              · simp only [Act.put, List.setIfInBounds_toArray, List.set_cons_zero, List.set_cons_succ]
                rfl
              refine pure_ (i := 20) (N := some 128) (v := ?_) (a' := ?_) #[true, true, true, true, true, true, true, true, true, true, true, true, true, true, true, true, true, true, true, true, true, false, false, false, false, false, false, false] rfl rfl (by kernel_rfl) (fun _ _ _ h => h) (Or.inl ⟨by rfl, ?_⟩) ?_ ?_
              rotate_left
              · intro w'
                go_simp
                with_reducible rfl
              rotate_left
              · simp only [Act.put, List.setIfInBounds_toArray, List.set_cons_zero, List.set_cons_succ]
                rfl
              refine take_ (i := 21) (N := some 129) (v := ?_) (a' := ?_) #[true, true, true, true, true, true, true, true, true, true, true, true, true, true, true, true, true, true, true, true, true, true, false, false, false, false, false, false] rfl rfl (by kernel_rfl) (fun _ _ _ h => h) (Or.inl ⟨by rfl, ?_⟩) hHeld ?_ ?_
              rotate_left
              · intro w' s0
                have f0 := (s0.cell (World.block_lt_of_cell? _ _ HX3.out)).trans HX3.out
                go_simp
                with_reducible rfl
              rotate_left
              · simp only [Act.put, List.setIfInBounds_toArray, List.set_cons_zero, List.set_cons_succ]
                rfl
              refine pure_ (i := 22) (N := some 130) (v := ?_) (a' := ?_) #[true, true, true, true, true, true, true, true, true, true, true, true, true, true, true, true, true, true, true, true, true, true, true, false, false, false, false, false] rfl rfl (by kernel_rfl) (fun _ _ _ h => h) (Or.inl ⟨by rfl, ?_⟩) ?_ ?_
              rotate_left
              · intro w'
                go_simp
                with_reducible rfl
              rotate_left
              · simp only [Act.put, List.setIfInBounds_toArray, List.set_cons_zero, List.set_cons_succ]
                rfl
              refine pure_ (i := 23) (N := some 131) (v := ?_) (a' := ?_) #[true, true, true, true, true, true, true, true, true, true, true, true, true, true, true, true, true, true, true, true, true, true, true, true, false, false, false, false] rfl rfl (by kernel_rfl) (fun _ _ _ h => h) (Or.inl ⟨by rfl, ?_⟩) ?_ ?_
              rotate_left
              · intro w'
                go_simp
                with_reducible rfl
              rotate_left
              · simp only [Act.put, List.setIfInBounds_toArray, List.set_cons_zero, List.set_cons_succ]
                rfl
              refine pure_ (i := 24) (N := some 132) (v := ?_) (a' := ?_) #[true, true, true, true, true, true, true, true, true, true, true, true, true, true, true, true, true, true, true, true, true, true, true, true, true, false, false, false] rfl rfl (by kernel_rfl) (fun _ _ _ h => h) (Or.inl ⟨by rfl, ?_⟩) ?_ ?_
              rotate_left
              · intro w'
                go_simp
                with_reducible rfl
              rotate_left
              · simp only [Act.put, List.setIfInBounds_toArray, List.set_cons_zero, List.set_cons_succ]
                rfl
              refine one_ (i := 25) (N := some 133) #[true, true, true, true, true, true, true, true, true, true, true, true, true, true, true, true, true, true, true, true, true, true, true, true, true, true, false, false] rfl rfl (by kernel_rfl) (by decide) (fun K hK => ?_)
              refine value_ (w1 := ?_) (v := ?_) (by rfl) rfl ?_ ?_
              rotate_left 2
              · go_simp
                constructor
                · rfl
                · rfl
              refine hK.out _ _ (hHeld.alloc hHeld.size _) (fun hHeld => ?_)
              clear hK K
              refine norm_ (a' := ?_) ?_ ?_
              rotate_left
              · show Act.put _ (some 133) _ = _
                simp only [Act.put, List.setIfInBounds_toArray, List.set_cons_zero, List.set_cons_succ]
                rfl
              refine one_ (i := 26) (N := some 134) #[true, true, true, true, true, true, true, true, true, true, true, true, true, true, true, true, true, true, true, true, true, true, true, true, true, true, true, false] rfl rfl (by kernel_rfl) (by decide) (fun K hK => ?_)
              refine Kd.R_append_step k33 (w0 := w1) w1.heap.size (by rfl) (.tmp 108) (.tmp 133) 22 33 (.agg #[(.string ⟨#[]⟩), (.string ⟨#[]⟩)]) 32 rfl Try.underlying22 info33' rfl (by decide) (by omega) _ (tabsTo s m k) (⟨tg, D⟩ : S33) [.string tg, .string D] (fun _ => True) (fun _ => False) rfl rfl ?aP (fun _ hk => hk.elim) ?aF HO4.out HB4.out HB4.out.size ?aL ?_
              (case aP => exact k33_mkM _ _ _ (⟨tg, D⟩ : S33))
              (case aF => exact (fun _ _ => trivial))
              (case aL => rw [tabsTo_length]; have := HM.out; omega)
              intro v112 w13 ho hb hg hat
              rw [← HTAB.out] at ho
              have HO5 := Lib.hid ho
              have HB5 := Lib.hid hb
              clear ho hg hat
              refine hK.out _ _ hb (fun hHeld => ?_)
              clear hK K hb
              refine norm_ (a' := ?_) ?_ ?_
              rotate_left
              · show Act.put _ (some 134) _ = _
                simp only [Act.put, List.setIfInBounds_toArray, List.set_cons_zero, List.set_cons_succ]
                rfl
              refine pure_ (i := 27) (N := some 9) (v := ?_) (a' := ?_) #[true, true, true, true, true, true, true, true, true, true, true, true, true, true, true, true, true, true, true, true, true, true, true, true, true, true, true, true] rfl rfl (by kernel_rfl) (fun _ _ _ h => h) (Or.inl ⟨by rfl, ?_⟩) ?_ ?_
              rotate_left
              · intro w'
                go_simp
                with_reducible rfl
              rotate_left
              · simp only [Act.put, List.setIfInBounds_toArray, List.set_cons_zero, List.set_cons_succ]
                rfl
              refine done_ (by kernel_rfl) ?_
              go_wp2
              go_roundg (m - k)
              case measure => have := HT.out; omega
              case rel => exact ⟨x + 1, k + 1, rfl, Lib.hid (by have := HXK.out; omega), Lib.hid ⟨by omega, by omega⟩, HNX, HO5, HB5⟩
        · have hltz : decide (x < z) = false := decide_eq_false (by have := HXK.out; have := HZ.out; have := HT.out; omega)
          have hkm : k = m := by have := HT.out; omega
          have HG : Hid (getS s = (V, tabsTo s m m, 0)) := Lib.hid (by
            rw [HGS.out, if_neg (by rw [HE.out]; simp), meets_none s m (by rw [← hkm]; exact HOK.out)]; rfl)
          have ho2 := HO.out
          rw [hkm] at ho2
          have HO2 := Lib.hid ho2
          clear HO hkm ho2
          go_wp2_with (go_at_call 25; refine (HN4.out _).mono ?_; rintro e w' ⟨rfl, ⟨nd, rfl⟩⟩)
          go_ret3
          unfold Told0
          rw [HG.out]
          exact ⟨_, rfl, Kd.R_lower (Kd.R_drewN HO2.out _) HB1.out.size, (HB1.out.trans (HB.out.mono HB1.out.size)).trans ((below_one _ _).mono (HB1.out.trans (HB.out.mono HB1.out.size)).size)⟩
theorem refget_any (s : ByteArray) (w : World) (hs : s.size ≤ 140737488351232) : Calls Try.prog 10 #[.string s] w (Told0 s w) := by
  by_cases he : (frontS s).2.2 = 0
  · obtain ⟨hsz, m, hm, hm64, hfit⟩ := front_ok s he
    have hf : 12 ≤ s.size ∧ verB (nm s 0) = true ∧ frontS s = (nm s 0, nm2 s 4, 0) := by
      have h2 := he
      unfold frontS at h2 ⊢
      split at h2
      · exact absurd h2 (by decide)
      split at h2
      · exact absurd h2 (by decide)
      split at h2
      · exact absurd h2 (by decide)
      split at h2
      · exact absurd h2 (by decide)
      split at h2
      · exact absurd h2 (by decide)
      rename_i a b c d e
      rw [if_neg a, if_neg b, if_neg c, if_neg d, if_neg e]
      exact ⟨by omega, by simpa using c, rfl⟩
    obtain ⟨h12, hv, hf⟩ := hf
    have hm2 : nm2 s 4 = (m : Int) := by rw [hf] at hm; exact hm
    rw [hm2] at hf
    exact refget_main s w m hsz h12 hm2 hm64 hfit hv hf
  · exact refget_front s w hs he
def vinculumref04_Get.f (s : ByteArray) : Option (Int × List S33 × Int) := if s.size ≤ 140737488351232 then some (getS s) else none
theorem vinculumref04_Get.calls (a0 : ByteArray) (r1 : Int) (r2 : List S33) (r3 : Int) (w : World) (h : vinculumref04_Get.f a0 = some (r1, r2, r3)) :
    Calls Try.prog 10 #[.string a0] w fun e w' => ∃ v0_ : Value, e = .returned (.tuple #[.int .i64 r1, v0_, .int .i64 r3]) ∧ Kd.R k33 33 w' w.heap.size (fun _ => True) v0_ r2 ∧ Below w.heap.size w w' := by
  unfold vinculumref04_Get.f at h
  by_cases hs : a0.size ≤ 140737488351232
  · rw [if_pos hs] at h
    have hg : getS a0 = (r1, r2, r3) := by simpa using h
    refine (refget_any a0 w hs).mono ?_
    rintro e w' ⟨v, he, ho, hb⟩
    rw [hg] at he ho
    exact ⟨v, he, ho, hb⟩
  · rw [if_neg hs] at h
    exact absurd h (by simp)
end Go.Proofs.Ytgchajlfopmcjaa.P
