/- Layer 19: the law LexPlaces, walked: tokens' places rise, within the source. Condition: the library's tables stand. -/
import Derived.Test.YtplkdfkahcpoeaaDoorLexTop
namespace Go.Proofs.YtplkdfkahcpoeaaDoor.P
open Go.Shelf Go.RowKit Go.Proofs.YtplkdfkahcpoeaaDoorW.PrintWords Go.Proofs.YtplkdfkahcpoeaaDoorW.PrintLast Go.Proofs.YtplkdfkahcpoeaaDoorW.PrintMore
set_option linter.unusedVariables false
set_option linter.unusedSimpArgs false
set_option maxRecDepth 100000
/-! ### the plain law -/
def TokGood (k r : Int) (wd : ByteArray) (b : UInt8) : Prop := (k = 1 ∧ 0 < r ∧ wd = ⟨#[]⟩) ∨ (k = 2 ∧ r = 0 ∧ bl wd ≠ []) ∨ (k = 3 ∧ 0 < r ∧ wd = ⟨#[]⟩) ∨ (k = 4 ∧ r = 0 ∧ wd = ⟨#[]⟩ ∧ b = 92)
theorem sign_pos {r : Int} (h : signR r = true) : 0 < r := by
  unfold signR at h
  simp only [Bool.or_eq_true, decide_eq_true_eq] at h
  omega
theorem nextL_good (b : UInt8) (t : List UInt8) (he : (nextL (b :: t)).2.2.2.2 = 0) : TokGood (nextL (b :: t)).1 (nextL (b :: t)).2.1 (nextL (b :: t)).2.2.1 b := by
  rw [nextL] at he ⊢
  split
  · rename_i h
    unfold plainB at h
    simp only [Bool.and_eq_true, decide_eq_true_eq] at h
    exact .inl ⟨rfl, by show (0 : Int) < ((Lib.decodeL (b :: t)).1 : Int); omega, rfl⟩
  rename_i h1
  rw [if_neg h1] at he
  split
  · rename_i h
    exact .inr (.inr (.inl ⟨rfl, sign_pos h, rfl⟩))
  rename_i h2
  rw [if_neg h2] at he
  split
  rotate_left
  · rename_i h3
    rw [if_neg h3] at he
    cases he
  rename_i h3
  rw [if_pos h3] at he
  have hb : b = 92 := UInt8.toNat_inj.1 h3
  cases t with
  | nil => cases he
  | cons d t =>
    rw [bendL] at he ⊢
    split
    · exact .inr (.inr (.inr ⟨rfl, rfl, rfl, hb⟩))
    rename_i h4
    rw [if_neg h4] at he
    split
    · rename_i h5
      refine .inl ⟨rfl, ?_, rfl⟩
      rcases h5 with h5 | h5
      · exact sign_pos h5
      · show (0 : Int) < (d.toNat : Int); omega
    rename_i h5
    rw [if_neg h5] at he
    split
    · rename_i h6; rw [if_pos h6] at he; cases he
    rename_i h6
    rw [if_neg h6] at he
    split
    · rename_i h7; rw [if_pos h7] at he; cases he
    · refine .inr (.inl ⟨rfl, rfl, ?_⟩)
      rw [bl_mk]
      intro h
      have := congrArg List.length h
      rw [List.length_take] at this
      have hl := letN_le (d :: t)
      rw [List.length_nil] at this
      omega
def TokAt (l : List UInt8) (y : S37) : Prop := ∃ q : Nat, y.f3 = (q : Int) ∧ q < l.length ∧ TokGood y.f0 y.f1 y.f2 (l.getD q 0)
theorem lexE_good (l : List UInt8) : ∀ (f p : Nat), p ≤ l.length → (∀ y ∈ (lexE f l.length (l.drop p)).1, TokAt l y ∧ (p : Int) ≤ y.f3) ∧ (lexE f l.length (l.drop p)).1.Pairwise (fun a b => a.f3 < b.f3) ∧ (0 ≤ (lexE f l.length (l.drop p)).2.1 ∧ (lexE f l.length (l.drop p)).2.1 ≤ (l.length : Int)) ∧ ((lexE f l.length (l.drop p)).2.2 = 0 → (lexE f l.length (l.drop p)).2.1 = (l.length : Int))
  | 0, p, _ => by
    rw [lexE]
    exact ⟨fun y hy => by simp at hy, List.Pairwise.nil, ⟨by show (0 : Int) ≤ (l.length : Int); omega, Int.le_refl _⟩, fun _ => rfl⟩
  | f + 1, p, hp => by
    rw [lexE]
    have hlen : (l.drop p).length = l.length - p := List.length_drop
    by_cases hne : l.drop p = []
    · rw [if_pos hne]
      exact ⟨fun y hy => by simp at hy, List.Pairwise.nil, ⟨by show (0 : Int) ≤ (l.length : Int); omega, Int.le_refl _⟩, fun _ => rfl⟩
    rw [if_neg hne]
    by_cases he : (nextL (l.drop p)).2.2.2.2 = 0
    rotate_left
    · rw [if_pos he]
      exact ⟨fun y hy => by simp at hy, List.Pairwise.nil, ⟨by show (0 : Int) ≤ (l.length : Int) - _; omega, by show (l.length : Int) - _ ≤ _; omega⟩, fun h => absurd h he⟩
    have hin := nextL_in _ hne he
    rw [if_neg (by simp [he])]
    have hplt : p < l.length := by
      have := List.length_pos_iff.2 hne
      omega
    have hg : TokGood (nextL (l.drop p)).1 (nextL (l.drop p)).2.1 (nextL (l.drop p)).2.2.1 (l.getD p 0) := by
      have hd := List.drop_eq_getElem_cons hplt
      rw [hd] at he ⊢
      rw [List.getD_eq_getElem?_getD, List.getElem?_eq_getElem hplt]
      exact nextL_good _ _ he
    rw [hlen] at hin
    have hsk := skp_len false ((l.drop p).drop (nextL (l.drop p)).2.2.2.1.toNat)
    rw [List.drop_drop] at hsk
    rw [List.drop_drop]
    have hdl : (l.drop (p + (nextL (l.drop p)).2.2.2.1.toNat)).length = l.length - (p + (nextL (l.drop p)).2.2.2.1.toNat) := List.length_drop
    obtain ⟨q, hq⟩ : ∃ q, p + (nextL (l.drop p)).2.2.2.1.toNat + ((l.drop (p + (nextL (l.drop p)).2.2.2.1.toNat)).length - (skp false (l.drop (p + (nextL (l.drop p)).2.2.2.1.toNat))).length) = q := ⟨_, rfl⟩
    have hqe : skp false (l.drop (p + (nextL (l.drop p)).2.2.2.1.toNat)) = l.drop q := by
      have h2 := hsk.2
      rw [List.drop_drop, hq] at h2
      exact h2
    have hql : q ≤ l.length := by omega
    obtain ⟨i1, i2, i3, i4⟩ := lexE_good l f q hql
    rw [hqe]
    generalize lexE f l.length (l.drop q) = R at i1 i2 i3 i4
    unfold combT
    by_cases hR : R.2.2 = 0
    · rw [if_neg (by simp [hR])]
      refine ⟨fun y hy => ?_, ?_, i3, fun _ => i4 hR⟩
      · simp only [List.singleton_append, List.mem_cons] at hy
        rcases hy with rfl | hy
        · refine ⟨⟨p, ?_, hplt, hg⟩, ?_⟩
          · show (l.length : Int) - ((l.drop p).length : Int) = _; omega
          · show (p : Int) ≤ (l.length : Int) - ((l.drop p).length : Int); omega
        · exact ⟨(i1 y hy).1, by have := (i1 y hy).2; omega⟩
      · simp only [List.singleton_append]
        refine List.Pairwise.cons (fun y hy => ?_) i2
        have := (i1 y hy).2
        show (l.length : Int) - ((l.drop p).length : Int) < y.f3
        omega
    · rw [if_pos hR]
      exact ⟨fun y hy => by simp at hy, List.Pairwise.nil, i3, fun h => absurd h hR⟩
theorem allL_good (l : List UInt8) : (∀ y ∈ (allL l).1, TokAt l y) ∧ (allL l).1.Pairwise (fun a b => a.f3 < b.f3) ∧ (0 ≤ (allL l).2.1 ∧ (allL l).2.1 ≤ (l.length : Int)) ∧ ((allL l).2.2 = 0 → (allL l).2.1 = (l.length : Int)) := by
  unfold allL
  split
  · have h := skp_len false l
    rw [h.2]
    obtain ⟨a, b, c, d⟩ := lexE_good l (l.length + 1) (l.length - (skp false l).length) (by omega)
    exact ⟨fun y hy => (a y hy).1, b, c, d⟩
  · exact ⟨fun y hy => by simp at hy, List.Pairwise.nil, ⟨Int.le_refl _, by show (0 : Int) ≤ _; omega⟩, fun h => by cases h⟩
theorem allL_err (l : List UInt8) (h : (allL l).2.2 ≠ 0) : (allL l).1 = [] := by
  unfold allL at h ⊢
  split
  · rename_i h1
    rw [if_pos h1] at h
    exact lexE_err _ _ _ h
  · rfl
theorem pairwise_len (L : List S37) (n : Int) (h : L.Pairwise (fun a b => a.f3 < b.f3)) (h0 : ∀ y ∈ L, 0 ≤ y.f3 ∧ y.f3 < n) : (L.length : Int) ≤ n ∨ L = [] := by
  have key : ∀ (L : List S37) (m : Int), L.Pairwise (fun a b => a.f3 < b.f3) → (∀ y ∈ L, m ≤ y.f3 ∧ y.f3 < n) → L = [] ∨ m + (L.length : Int) ≤ n := by
    intro L
    induction L with
    | nil => intro m _ _; exact .inl rfl
    | cons x L ih =>
      intro m hp hm
      rw [List.pairwise_cons] at hp
      have hx := hm x (by simp)
      right
      rcases ih (x.f3 + 1) hp.2 (fun y hy => ⟨by have := hp.1 y hy; omega, (hm y (by simp [hy])).2⟩) with h | h
      · subst h; simp; omega
      · simp; omega
  rcases key L 0 h h0 with h | h
  · exact .inr h
  · exact .inl (by omega)
/-! ### the walk -/
theorem places_long (s : ByteArray) (h : 1500 < s.size) (w : World) : Calls Tryd.prog 7 #[.string s] w fun e w' => e = .returned (.bool true) ∧ Below w.heap.size w w' := by
  have d1 : decide ((1500 : Int) < (s.size : Int)) = true := decide_eq_true (by omega)
  have d2 : decide (1500 < s.size) = true := decide_eq_true h
  clear h
  go_enter Tryd.func7, Tryd.ntmps7
  go_wp2_with fail
  go_ret
  exact ⟨rfl, Below.refl _ _⟩
set_option maxHeartbeats 8000000 in
theorem places_bad (s : ByteArray) (h : s.size ≤ 1500) (L : List S37) (m e : Int) (ha : allS s = (L, m, e)) (he : e ≠ 0) (hm0 : 0 ≤ m) (hm1 : m ≤ (s.size : Int)) (w : World) (hT : LexTabs w) : Calls Tryd.prog 7 #[.string s] w fun e w' => e = .returned (.bool true) ∧ Below w.heap.size w w' := by
  have HTB := Lib.hid (fun (w' : World) (hb : Below w.heap.size w w') => hT.below hb)
  have HX := Lib.hid lexed_calls
  have HA := Lib.hid (all_reads s)
  rw [ha] at HA
  simp only at HA
  have d1 : decide ((1500 : Int) < (s.size : Int)) = false := decide_eq_false (by omega)
  have d2 : decide (1500 < s.size) = false := decide_eq_false (by omega)
  have d3 : (e != 0) = true := bne_iff_ne.mpr he
  have d4 : decide (0 ≤ m) = true := decide_eq_true hm0
  have d5 : decide (m ≤ (s.size : Int)) = true := decide_eq_true hm1
  clear ha hT h he hm0 hm1
  go_enter Tryd.func7, Tryd.ntmps7
  go_wp2_with fail
  refine (HA.out _ (HTB.out _ (Below.refl _ _))).mono ?_
  rintro e w2 ⟨A, cp, rfl, hcp, hC, hb⟩
  have HB := Lib.hid hb
  clear hb hC hcp
  go_wp2_with fail
  refine (HX.out _ (HTB.out _ HB.out)).mono ?_
  rintro e w4 ⟨rfl, hb⟩
  go_wp2_with fail
  go_ret
  exact ⟨rfl, HB.out.trans (hb.mono HB.out.size)⟩
set_option maxHeartbeats 16000000 in
theorem places_good (s : ByteArray) (h : s.size ≤ 1500) (L : List S37) (ha : allS s = (L, (s.size : Int), 0)) (hg : ∀ y ∈ L, TokAt (bl s) y) (hs : L.Pairwise (fun a b => a.f3 < b.f3)) (hl : L.length ≤ 1500) (w : World) (hT : LexTabs w) : Calls Tryd.prog 7 #[.string s] w fun e w' => e = .returned (.bool true) ∧ Below w.heap.size w w' := by
  have HTB := Lib.hid (fun (w' : World) (hb : Below w.heap.size w w') => hT.below hb)
  have HX := Lib.hid lexed_calls
  have HA := Lib.hid (all_reads s)
  rw [ha] at HA
  simp only at HA
  have d1 : decide ((1500 : Int) < (s.size : Int)) = false := decide_eq_false (by omega)
  have d2 : decide (1500 < s.size) = false := decide_eq_false (by omega)
  have HG := Lib.hid hg
  have HS := Lib.hid hs
  have HL := Lib.hid hl
  have HZ := Lib.hid h
  clear ha hT h hg hs hl
  go_enter Tryd.func7, Tryd.ntmps7
  go_wp2_with fail
  refine (HA.out _ (HTB.out _ (Below.refl _ _))).mono ?_
  rintro e w2 ⟨A, cp, rfl, hcp, hC, hb⟩
  have HB := Lib.hid hb
  have HC := Lib.hid hC
  clear hb hC hcp HA
  go_wp2_with fail
  go_loopg [6] (L.length + 1) (fun gk v6 wr => ∃ i : Int, v6 = .int .i64 i ∧ Hid (0 ≤ i ∧ i ≤ (L.length : Int) ∧ (L.length : Int) + 1 ≤ i + gk) ∧ Hid (∃ n, wr = w2.drewN n))
  case atStart => exact ⟨0, rfl, Lib.hid ⟨by omega, by omega, by omega⟩, Lib.hid ⟨0, rfl⟩⟩
  case round =>
    obtain ⟨i, rfl, HI, HW⟩ := hrel
    obtain ⟨hi0, hi1, hi2⟩ := HI.out
    obtain ⟨nd, rfl⟩ := HW.out
    by_cases hlt : i < (L.length : Int)
    · have c1 : decide (i < (L.length : Int)) = true := decide_eq_true hlt
      obtain ⟨ad, rfl, x0, x1, x2, x3⟩ := at_T37 HC.out i hi0 hlt
      have hlt' : i.toNat < L.length := by omega
      have hrd : rd_T37 L i = L[i.toNat] := by
        unfold rd_T37
        rw [List.getD_eq_getElem?_getD, List.getElem?_eq_getElem hlt']
        rfl
      have hgd := HG.out _ (List.getElem_mem hlt')
      rw [← hrd] at hgd
      have hprev : i = 0 ∨ (0 < i ∧ (rd_T37 L (i - 1)).f3 < (rd_T37 L i).f3) := by
        by_cases h0 : i = 0
        · exact .inl h0
        · refine .inr ⟨by omega, ?_⟩
          have hl2 : (i - 1).toNat < L.length := by omega
          have hr2 : rd_T37 L (i - 1) = L[(i - 1).toNat] := by
            unfold rd_T37
            rw [List.getD_eq_getElem?_getD, List.getElem?_eq_getElem hl2]
            rfl
          rw [hrd, hr2]
          exact List.pairwise_iff_getElem.1 HS.out _ _ hl2 hlt' (by omega)
      have hcell : 0 < i → w2.cell? ⟨(ad.add ((i - 1).toNat * 4)).block, (ad.add ((i - 1).toNat * 4)).off + 3, none⟩ = some (.int .i64 (rd_T37 L (i - 1)).f3) := fun h0 => by
        obtain ⟨ad', e, _, _, _, y3⟩ := at_T37 HC.out (i - 1) (by omega) (by omega)
        cases e
        exact y3
      obtain ⟨q, hq1, hq2, hq3⟩ := hgd
      generalize (rd_T37 L (i - 1)).f3 = pp at hprev hcell
      generalize rd_T37 L i = X at x0 x1 x2 x3 hq1 hq3 hprev
      obtain ⟨k, r, wd, p⟩ := X
      simp only at x0 x1 x2 x3 hq1 hq3 hprev
      clear hrd hlt'
      have hsz : (bl s).length = s.size := bl_len s
      have hbt : ∀ h : p.toNat < s.size, ((s[p.toNat]'h).toNat : Int) = (((bl s).getD q 0).toNat : Int) := fun h => by
        have : p.toNat = q := by omega
        simp only [this]
        rw [bAt_get s q (by omega)]
        rfl
      generalize (bl s).getD q 0 = bq at hq3 hbt
      have e1 : decide (p < 0) = false := decide_eq_false (by omega)
      have e2 : decide ((s.size : Int) ≤ p) = false := decide_eq_false (by omega)
      have g1 := eq_true hi0
      have g2 := eq_true hlt
      have g3 := eq_true (show 0 ≤ p by omega)
      have g4 := eq_true (show p < (s.size : Int) by omega)
      have g5 := eq_true (show p.toNat < s.size by omega)
      have wr1 : IntKind.i64.wrap (i + 1) = i + 1 := IntWalk.i64_in _ (by have := HL.out; omega)
      have HI2 := Lib.hid (show 0 ≤ i ∧ i < (L.length : Int) from ⟨hi0, hlt⟩)
      rcases hprev with hz0 | ⟨hpos, hpv⟩
      · have e3 : decide (0 < i) = false := decide_eq_false (by omega)
        clear hcell hsz hq1 hq2 hi0 hi1 hi2 hlt HG HS hz0
        rcases hq3 with ⟨rfl, hr, rfl⟩ | ⟨rfl, rfl, hw⟩ | ⟨rfl, hr, rfl⟩ | ⟨rfl, rfl, rfl, rfl⟩
        · have f1 : decide (0 < r) = true := decide_eq_true hr
          clear hr
          go_wp2_with fail
          go_quiet (fail)
          go_wp2_with fail
          go_roundg (gk - 1)
          case measure => have := HI.out; have := HI2.out; omega
          case rel => exact ⟨i + 1, rfl, Lib.hid (by have := HI.out; have := HI2.out; omega), Lib.hid ⟨_, rfl⟩⟩
        · have f1 : (wd.toList != ([] : List UInt8)) = true := bne_iff_ne.mpr (by rw [ByteArray.toList_eq]; exact hw)
          have f2 : wd.toList.isEmpty = false := by rw [ByteArray.toList_eq]; cases hww : wd.data.toList with | nil => exact absurd hww hw | cons _ _ => rfl
          clear hw
          go_wp2_with fail
          go_quiet (fail)
          go_wp2_with fail
          go_roundg (gk - 1)
          case measure => have := HI.out; have := HI2.out; omega
          case rel => exact ⟨i + 1, rfl, Lib.hid (by have := HI.out; have := HI2.out; omega), Lib.hid ⟨_, rfl⟩⟩
        · have f1 : decide (0 < r) = true := decide_eq_true hr
          clear hr
          go_wp2_with fail
          go_quiet (fail)
          go_wp2_with fail
          go_roundg (gk - 1)
          case measure => have := HI.out; have := HI2.out; omega
          case rel => exact ⟨i + 1, rfl, Lib.hid (by have := HI.out; have := HI2.out; omega), Lib.hid ⟨_, rfl⟩⟩
        · go_wp2_with fail
          go_quiet (fail)
          go_wp2_with fail
          go_roundg (gk - 1)
          case measure => have := HI.out; have := HI2.out; omega
          case rel => exact ⟨i + 1, rfl, Lib.hid (by have := HI.out; have := HI2.out; omega), Lib.hid ⟨_, rfl⟩⟩
      · have e3 : decide (0 < i) = true := decide_eq_true hpos
        have e4 : decide (p ≤ pp) = false := decide_eq_false (by omega)
        have y3 := hcell hpos
        have wr2 : IntKind.i64.wrap (i - 1) = i - 1 := IntWalk.i64_in _ (by have := HL.out; omega)
        obtain ⟨j, hj⟩ : ∃ j, i - 1 = j := ⟨_, rfl⟩
        rw [hj] at y3 wr2
        have g6 := eq_true (show 0 ≤ j by omega)
        have g7 := eq_true (show j < (L.length : Int) by omega)
        clear hcell hsz hq1 hq2 hi0 hi1 hi2 hlt HG HS hpos hpv
        rcases hq3 with ⟨rfl, hr, rfl⟩ | ⟨rfl, rfl, hw⟩ | ⟨rfl, hr, rfl⟩ | ⟨rfl, rfl, rfl, rfl⟩
        · have f1 : decide (0 < r) = true := decide_eq_true hr
          clear hr
          go_wp2_with fail
          go_quiet (fail)
          go_wp2_with fail
          go_roundg (gk - 1)
          case measure => have := HI.out; have := HI2.out; omega
          case rel => exact ⟨i + 1, rfl, Lib.hid (by have := HI.out; have := HI2.out; omega), Lib.hid ⟨_, rfl⟩⟩
        · have f1 : (wd.toList != ([] : List UInt8)) = true := bne_iff_ne.mpr (by rw [ByteArray.toList_eq]; exact hw)
          have f2 : wd.toList.isEmpty = false := by rw [ByteArray.toList_eq]; cases hww : wd.data.toList with | nil => exact absurd hww hw | cons _ _ => rfl
          clear hw
          go_wp2_with fail
          go_quiet (fail)
          go_wp2_with fail
          go_roundg (gk - 1)
          case measure => have := HI.out; have := HI2.out; omega
          case rel => exact ⟨i + 1, rfl, Lib.hid (by have := HI.out; have := HI2.out; omega), Lib.hid ⟨_, rfl⟩⟩
        · have f1 : decide (0 < r) = true := decide_eq_true hr
          clear hr
          go_wp2_with fail
          go_quiet (fail)
          go_wp2_with fail
          go_roundg (gk - 1)
          case measure => have := HI.out; have := HI2.out; omega
          case rel => exact ⟨i + 1, rfl, Lib.hid (by have := HI.out; have := HI2.out; omega), Lib.hid ⟨_, rfl⟩⟩
        · go_wp2_with fail
          go_quiet (fail)
          go_wp2_with fail
          go_roundg (gk - 1)
          case measure => have := HI.out; have := HI2.out; omega
          case rel => exact ⟨i + 1, rfl, Lib.hid (by have := HI.out; have := HI2.out; omega), Lib.hid ⟨_, rfl⟩⟩
    · have c1 : decide (i < (L.length : Int)) = false := decide_eq_false hlt
      clear hlt hi0 hi1 hi2
      go_wp2_with fail
      refine (HX.out _ (HTB.out _ (pw_below_drewN HB.out nd))).mono ?_
      rintro e w4 ⟨rfl, hb⟩
      go_wp2_with fail
      go_ret
      exact ⟨rfl, (pw_below_drewN HB.out nd).trans (hb.mono (pw_below_drewN HB.out nd).size)⟩
theorem places_law (s : ByteArray) (w : World) (hT : LexTabs w) : Calls Tryd.prog 7 #[.string s] w fun e w' => e = .returned (.bool true) ∧ Below w.heap.size w w' := by
  by_cases h : 1500 < s.size
  · exact places_long s h w
  have ha := allS_L s (by omega)
  obtain ⟨g1, g2, g3, g4⟩ := allL_good (bl s)
  rw [bl_len] at g3 g4
  obtain ⟨L, m, e, hL⟩ : ∃ L m e, allL (bl s) = (L, m, e) := ⟨_, _, _, rfl⟩
  rw [hL] at ha g1 g2 g3 g4
  simp only at g1 g2 g3 g4
  by_cases he : e = 0
  · subst he
    obtain rfl := g4 rfl
    have hlen : L.length ≤ 1500 := by
      rcases pairwise_len L (s.size : Int) g2 (fun y hy => by obtain ⟨q, a, b, _⟩ := g1 y hy; rw [bl_len] at b; omega) with h1 | h1
      · omega
      · rw [h1]; simp
    exact places_good s (by omega) L ha g1 g2 hlen w hT
  · exact places_bad s (by omega) L m e ha he g3.1 g3.2 w hT
end Go.Proofs.YtplkdfkahcpoeaaDoor.P
