/- dimen.Parse, walked. -/
import Derived.Test.YtkkadhhmdgbpiaaGreatDoorDimParse
namespace Go.Proofs.YtkkadhhmdgbpiaaGreatDoor.P
open Go.RowKit Go.Proofs.YtkkadhhmdgbpiaaGreatDoorW.PrintWords Go.Proofs.YtkkadhhmdgbpiaaGreatDoorW.PrintLast Go.Proofs.YtkkadhhmdgbpiaaGreatDoorW.PrintMore
set_option linter.unusedVariables false
set_option linter.unusedSimpArgs false
attribute [local go_sem] max2_int min2_int max_two min_two max_three min_three max_four min_four
def bOf (l : List UInt8) : ByteArray := ⟨l.toArray⟩
/-- Whole and part, as a length. -/
def sumE (W P : ByteArray) (D : Bool) : Int × Int :=
  if (numE W 5).2 = 0 then
    (if D then (if (numE P 10).2 = 0 then (65536 * (numE W 5).1 + (nr (65536 * (numE P 10).1.toNat) (10 ^ P.size) : Nat), 0) else (0, 5)) else (65536 * (numE W 5).1, 0))
  else (0, 5)
/-- What Parse answers. -/
def parseE (s : ByteArray) : Int × Int :=
  let l1 := Lib.trimPrefix s.data.toList [45]
  if Lib.hasSuffix l1 [112, 116] then
    (let c := Lib.cut (Lib.trimSuffix l1 [112, 116]) [46]
     let r := sumE (bOf c.1) (bOf c.2.1) c.2.2
     if r.2 = 0 then (if lenB r.1 then (if Lib.hasPrefix s.data.toList [45] then -r.1 else r.1, 0) else (0, 2)) else (0, 5))
  else (0, 5)
theorem numE_range (s : ByteArray) (m : Nat) (hm : m ≤ 10) : 0 ≤ (numE s m).1 ∧ (numE s m).1 < ((10 ^ m : Nat) : Int) ∧ ((numE s m).2 = 0 ∨ (numE s m).2 = 5) ∧ ((numE s m).2 = 0 → s.size ≤ m) := by
  have key : ∀ (l : List UInt8) (acc n : Nat), Lib.decFrom acc l = some n → n < (acc + 1) * 10 ^ l.length := by
    intro l
    induction l with
    | nil => intro acc n h; simp [Lib.decFrom] at h; subst h; simp
    | cons b r ih =>
      intro acc n h
      unfold Lib.decFrom at h
      cases hd : Lib.digitVal b with
      | none => rw [hd] at h; cases h
      | some d =>
        rw [hd] at h
        have := ih _ _ h
        have hd9 : d ≤ 9 := by unfold Lib.digitVal at hd; split at hd <;> simp at hd; omega
        refine Nat.lt_of_lt_of_le this ?_
        rw [List.length_cons, Nat.pow_succ, Nat.mul_comm (10 ^ r.length) 10, ← Nat.mul_assoc]
        exact Nat.mul_le_mul_right _ (by omega)
  have h10 : 0 < 10 ^ m := Nat.pow_pos (by decide)
  unfold numE
  split
  · rename_i hs
    cases hd : Lib.decNat s.data.toList with
    | none => exact ⟨by simp, Int.natCast_pos.2 h10, Or.inr rfl, fun h => by cases h⟩
    | some n =>
      have hl : s.data.toList.length = s.size := rfl
      have h1 : Lib.decFrom 0 s.data.toList = some n := by
        unfold Lib.decNat at hd
        split at hd
        · cases hd
        · exact hd
      have h2 := key _ _ _ h1
      rw [hl] at h2
      have h3 : 10 ^ s.size ≤ 10 ^ m := Nat.pow_le_pow_right (by decide) hs
      refine ⟨Int.natCast_nonneg _, ?_, Or.inl rfl, fun _ => hs⟩
      show (n : Int) < _
      have : n < 10 ^ m := by rw [Nat.zero_add, Nat.one_mul] at h2; exact Nat.lt_of_lt_of_le h2 h3
      exact Int.ofNat_lt.2 this
  · exact ⟨by simp, Int.natCast_pos.2 h10, Or.inr rfl, fun h => by cases h⟩
set_option maxHeartbeats 2000000 in
theorem parse1_calls (s : ByteArray) (g : Nat) (w : World) (ht : DimTabs w) (hs : s.size ≤ 1000) (h1 : w.cell? ⟨g, 0, none⟩ = some (.string s)) :
    Calls Tryz.prog 28 #[.pointer (some ⟨g, 0, none⟩)] w fun en w' => en = nearE (parseE s) ∧ Below w.heap.size w w' := by
  have hP := fun w1 => Tryz.strings_CutPrefix s ⟨#[45]⟩ w1
  have hl0 : s.data.toList.length = s.size := rfl
  have hl1 : (Lib.trimPrefix s.data.toList [45]).length ≤ 1000 := by unfold Lib.trimPrefix; split <;> simp <;> omega
  have hS := fun w1 => Tryz.strings_CutSuffix ⟨(Lib.trimPrefix s.data.toList [45]).toArray⟩ ⟨#[112, 116]⟩ w1 (by show (Lib.trimPrefix s.data.toList [45]).toArray.size ≤ _; simp; omega)
  unfold parseE
  dsimp only
  change ∀ w1, Calls Tryz.prog 29 #[.string s, .string ⟨#[45]⟩] w1 fun e w' => e = .returned (.tuple #[.string ⟨(Lib.trimPrefix s.data.toList [45]).toArray⟩, .bool (Lib.hasPrefix s.data.toList [45])]) ∧ w' = w1 at hP
  change ∀ w1, Calls Tryz.prog 30 #[.string ⟨(Lib.trimPrefix s.data.toList [45]).toArray⟩, .string ⟨#[112, 116]⟩] w1 fun e w' => e = .returned (.tuple #[.string ⟨(Lib.trimSuffix (Lib.trimPrefix s.data.toList [45]) [112, 116]).toArray⟩, .bool (Lib.hasSuffix (Lib.trimPrefix s.data.toList [45]) [112, 116])]) ∧ w' = w1 at hS
  generalize Lib.hasPrefix s.data.toList [45] = M at *
  generalize Lib.trimPrefix s.data.toList [45] = l1 at *
  have hl2 : (Lib.trimSuffix l1 [112, 116]).length ≤ 1000 := by
    unfold Lib.trimSuffix
    split
    · rw [List.length_take]; omega
    · exact hl1
  obtain ⟨m, hml⟩ := ht.2.2
  have hCut : ∀ w1, Below w.heap.size w w1 → Calls Tryz.prog 31 #[.string ⟨(Lib.trimSuffix l1 [112, 116]).toArray⟩, .string ⟨#[46]⟩] w1 fun e w' => e = .returned (.tuple #[.string (bOf (Lib.cut (Lib.trimSuffix l1 [112, 116]) [46]).1), .string (bOf (Lib.cut (Lib.trimSuffix l1 [112, 116]) [46]).2.1), .bool (Lib.cut (Lib.trimSuffix l1 [112, 116]) [46]).2.2]) ∧ Below w.heap.size w w' := fun w1 hb => by
    refine (Tryz.strings_Cut ⟨(Lib.trimSuffix l1 [112, 116]).toArray⟩ ⟨#[46]⟩ m w1 (by show (Lib.trimSuffix l1 [112, 116]).toArray.size < _; simp; omega) ((hb.cell (World.block_lt_of_cell? _ _ hml)).trans hml)).mono ?_
    rintro e w' ⟨rfl, n, rfl⟩
    exact ⟨rfl, hb.trans ((Drawn0.mk ⟨n, rfl⟩ : Drawn0 w1 _).below.mono hb.size)⟩
  have hcl : (Lib.cut (Lib.trimSuffix l1 [112, 116]) [46]).1.length ≤ 1000 ∧ (Lib.cut (Lib.trimSuffix l1 [112, 116]) [46]).2.1.length ≤ 1000 := by
    generalize Lib.trimSuffix l1 [112, 116] = l2 at *
    unfold Lib.cut
    split
    · constructor
      · rw [List.length_take]; omega
      · rw [List.length_drop]; omega
    · exact ⟨hl2, by simp⟩
  generalize hcd : Lib.cut (Lib.trimSuffix l1 [112, 116]) [46] = c at *
  obtain ⟨cw, cp, D⟩ := c
  have hWs : (bOf cw).size ≤ 1000 := by show cw.toArray.size ≤ _; simpa using hcl.1
  have hPs : (bOf cp).size ≤ 1000 := by show cp.toArray.size ≤ _; simpa using hcl.2
  dsimp only at hCut ⊢
  generalize bOf cw = W at *
  generalize bOf cp = P at *
  have hW : ∀ w1, Below w.heap.size w w1 → Calls Tryz.prog 32 #[.string W, .int .i64 5] w1 fun e w2 => e = nearE (numE W 5) ∧ Below w.heap.size w w2 := fun w1 hb => (number_calls W 5 (by decide) w1 (ht.below hb) (by omega)).mono fun e w2 (h : _ ∧ _) => (⟨h.1, hb.trans (h.2.mono hb.size)⟩ : e = nearE (numE W 5) ∧ Below w.heap.size w w2)
  have hQ : ∀ w1, Below w.heap.size w w1 → Calls Tryz.prog 32 #[.string P, .int .i64 10] w1 fun e w2 => e = nearE (numE P 10) ∧ Below w.heap.size w w2 := fun w1 hb => (number_calls P 10 (by decide) w1 (ht.below hb) (by omega)).mono fun e w2 (h : _ ∧ _) => (⟨h.1, hb.trans (h.2.mono hb.size)⟩ : e = nearE (numE P 10) ∧ Below w.heap.size w w2)
  have rW := numE_range W 5 (by decide)
  have rP := numE_range P 10 (by decide)
  have HP := Lib.hid hP
  have HS0 := hS
  have HC := Lib.hid hCut
  clear hP hcd hcl hl2 hml hCut hl0 hl1 hWs hPs ht hs
  generalize Lib.trimSuffix l1 [112, 116] = l2 at *
  cases hsf : Lib.hasSuffix l1 [112, 116]
  · rw [hsf] at hS
    have HS := Lib.hid hS
    rw [if_neg (by decide), nearE_no _ (show ((0, 5) : Int × Int).2 ≠ 0 by decide)]
    clear hS HS0 hsf hW hQ rW rP
    go_enter Tryz.func28, Tryz.ntmps28
    go_wp2_with (first
      | (go_at_call 29; with_reducible refine (HP.out _).mono ?_; rintro e w1 ⟨rfl, rfl⟩)
      | (go_at_call 30; with_reducible refine (HS.out _).mono ?_; rintro e w1 ⟨rfl, rfl⟩)
      | (go_at_call 23; first | (with_reducible refine (need_false false _ _ rfl).mono ?_; rintro e w2 ⟨rfl, hd⟩; first | replace hb := hb.trans (hd.below.mono hb.size) | (have hb := hd.below))))
    exact ⟨rfl, rfl, hb⟩
  · rw [hsf] at hS
    have HS := Lib.hid hS
    rw [if_pos rfl]
    clear hS HS0 hsf
    unfold sumE
    generalize hvE : numE W 5 = vE at *
    obtain ⟨v, ve⟩ := vE
    dsimp only at rW ⊢
    by_cases hve : ve = 0
    · subst hve
      rw [nearE_ok _ rfl] at hW
      dsimp only at hW
      have HW := Lib.hid hW
      rw [if_pos rfl]
      have hv5 : 0 ≤ v ∧ v < 100000 := by have := rW.1; have := rW.2.1; omega
      cases D
      · simp only [Bool.false_eq_true, if_false, if_true]
        have hX : wrap64 (65536 * v) = 65536 * v := wrap64_small (by omega) (by omega)
        have hneg : wrap64 (-(65536 * v)) = -(65536 * v) := wrap64_small (by omega) (by omega)
        clear hW hQ rW rP hvE hv5
        have hIs : ∀ w1, Below w.heap.size w w1 → Calls Tryz.prog 20 #[.slice (some ⟨w1.heap.size, 0, none⟩) 1 1] (w1.alloc (.cells #[.int .i64 (wrap64 (65536 * v))] 3)) fun en w' => en = .returned (.bool (lenB (65536 * v))) ∧ Below w.heap.size w w' := fun w1 hb => by
          rw [hX]
          exact (is_calls (65536 * v) w1 _ rfl).mono fun e w2 h => ⟨h.1, hb.trans ((((Below.refl w1.heap.size w1).alloc (Nat.le_refl _) _).trans (h.2.below.mono (by simp))).mono hb.size)⟩
        have HX := Lib.hid hX
        have HNEG := Lib.hid hneg
        clear hX hneg
        cases hln : lenB (65536 * v)
        · rw [if_neg (by decide)]
          rw [hln] at hIs
          have HIS := Lib.hid hIs
          rw [nearE_no _ (show ((0, 2) : Int × Int).2 ≠ 0 by decide)]
          clear hIs hln
          go_enter Tryz.func28, Tryz.ntmps28
          go_wp2_with (first
            | (go_at_call 29; with_reducible refine (HP.out _).mono ?_; rintro e w1 ⟨rfl, rfl⟩)
            | (go_at_call 30; with_reducible refine (HS.out _).mono ?_; rintro e w1 ⟨rfl, rfl⟩)
            | (go_at_call 31; with_reducible refine (HC.out _ (Drawn0.below (by repeat (first | exact Drawn0.refl _ | apply Drawn0.step)))).mono ?_; rintro e w1 ⟨rfl, hb⟩)
            | (go_at_call 32; with_reducible refine (HW.out _ hb).mono ?_; rintro e w1 ⟨rfl, hb⟩)
            | (go_at_call 20; with_reducible refine (HIS.out _ hb).mono ?_; rintro e w1 ⟨rfl, hb⟩)
            | (go_at_call 23; first | (with_reducible refine (need_true true _ _ rfl).mono ?_; rintro e w2 ⟨rfl, hd⟩; first | replace hb := hb.trans (hd.below.mono hb.size) | (obtain ⟨n0, rfl⟩ := hd.out)) | (with_reducible refine (need_false false _ _ rfl).mono ?_; rintro e w2 ⟨rfl, hd⟩; first | replace hb := hb.trans (hd.below.mono hb.size) | (have hb := hd.below))))
          exact ⟨rfl, rfl, hb⟩
        · rw [if_pos rfl]
          rw [hln] at hIs
          have HIS := Lib.hid hIs
          clear hIs hln
          cases M
          · rw [if_neg (by decide), nearE_ok _ rfl]
            go_enter Tryz.func28, Tryz.ntmps28
            go_wp2_with (first
              | (go_at_call 29; with_reducible refine (HP.out _).mono ?_; rintro e w1 ⟨rfl, rfl⟩)
              | (go_at_call 30; with_reducible refine (HS.out _).mono ?_; rintro e w1 ⟨rfl, rfl⟩)
              | (go_at_call 31; with_reducible refine (HC.out _ (Drawn0.below (by repeat (first | exact Drawn0.refl _ | apply Drawn0.step)))).mono ?_; rintro e w1 ⟨rfl, hb⟩)
              | (go_at_call 32; with_reducible refine (HW.out _ hb).mono ?_; rintro e w1 ⟨rfl, hb⟩)
              | (go_at_call 20; with_reducible refine (HIS.out _ hb).mono ?_; rintro e w1 ⟨rfl, hb⟩)
              | (go_at_call 23; first | (with_reducible refine (need_true true _ _ rfl).mono ?_; rintro e w2 ⟨rfl, hd⟩; first | replace hb := hb.trans (hd.below.mono hb.size) | (obtain ⟨n0, rfl⟩ := hd.out))))
            go_ret
            refine ⟨?_, hb⟩
            show Ending.returned (Value.int .i64 (wrap64 (65536 * v))) = _
            rw [HX.out]
          · rw [if_pos rfl, nearE_ok _ rfl]
            go_enter Tryz.func28, Tryz.ntmps28
            go_wp2_with (first
              | (go_at_call 29; with_reducible refine (HP.out _).mono ?_; rintro e w1 ⟨rfl, rfl⟩)
              | (go_at_call 30; with_reducible refine (HS.out _).mono ?_; rintro e w1 ⟨rfl, rfl⟩)
              | (go_at_call 31; with_reducible refine (HC.out _ (Drawn0.below (by repeat (first | exact Drawn0.refl _ | apply Drawn0.step)))).mono ?_; rintro e w1 ⟨rfl, hb⟩)
              | (go_at_call 32; with_reducible refine (HW.out _ hb).mono ?_; rintro e w1 ⟨rfl, hb⟩)
              | (go_at_call 20; with_reducible refine (HIS.out _ hb).mono ?_; rintro e w1 ⟨rfl, hb⟩)
              | (go_at_call 23; first | (with_reducible refine (need_true true _ _ rfl).mono ?_; rintro e w2 ⟨rfl, hd⟩; first | replace hb := hb.trans (hd.below.mono hb.size) | (obtain ⟨n0, rfl⟩ := hd.out))))
            go_ret
            refine ⟨?_, hb⟩
            show Ending.returned (Value.int .i64 (wrap64 (-(wrap64 (65536 * v))))) = _
            rw [HX.out, HNEG.out]
      · simp only [if_true]
        generalize hpE : numE P 10 = pE at *
        obtain ⟨p, pe⟩ := pE
        dsimp only at rP ⊢
        by_cases hpe : pe = 0
        · subst hpe
          rw [nearE_ok _ rfl] at hQ
          dsimp only at hQ
          have HQ := Lib.hid hQ
          simp only [if_true]
          have hp10 : 0 ≤ p ∧ p < 10000000000 := by have := rP.1; have := rP.2.1; omega
          have hPz := rP.2.2.2 rfl
          obtain ⟨pn, rfl⟩ : ∃ pn : Nat, p = (pn : Int) := ⟨p.toNat, by omega⟩
          rw [Int.toNat_natCast]
          have hPW : ∀ w, Calls Tryz.prog 34 #[.int .i64 (P.size : Int)] w fun e w' => e = .returned (.int .i64 ((10 ^ P.size : Nat) : Int)) ∧ Drawn0 w w' := fun w => power_calls P.size (by omega) w
          have hk10 : 10 ^ P.size ≤ 10 ^ 10 := Nat.pow_le_pow_right (by decide) (by omega)
          have hk0 : 0 < 10 ^ P.size := Nat.pow_pos (by decide)
          generalize 10 ^ P.size = PW at *
          have hNR : ∀ w, Calls Tryz.prog 33 #[.int .i64 (wrap64 (65536 * (pn : Int))), .int .i64 (PW : Int)] w fun e w' => e = .returned (.int .i64 (nr (65536 * pn) PW : Nat)) ∧ Drawn0 w w' := fun w => by
            have := mul_wrap 65536 pn (by omega)
            rw [show ((65536 : Nat) : Int) = 65536 from rfl] at this
            rw [this]
            exact nearest_calls (65536 * pn) PW (by omega) (by omega) hk0 w
          have hnr := nr_le (65536 * pn) PW hk0
          generalize nr (65536 * pn) PW = N at *
          have HPW := Lib.hid hPW
          have HNR := Lib.hid hNR
          have hX : wrap64 (wrap64 (65536 * v) + (N : Int)) = 65536 * v + (N : Int) := by
            rw [wrap64_small (x := 65536 * v) (by omega) (by omega), wrap64_small (by omega) (by omega)]
          have hneg : wrap64 (-(65536 * v + (N : Int))) = -(65536 * v + (N : Int)) := wrap64_small (by omega) (by omega)
          clear hW hQ rW rP hvE hv5 hpE hp10 hPz hk10 hk0 hPW hNR hnr
          have hIs : ∀ w1, Below w.heap.size w w1 → Calls Tryz.prog 20 #[.slice (some ⟨w1.heap.size, 0, none⟩) 1 1] (w1.alloc (.cells #[.int .i64 (wrap64 (wrap64 (65536 * v) + (N : Int)))] 3)) fun en w' => en = .returned (.bool (lenB (65536 * v + (N : Int)))) ∧ Below w.heap.size w w' := fun w1 hb => by
            rw [hX]
            exact (is_calls (65536 * v + (N : Int)) w1 _ rfl).mono fun e w2 h => ⟨h.1, hb.trans ((((Below.refl w1.heap.size w1).alloc (Nat.le_refl _) _).trans (h.2.below.mono (by simp))).mono hb.size)⟩
          have HX := Lib.hid hX
          have HNEG := Lib.hid hneg
          clear hX hneg
          cases hln : lenB (65536 * v + (N : Int))
          · rw [if_neg (by decide)]
            rw [hln] at hIs
            have HIS := Lib.hid hIs
            rw [nearE_no _ (show ((0, 2) : Int × Int).2 ≠ 0 by decide)]
            clear hIs hln
            go_enter Tryz.func28, Tryz.ntmps28
            go_wp2_with (first
              | (go_at_call 29; with_reducible refine (HP.out _).mono ?_; rintro e w1 ⟨rfl, rfl⟩)
              | (go_at_call 30; with_reducible refine (HS.out _).mono ?_; rintro e w1 ⟨rfl, rfl⟩)
              | (go_at_call 31; with_reducible refine (HC.out _ (Drawn0.below (by repeat (first | exact Drawn0.refl _ | apply Drawn0.step)))).mono ?_; rintro e w1 ⟨rfl, hb⟩)
              | (go_at_call 32; with_reducible refine (HW.out _ hb).mono ?_; rintro e w1 ⟨rfl, hb⟩)
              | (go_at_call 32; with_reducible refine (HQ.out _ hb).mono ?_; rintro e w1 ⟨rfl, hb⟩)
              | (go_at_call 34; with_reducible refine (HPW.out _).mono ?_; rintro e w1 ⟨rfl, hd⟩; replace hb := hb.trans (hd.below.mono hb.size))
              | (go_at_call 33; with_reducible refine (HNR.out _).mono ?_; rintro e w1 ⟨rfl, hd⟩; replace hb := hb.trans (hd.below.mono hb.size))
              | (go_at_call 20; with_reducible refine (HIS.out _ hb).mono ?_; rintro e w1 ⟨rfl, hb⟩)
              | (go_at_call 23; first | (with_reducible refine (need_true true _ _ rfl).mono ?_; rintro e w2 ⟨rfl, hd⟩; first | replace hb := hb.trans (hd.below.mono hb.size) | (obtain ⟨n0, rfl⟩ := hd.out)) | (with_reducible refine (need_false false _ _ rfl).mono ?_; rintro e w2 ⟨rfl, hd⟩; first | replace hb := hb.trans (hd.below.mono hb.size) | (have hb := hd.below))))
            exact ⟨rfl, rfl, hb⟩
          · rw [if_pos rfl]
            rw [hln] at hIs
            have HIS := Lib.hid hIs
            clear hIs hln
            cases M
            · rw [if_neg (by decide), nearE_ok _ rfl]
              go_enter Tryz.func28, Tryz.ntmps28
              go_wp2_with (first
                | (go_at_call 29; with_reducible refine (HP.out _).mono ?_; rintro e w1 ⟨rfl, rfl⟩)
                | (go_at_call 30; with_reducible refine (HS.out _).mono ?_; rintro e w1 ⟨rfl, rfl⟩)
                | (go_at_call 31; with_reducible refine (HC.out _ (Drawn0.below (by repeat (first | exact Drawn0.refl _ | apply Drawn0.step)))).mono ?_; rintro e w1 ⟨rfl, hb⟩)
                | (go_at_call 32; with_reducible refine (HW.out _ hb).mono ?_; rintro e w1 ⟨rfl, hb⟩)
                | (go_at_call 32; with_reducible refine (HQ.out _ hb).mono ?_; rintro e w1 ⟨rfl, hb⟩)
                | (go_at_call 34; with_reducible refine (HPW.out _).mono ?_; rintro e w1 ⟨rfl, hd⟩; replace hb := hb.trans (hd.below.mono hb.size))
                | (go_at_call 33; with_reducible refine (HNR.out _).mono ?_; rintro e w1 ⟨rfl, hd⟩; replace hb := hb.trans (hd.below.mono hb.size))
                | (go_at_call 20; with_reducible refine (HIS.out _ hb).mono ?_; rintro e w1 ⟨rfl, hb⟩)
                | (go_at_call 23; first | (with_reducible refine (need_true true _ _ rfl).mono ?_; rintro e w2 ⟨rfl, hd⟩; first | replace hb := hb.trans (hd.below.mono hb.size) | (obtain ⟨n0, rfl⟩ := hd.out))))
              go_ret
              refine ⟨?_, hb⟩
              show Ending.returned (Value.int .i64 (wrap64 (wrap64 (65536 * v) + (N : Int)))) = _
              rw [HX.out]
            · rw [if_pos rfl, nearE_ok _ rfl]
              go_enter Tryz.func28, Tryz.ntmps28
              go_wp2_with (first
                | (go_at_call 29; with_reducible refine (HP.out _).mono ?_; rintro e w1 ⟨rfl, rfl⟩)
                | (go_at_call 30; with_reducible refine (HS.out _).mono ?_; rintro e w1 ⟨rfl, rfl⟩)
                | (go_at_call 31; with_reducible refine (HC.out _ (Drawn0.below (by repeat (first | exact Drawn0.refl _ | apply Drawn0.step)))).mono ?_; rintro e w1 ⟨rfl, hb⟩)
                | (go_at_call 32; with_reducible refine (HW.out _ hb).mono ?_; rintro e w1 ⟨rfl, hb⟩)
                | (go_at_call 32; with_reducible refine (HQ.out _ hb).mono ?_; rintro e w1 ⟨rfl, hb⟩)
                | (go_at_call 34; with_reducible refine (HPW.out _).mono ?_; rintro e w1 ⟨rfl, hd⟩; replace hb := hb.trans (hd.below.mono hb.size))
                | (go_at_call 33; with_reducible refine (HNR.out _).mono ?_; rintro e w1 ⟨rfl, hd⟩; replace hb := hb.trans (hd.below.mono hb.size))
                | (go_at_call 20; with_reducible refine (HIS.out _ hb).mono ?_; rintro e w1 ⟨rfl, hb⟩)
                | (go_at_call 23; first | (with_reducible refine (need_true true _ _ rfl).mono ?_; rintro e w2 ⟨rfl, hd⟩; first | replace hb := hb.trans (hd.below.mono hb.size) | (obtain ⟨n0, rfl⟩ := hd.out))))
              go_ret
              refine ⟨?_, hb⟩
              show Ending.returned (Value.int .i64 (wrap64 (-(wrap64 (wrap64 (65536 * v) + (N : Int)))))) = _
              rw [HX.out, HNEG.out]
        · have hpe5 : pe = 5 := by rcases rP.2.2.1 with h | h <;> omega
          subst hpe5
          rw [nearE_no (p, 5) (show (5 : Int) ≠ 0 by decide)] at hQ
          dsimp only at hQ
          have HQ := Lib.hid hQ
          simp only [show ¬ ((5 : Int) = 0) by decide, if_false]
          rw [nearE_no _ (show ((0, 5) : Int × Int).2 ≠ 0 by decide)]
          clear hW hQ rW rP hvE hv5 hpE hpe
          go_enter Tryz.func28, Tryz.ntmps28
          go_wp2_with (first
            | (go_at_call 29; with_reducible refine (HP.out _).mono ?_; rintro e w1 ⟨rfl, rfl⟩)
            | (go_at_call 30; with_reducible refine (HS.out _).mono ?_; rintro e w1 ⟨rfl, rfl⟩)
            | (go_at_call 31; with_reducible refine (HC.out _ (Drawn0.below (by repeat (first | exact Drawn0.refl _ | apply Drawn0.step)))).mono ?_; rintro e w1 ⟨rfl, hb⟩)
            | (go_at_call 32; with_reducible refine (HW.out _ hb).mono ?_; rintro e w1 ⟨rfl, hb⟩)
            | (go_at_call 32; with_reducible refine (HQ.out _ hb).mono ?_; rintro e w1 ⟨rfl, hb⟩)
            | (go_at_call 23; first | (with_reducible refine (need_true true _ _ rfl).mono ?_; rintro e w2 ⟨rfl, hd⟩; first | replace hb := hb.trans (hd.below.mono hb.size) | (obtain ⟨n0, rfl⟩ := hd.out))))
          exact ⟨rfl, rfl, hb⟩
    · have hve5 : ve = 5 := by rcases rW.2.2.1 with h | h <;> omega
      subst hve5
      rw [nearE_no (v, 5) (show (5 : Int) ≠ 0 by decide)] at hW
      dsimp only at hW
      have HW := Lib.hid hW
      simp only [show ¬ ((5 : Int) = 0) by decide, if_false]
      rw [nearE_no _ (show ((0, 5) : Int × Int).2 ≠ 0 by decide)]
      clear hW hQ rW rP hvE hve
      go_enter Tryz.func28, Tryz.ntmps28
      go_wp2_with (first
        | (go_at_call 29; with_reducible refine (HP.out _).mono ?_; rintro e w1 ⟨rfl, rfl⟩)
        | (go_at_call 30; with_reducible refine (HS.out _).mono ?_; rintro e w1 ⟨rfl, rfl⟩)
        | (go_at_call 31; with_reducible refine (HC.out _ (Drawn0.below (by repeat (first | exact Drawn0.refl _ | apply Drawn0.step)))).mono ?_; rintro e w1 ⟨rfl, hb⟩)
        | (go_at_call 32; with_reducible refine (HW.out _ hb).mono ?_; rintro e w1 ⟨rfl, hb⟩)
        | (go_at_call 23; first | (with_reducible refine (need_true true _ _ rfl).mono ?_; rintro e w2 ⟨rfl, hd⟩; first | replace hb := hb.trans (hd.below.mono hb.size) | (obtain ⟨n0, rfl⟩ := hd.out))))
      exact ⟨rfl, rfl, hb⟩
end Go.Proofs.YtkkadhhmdgbpiaaGreatDoor.P
