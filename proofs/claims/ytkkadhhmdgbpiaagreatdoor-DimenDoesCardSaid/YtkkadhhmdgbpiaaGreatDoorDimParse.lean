/- dimen.number and Parse, walked. -/
import Derived.Test.YtkkadhhmdgbpiaaGreatDoorDimText
import Derived.Test.YtkkadhhmdgbpiaaGreatDoorDimTrim
namespace Go.Proofs.YtkkadhhmdgbpiaaGreatDoor.P
open Go.RowKit Go.Proofs.YtkkadhhmdgbpiaaGreatDoorW.PrintWords Go.Proofs.YtkkadhhmdgbpiaaGreatDoorW.PrintLast Go.Proofs.YtkkadhhmdgbpiaaGreatDoorW.PrintMore
set_option linter.unusedVariables false
set_option linter.unusedSimpArgs false
attribute [local go_sem] max2_int min2_int max_two min_two max_three min_three max_four min_four
theorem dig_calls (x : Nat) (w : World) : Calls Tryz.prog 48 #[.int .i32 (x : Int)] w fun e w' => e = .returned (.bool (TR.isDig x)) ∧ ∃ q, w' = w.drewN q := by
  by_cases h1 : 48 ≤ x
  · have c1 : decide ((48 : Int) ≤ (x : Int)) = true := decide_eq_true (by omega)
    by_cases h2 : x ≤ 57
    · have c2 : decide ((x : Int) ≤ 57) = true := decide_eq_true (by omega)
      have hr : TR.isDig x = true := by unfold TR.isDig; rw [decide_eq_true h1, decide_eq_true h2]; rfl
      rw [hr]
      go_enter Tryz.func48, Tryz.ntmps48
      go_wp2_with fail
      go_ret
      exact ⟨rfl, by first | exact ⟨0, rfl⟩ | exact ⟨_, rfl⟩⟩
    · have c2 : decide ((x : Int) ≤ 57) = false := decide_eq_false (by omega)
      have hr : TR.isDig x = false := by unfold TR.isDig; rw [decide_eq_true h1, decide_eq_false h2]; rfl
      rw [hr]
      go_enter Tryz.func48, Tryz.ntmps48
      go_wp2_with fail
      go_ret
      exact ⟨rfl, by first | exact ⟨0, rfl⟩ | exact ⟨_, rfl⟩⟩
  · have c1 : decide ((48 : Int) ≤ (x : Int)) = false := decide_eq_false (by omega)
    have hr : TR.isDig x = false := by unfold TR.isDig; rw [decide_eq_false h1]; rfl
    rw [hr]
    go_enter Tryz.func48, Tryz.ntmps48
    go_wp2_with fail
    go_ret
    exact ⟨rfl, by first | exact ⟨0, rfl⟩ | exact ⟨_, rfl⟩⟩
/-- TrimFunc with the digits' closure. -/
theorem trim_calls (s : ByteArray) (w : World) (hs : s.size ≤ 9223372036854775807) (ht : DimTabs w) :
    Calls Tryz.prog 49 #[.string s, .func (.func 48) #[] #[]] w fun e w' => e = .returned (.string (Lib.trimF TR.isDig s)) ∧ Below w.heap.size w w' :=
  Tryz.strings_TrimFunc 48 #[] (fun args w => by kernel_rfl) TR.isDig s w hs ht.2.1 (fun W x _ => dig_calls x W)
/-- The number that a text of so many digits at most is, or the error. -/
def numE (s : ByteArray) (m : Nat) : Int × Int := if s.size ≤ m then (match Lib.decNat s.data.toList with | some n => ((n : Int), 0) | none => (0, 5)) else (0, 5)
theorem decFrom_some : ∀ (l : List UInt8) (acc : Nat), (∀ b ∈ l, TR.isDig b.toNat = true) → ∃ n, Lib.decFrom acc l = some n
  | [], acc, _ => ⟨acc, rfl⟩
  | b :: r, acc, h => by
    have hb := h b (by simp)
    have : Lib.digitVal b = some (b.toNat - 48) := by
      unfold Lib.digitVal
      rw [if_pos (by unfold TR.isDig at hb; simpa using hb)]
    unfold Lib.decFrom
    rw [this]
    exact decFrom_some r _ (fun c hc => h c (by simp [hc]))
theorem decFrom_none : ∀ (l : List UInt8) (acc : Nat), (¬ ∀ b ∈ l, TR.isDig b.toNat = true) → Lib.decFrom acc l = none
  | [], acc, h => absurd (fun b hb => by simp at hb) h
  | b :: r, acc, h => by
    unfold Lib.decFrom
    cases hb : TR.isDig b.toNat
    · have : Lib.digitVal b = none := by
        unfold Lib.digitVal
        rw [if_neg (fun hh => by unfold TR.isDig at hb; simp at hb; omega)]
      rw [this]
    · have : Lib.digitVal b = some (b.toNat - 48) := by
        unfold Lib.digitVal
        rw [if_pos (by unfold TR.isDig at hb; simpa using hb)]
      rw [this]
      exact decFrom_none r _ (fun hh => h (fun c hc => by
        rcases List.mem_cons.1 hc with rfl | hc
        · exact hb
        · exact hh c hc))
theorem all_get (s : ByteArray) : (∀ b ∈ s.data.toList, TR.isDig b.toNat = true) ↔ ∀ i, i < s.size → TR.isDig (s.get! i).toNat = true := by
  have hl : s.data.toList.length = s.size := rfl
  constructor
  · intro h i hi
    rw [← Lib.getD_get!']
    have : s.data.toList.getD i 0 = s.data.toList[i]'(by omega) := by simp [List.getD, List.getElem?_eq_getElem (show i < s.data.toList.length by omega)]
    rw [this]
    exact h _ (List.getElem_mem _)
  · intro h b hb
    obtain ⟨i, hi, rfl⟩ := List.getElem_of_mem hb
    have := h i (by omega)
    rw [← Lib.getD_get!'] at this
    have e : s.data.toList.getD i 0 = s.data.toList[i] := by simp [List.getD, List.getElem?_eq_getElem hi]
    rw [e] at this
    exact this
theorem toList_empty (s : ByteArray) : s.toList.isEmpty = decide (s.size = 0) := by
  rw [ByteArray.toList_eq]
  have hl : s.data.toList.length = s.size := rfl
  rw [← hl]
  cases s.data.toList <;> simp
set_option maxHeartbeats 1000000 in
theorem number_calls (s : ByteArray) (m : Nat) (hm : m ≤ 10) (w : World) (ht : DimTabs w) (hs : s.size ≤ 9223372036854775807) :
    Calls Tryz.prog 32 #[.string s, .int .i64 (m : Int)] w fun e w' => e = nearE (numE s m) ∧ Below w.heap.size w w' := by
  have hem := toList_empty s
  have hl : s.data.toList.length = s.size := rfl
  by_cases h0 : s.size = 0
  · have hE : s.toList.isEmpty = true := by rw [hem]; exact decide_eq_true h0
    have hr : nearE (numE s m) = .panicked [{ v := .iface 23 (.int .i64 5), recovered := false }] := by
      have : s.data.toList = [] := List.length_eq_zero_iff.1 (by omega)
      unfold numE
      rw [this, if_pos (by omega)]
      rfl
    rw [hr]
    clear hem hl h0 hr ht
    go_enter Tryz.func32, Tryz.ntmps32
    go_wp2_with (go_at_call 23; with_reducible refine (need_false false _ _ rfl).mono ?_; rintro e w1 ⟨rfl, hd⟩)
    exact ⟨rfl, rfl, hd.below⟩
  · have hE : s.toList.isEmpty = false := by rw [hem]; exact decide_eq_false h0
    by_cases hsz : s.size ≤ m
    · have hM1 : decide ((s.size : Int) ≤ (m : Int)) = true := decide_eq_true (by omega)
      have hM2 : decide (s.size ≤ m) = true := decide_eq_true hsz
      have hnil : s.data.toList.isEmpty = false := by rw [← ByteArray.toList_eq]; exact hE
      have hT := fun w1 (hb : Below w.heap.size w w1) => (trim_calls s w1 hs (ht.below hb)).mono fun e w2 (h : _ ∧ _) => (⟨h.1, hb.trans (h.2.mono hb.size)⟩ : e = .returned (.string (Lib.trimF TR.isDig s)) ∧ Below w.heap.size w w2)
      by_cases ha : ∀ i, i < s.size → TR.isDig (s.get! i).toNat = true
      · obtain ⟨n, hn⟩ := decFrom_some s.data.toList 0 ((all_get s).2 ha)
        have hdn : Lib.decNat s.data.toList = some n := by unfold Lib.decNat; rw [hnil]; exact hn
        have hr : nearE (numE s m) = .returned (.int .i64 (n : Int)) := by unfold numE; rw [if_pos hsz, hdn]; rfl
        rw [hr]
        have hat : Lib.atoi s.data.toList = some (n : Int) := by
          have hall := (all_get s).2 ha
          cases hsl : s.data.toList with
          | nil => rw [hsl] at hl; simp at hl; omega
          | cons b r =>
            rw [hsl] at hall hdn
            have hb := hall b (by simp)
            have hb2 : 48 ≤ b.toNat := by unfold TR.isDig at hb; simp at hb; omega
            unfold Lib.atoi
            dsimp only
            have h1 : (b == 45) = false := by rw [beq_eq_false_iff_ne]; rintro rfl; revert hb2; decide
            have h2 : (b == 43) = false := by rw [beq_eq_false_iff_ne]; rintro rfl; revert hb2; decide
            rw [h1, h2, hdn]
            rfl
        have hA : ∀ w1, Below w.heap.size w w1 → Calls Tryz.prog 50 #[.string s] w1 fun e w2 => e = .returned (.tuple #[.int .i64 (n : Int), .nilIface]) ∧ Below w.heap.size w w2 := fun w1 hb => (Tryz.strconv_Atoi s (n : Int) (by omega) hat w1).mono (by
          rintro e w2 ⟨rfl, t, rfl⟩
          exact ⟨rfl, hb.trans ((bytes_below (Below.refl _ _) (Nat.le_refl _) 5 t).mono hb.size)⟩)
        have htr : Lib.trimF TR.isDig s = ⟨#[]⟩ := TR.trim_all s ha
        rw [htr] at hT
        have HT := Lib.hid hT
        have HA := Lib.hid hA
        clear hem hl hr hT hA htr hat hdn hn ha hnil ht
        go_enter Tryz.func32, Tryz.ntmps32
        go_wp2_with (first
          | (go_at_call 49; with_reducible refine (HT.out _ (Drawn0.below (by repeat (first | exact Drawn0.refl _ | apply Drawn0.step)))).mono ?_; rintro e w1 ⟨rfl, hb1⟩)
          | (go_at_call 50; with_reducible refine (HA.out _ hb1).mono ?_; rintro e w1 ⟨rfl, hb1⟩)
          | (go_at_call 23; with_reducible refine (need_true true _ _ rfl).mono ?_; rintro e w2 ⟨rfl, hd⟩; replace hb1 := hb1.trans (hd.below.mono hb1.size)))
        go_ret
        exact ⟨rfl, hb1⟩
      · have hr : nearE (numE s m) = .panicked [{ v := .iface 23 (.int .i64 5), recovered := false }] := by
          have hdn : Lib.decNat s.data.toList = none := by unfold Lib.decNat; rw [hnil]; exact decFrom_none _ 0 (fun h => ha ((all_get s).1 h))
          unfold numE; rw [if_pos hsz, hdn]; rfl
        rw [hr]
        have htr := TR.trim_some s ha
        have hTE : (Lib.trimF TR.isDig s).toList.isEmpty = false := by rw [toList_empty]; exact decide_eq_false (by omega)
        generalize Lib.trimF TR.isDig s = T at *
        have HT := Lib.hid hT
        clear hem hl hr hT htr ha hnil ht
        go_enter Tryz.func32, Tryz.ntmps32
        go_wp2_with (first
          | (go_at_call 49; with_reducible refine (HT.out _ (Drawn0.below (by repeat (first | exact Drawn0.refl _ | apply Drawn0.step)))).mono ?_; rintro e w1 ⟨rfl, hb1⟩)
          | (go_at_call 23; with_reducible refine (need_false false _ _ rfl).mono ?_; rintro e w2 ⟨rfl, hd⟩; replace hb1 := hb1.trans (hd.below.mono hb1.size)))
        exact ⟨rfl, rfl, hb1⟩
    · have hM1 : decide ((s.size : Int) ≤ (m : Int)) = false := decide_eq_false (by omega)
      have hM2 : decide (s.size ≤ m) = false := decide_eq_false hsz
      have hr : nearE (numE s m) = .panicked [{ v := .iface 23 (.int .i64 5), recovered := false }] := by unfold numE; rw [if_neg hsz]; rfl
      rw [hr]
      clear hem hl hr ht
      go_enter Tryz.func32, Tryz.ntmps32
      go_wp2_with (go_at_call 23; with_reducible refine (need_false false _ _ rfl).mono ?_; rintro e w1 ⟨rfl, hd⟩)
      exact ⟨rfl, rfl, hd.below⟩
end Go.Proofs.YtkkadhhmdgbpiaaGreatDoor.P
