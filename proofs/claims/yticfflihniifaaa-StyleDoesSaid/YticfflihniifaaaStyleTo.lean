/- style's steps: Cramp, Sup, Sub, Num, Den, walked. -/
import Derived.Test.YticfflihniifaaaPx0
import Derived.Test.YticfflihniifaaaPx1
import Derived.Lib.Hide
import Derived.Laws.Rows
import Derived.Deep.WholeRow
import Derived.Shelf.Abstract
namespace Go.Proofs.Yticfflihniifaaa.P
open Go.RowKit Go.Proofs.YticfflihniifaaaW.PrintWords Go.Proofs.YticfflihniifaaaW.PrintLast Go.Proofs.YticfflihniifaaaW.PrintMore
set_option linter.unusedVariables false
set_option linter.unusedSimpArgs false
def supV (c : Int) : Int := if c < 4 then 4 + c % 2 else 6 + c % 2
def numV (c : Int) : Int := if c < 6 then c + 2 else c
def crampV (c : Int) : Int := if c % 2 = 0 then c + 1 else c
def StepOK (fn : Nat) (F : Int → Int) : Prop := ∀ c : Int, 0 ≤ c → c < 8 → ∀ w, Calls Try.prog fn #[.int .i64 c] w fun e w' => e = .returned (.int .i64 (F c)) ∧ Below w.heap.size w w'
theorem cramp_ok : StepOK 31 crampV := by
  intro c h0 h8 w
  obtain rfl | rfl | rfl | rfl | rfl | rfl | rfl | rfl : c = 0 ∨ c = 1 ∨ c = 2 ∨ c = 3 ∨ c = 4 ∨ c = 5 ∨ c = 6 ∨ c = 7 := by omega
  all_goals
    go_enter Try.func31, Try.ntmps31
    go_wp2_with fail
    go_ret
    exact ⟨rfl, Below.refl _ _⟩
def stepsA : Array Value := #[.int .i64 4, .int .i64 4, .int .i64 6, .int .i64 6, .int .i64 2, .int .i64 4, .int .i64 6, .int .i64 6]
theorem steps_calls (w : World) : Calls Try.prog 56 #[] w fun e w' => e = .returned (.agg stepsA) ∧ Below w.heap.size w w' := by
  go_enter Try.func56, Try.ntmps56
  go_wp2_with fail
  refine bodyPost_ret (results_cell_row (p := 0) (ty := 72) rfl _ _ w.heap.size 72 stepsA (0, 0) (.array 2 71) (by kernel_rfl) (heap_alloc_new w _) (by kernel_rfl) rfl (by kernel_rfl)) rfl ?_
  exact ⟨rfl, (Below.refl w.heap.size w).alloc (Nat.le_refl _) _⟩
def rowA : Array Value := #[.int .i64 4, .int .i64 4, .int .i64 6, .int .i64 6]
def rowB : Array Value := #[.int .i64 2, .int .i64 4, .int .i64 6, .int .i64 6]
theorem sup_ok : StepOK 36 supV := by
  intro c h0 h8 w
  have i0 : ∀ W, (Instr.index 72 (.agg stepsA) (.int .i64 0)).run Try.prog W = .ok (.agg rowA) W := fun W => by kernel_rfl
  have j0 : ∀ W, (Instr.index 71 (.agg rowA) (.int .i64 0)).run Try.prog W = .ok (.int .i64 4) W := fun W => by kernel_rfl
  have j1 : ∀ W, (Instr.index 71 (.agg rowA) (.int .i64 1)).run Try.prog W = .ok (.int .i64 4) W := fun W => by kernel_rfl
  have j2 : ∀ W, (Instr.index 71 (.agg rowA) (.int .i64 2)).run Try.prog W = .ok (.int .i64 6) W := fun W => by kernel_rfl
  have j3 : ∀ W, (Instr.index 71 (.agg rowA) (.int .i64 3)).run Try.prog W = .ok (.int .i64 6) W := fun W => by kernel_rfl
  have hS : ∀ w, Calls Try.prog 56 #[] w fun e w' => e = .returned (.agg stepsA) ∧ Below w.heap.size w w' := steps_calls
  have HS := Lib.hid hS
  clear hS
  generalize stepsA = SA at i0 HS
  generalize rowA = RA at i0 j0 j1 j2 j3
  obtain rfl | rfl | rfl | rfl | rfl | rfl | rfl | rfl : c = 0 ∨ c = 1 ∨ c = 2 ∨ c = 3 ∨ c = 4 ∨ c = 5 ∨ c = 6 ∨ c = 7 := by omega
  all_goals
    go_enter Try.func36, Try.ntmps36
    go_wp2_with (go_at_call 56; refine (HS.out _).mono ?_; rintro e w1 ⟨rfl, hb⟩)
    go_ret
    exact ⟨rfl, hb⟩
theorem num_ok : StepOK 37 numV := by
  intro c h0 h8 w
  have i0 : ∀ W, (Instr.index 72 (.agg stepsA) (.int .i64 1)).run Try.prog W = .ok (.agg rowB) W := fun W => by kernel_rfl
  have j0 : ∀ W, (Instr.index 71 (.agg rowB) (.int .i64 0)).run Try.prog W = .ok (.int .i64 2) W := fun W => by kernel_rfl
  have j1 : ∀ W, (Instr.index 71 (.agg rowB) (.int .i64 1)).run Try.prog W = .ok (.int .i64 4) W := fun W => by kernel_rfl
  have j2 : ∀ W, (Instr.index 71 (.agg rowB) (.int .i64 2)).run Try.prog W = .ok (.int .i64 6) W := fun W => by kernel_rfl
  have j3 : ∀ W, (Instr.index 71 (.agg rowB) (.int .i64 3)).run Try.prog W = .ok (.int .i64 6) W := fun W => by kernel_rfl
  have hS : ∀ w, Calls Try.prog 56 #[] w fun e w' => e = .returned (.agg stepsA) ∧ Below w.heap.size w w' := steps_calls
  have HS := Lib.hid hS
  clear hS
  generalize stepsA = SA at i0 HS
  generalize rowB = RA at i0 j0 j1 j2 j3
  obtain rfl | rfl | rfl | rfl | rfl | rfl | rfl | rfl : c = 0 ∨ c = 1 ∨ c = 2 ∨ c = 3 ∨ c = 4 ∨ c = 5 ∨ c = 6 ∨ c = 7 := by omega
  all_goals
    go_enter Try.func37, Try.ntmps37
    go_wp2_with (go_at_call 56; refine (HS.out _).mono ?_; rintro e w1 ⟨rfl, hb⟩)
    go_ret
    exact ⟨rfl, hb⟩
theorem is_style (c : Int) : style_Is.f c = some (decide (0 ≤ c ∧ c < 8)) := by
  unfold style_Is.f
  by_cases h : c ≥ 0
  · rw [if_pos h]; simp; omega
  · rw [if_neg h]; simp; omega
theorem to_bad (a : Int) (A : Option Addr) (n cap : Nat) (w : World) (h : ¬ (0 ≤ a ∧ a < 8)) :
    Calls Try.prog 30 #[.int .i64 a, .slice A n cap] w fun e w' => e = .returned (.int .i64 a) ∧ Below w.heap.size w w' := by
  have hI := is_style a
  rw [decide_eq_false h] at hI
  have HI := Lib.hid hI
  clear hI h
  go_enter Try.func30, Try.ntmps30
  go_wp2_with (go_at_call 16; refine (style_Is.calls _ _ _ HI.out).mono ?_; rintro e w1 ⟨rfl, hd⟩)
  go_ret
  exact ⟨rfl, hd.below⟩
theorem to_good (a : Int) (g n cap : Nat) (fs : Nat → Nat) (v : Nat → Int) (w : World) (ha : 0 ≤ a ∧ a < 8) (h0 : v 0 = a) (hn : n ≤ 2)
    (hc : ∀ k, k < n → w.cell? ⟨g, k, none⟩ = some (.func (.func (fs k)) #[] #[]))
    (hen : ∀ k, k < n → ∀ args w, (callFunc (fs k) args).run Try.prog w = .ok (.enter (fs k) args) w)
    (hs : ∀ k, k < n → ∀ w, Calls Try.prog (fs k) #[.int .i64 (v k)] w fun e w' => e = .returned (.int .i64 (v (k + 1))) ∧ Below w.heap.size w w') :
    Calls Try.prog 30 #[.int .i64 a, .slice (some ⟨g, 0, none⟩) n cap] w fun e w' => e = .returned (.int .i64 (v n)) ∧ Below w.heap.size w w' := by
  have hI := is_style a
  rw [decide_eq_true ha] at hI
  have HI := Lib.hid hI
  have HC := Lib.hid hc
  have HS := Lib.hid hs
  have H0 := Lib.hid h0
  have HE := Lib.hid hen
  clear hI hc hs h0 ha hen
  go_enter Try.func30, Try.ntmps30
  go_wp2_with (go_at_call 16; refine (style_Is.calls _ _ _ HI.out).mono ?_; rintro e w1 ⟨rfl, hd⟩; have HD := Lib.hid hd.below; clear hd)
  go_loopw [15, 5] (fun i s wr => ∃ k : Nat, k ≤ n ∧ i = .int .i64 k ∧ s = .int .i64 (v k) ∧ Hid (Below w.heap.size w wr)) (fun i _ _ => n - (intOf i).toNat)
  case atStart => exact ⟨0, by omega, rfl, by rw [H0.out], HD⟩
  case round =>
    clear HD
    obtain ⟨k, hk, rfl, rfl, HB⟩ := hrel
    by_cases hlt : k < n
    · have hcell : wr.cell? ⟨g, k, none⟩ = some (.func (.func (fs k)) #[] #[]) := by
        have h := HC.out k hlt
        rw [← h]
        exact HB.out.cell (World.block_lt_of_cell? _ _ h)
      have he := HE.out k hlt
      have hcl := HS.out k hlt wr
      have HCL := Lib.hid hcl
      clear hcl
      go_wp2_with fail
      refine HCL.out.mono ?_
      rintro e w2 ⟨rfl, hb⟩
      have HB2 := Lib.hid (HB.out.trans (hb.mono HB.out.size))
      clear hb
      go_wp2_with fail
      go_roundw
      case rel => exact ⟨k + 1, by omega, by go_num, rfl, HB2⟩
      case measure => simp [intOf]; omega
    · obtain rfl : k = n := by omega
      go_wp2_with fail
      go_ret
      exact ⟨rfl, HB.out⟩
theorem enter_cramp : ∀ args w, (callFunc 31 args).run Try.prog w = .ok (.enter 31 args) w := enters_of Try.func31 (by kernel_rfl) rfl
theorem enter_sup : ∀ args w, (callFunc 36 args).run Try.prog w = .ok (.enter 36 args) w := enters_of Try.func36 (by kernel_rfl) rfl
theorem enter_num : ∀ args w, (callFunc 37 args).run Try.prog w = .ok (.enter 37 args) w := enters_of Try.func37 (by kernel_rfl) rfl
/-- One step. -/
theorem to_one (a : Int) (g f : Nat) (cap : Nat) (F : Int → Int) (w : World) (hc : w.cell? ⟨g, 0, none⟩ = some (.func (.func f) #[] #[]))
    (hen : ∀ args w, (callFunc f args).run Try.prog w = .ok (.enter f args) w) (hs : StepOK f F) :
    Calls Try.prog 30 #[.int .i64 a, .slice (some ⟨g, 0, none⟩) 1 cap] w fun e w' => e = .returned (.int .i64 (if 0 ≤ a ∧ a < 8 then F a else a)) ∧ Below w.heap.size w w' := by
  by_cases h : 0 ≤ a ∧ a < 8
  · rw [if_pos h]
    refine to_good a g 1 cap (fun _ => f) (fun k => if k = 0 then a else F a) w h rfl (by decide) (fun k hk => ?_) (fun k hk => hen) (fun k hk w => ?_)
    · obtain rfl : k = 0 := by omega
      exact hc
    · obtain rfl : k = 0 := by omega
      exact hs a h.1 h.2 w
  · rw [if_neg h]; exact to_bad a _ _ _ w h
/-- Two steps. -/
theorem to_two (a : Int) (g f1 f2 : Nat) (cap : Nat) (F1 F2 : Int → Int) (w : World) (hc1 : w.cell? ⟨g, 0, none⟩ = some (.func (.func f1) #[] #[])) (hc2 : w.cell? ⟨g, 1, none⟩ = some (.func (.func f2) #[] #[]))
    (hen1 : ∀ args w, (callFunc f1 args).run Try.prog w = .ok (.enter f1 args) w) (hen2 : ∀ args w, (callFunc f2 args).run Try.prog w = .ok (.enter f2 args) w) (hs1 : StepOK f1 F1) (hs2 : StepOK f2 F2) (hF : ∀ c, 0 ≤ c → c < 8 → 0 ≤ F1 c ∧ F1 c < 8) :
    Calls Try.prog 30 #[.int .i64 a, .slice (some ⟨g, 0, none⟩) 2 cap] w fun e w' => e = .returned (.int .i64 (if 0 ≤ a ∧ a < 8 then F2 (F1 a) else a)) ∧ Below w.heap.size w w' := by
  by_cases h : 0 ≤ a ∧ a < 8
  · rw [if_pos h]
    have h1 := hF a h.1 h.2
    refine to_good a g 2 cap (fun k => if k = 0 then f1 else f2) (fun k => if k = 0 then a else if k = 1 then F1 a else F2 (F1 a)) w h rfl (by decide) (fun k hk => ?_) (fun k hk => ?_) (fun k hk w => ?_)
    · obtain rfl | rfl : k = 0 ∨ k = 1 := by omega
      · exact hc1
      · exact hc2
    · obtain rfl | rfl : k = 0 ∨ k = 1 := by omega
      · exact hen1
      · exact hen2
    · obtain rfl | rfl : k = 0 ∨ k = 1 := by omega
      · exact hs1 a h.1 h.2 w
      · exact hs2 (F1 a) h1.1 h1.2 w
  · rw [if_neg h]; exact to_bad a _ _ _ w h
theorem sup_bound (c : Int) (h0 : 0 ≤ c) (h8 : c < 8) : 0 ≤ supV c ∧ supV c < 8 := by unfold supV; split <;> omega
theorem num_bound (c : Int) (h0 : 0 ≤ c) (h8 : c < 8) : 0 ≤ numV c ∧ numV c < 8 := by unfold numV; split <;> omega
def style_Cramp.f (a : Int) : Option Int := some (if 0 ≤ a ∧ a < 8 then crampV a else a)
theorem style_Cramp.calls (a0 : Int) (r : Int) (w : World) (h : style_Cramp.f a0 = some r) :
    Calls Try.prog 13 #[.int .i64 a0] w fun e w' => e = .returned (.int .i64 r) ∧ Below w.heap.size w w' := by
  have hr := Option.some.inj h
  clear h
  go_enter Try.func13, Try.ntmps13
  go_wp2_with (go_at_call 30; refine (to_one a0 w.heap.size 31 1 crampV _ (by simp only [World.cell?, heap_alloc_new]; rfl) enter_cramp cramp_ok).mono ?_; rintro e w1 ⟨rfl, hb⟩; rw [hr]; clear hr)
  go_ret
  exact ⟨rfl, ((Below.refl w.heap.size w).alloc (Nat.le_refl _) _).trans (hb.mono (by simp))⟩
def style_Sup.f (a : Int) : Option Int := some (if 0 ≤ a ∧ a < 8 then supV a else a)
theorem style_Sup.calls (a0 : Int) (r : Int) (w : World) (h : style_Sup.f a0 = some r) :
    Calls Try.prog 19 #[.int .i64 a0] w fun e w' => e = .returned (.int .i64 r) ∧ Below w.heap.size w w' := by
  have hr := Option.some.inj h
  clear h
  go_enter Try.func19, Try.ntmps19
  go_wp2_with (go_at_call 30; refine (to_one a0 w.heap.size 36 1 supV _ (by simp only [World.cell?, heap_alloc_new]; rfl) enter_sup sup_ok).mono ?_; rintro e w1 ⟨rfl, hb⟩; rw [hr]; clear hr)
  go_ret
  exact ⟨rfl, ((Below.refl w.heap.size w).alloc (Nat.le_refl _) _).trans (hb.mono (by simp))⟩
def style_Num.f (a : Int) : Option Int := some (if 0 ≤ a ∧ a < 8 then numV a else a)
theorem style_Num.calls (a0 : Int) (r : Int) (w : World) (h : style_Num.f a0 = some r) :
    Calls Try.prog 23 #[.int .i64 a0] w fun e w' => e = .returned (.int .i64 r) ∧ Below w.heap.size w w' := by
  have hr := Option.some.inj h
  clear h
  go_enter Try.func23, Try.ntmps23
  go_wp2_with (go_at_call 30; refine (to_one a0 w.heap.size 37 1 numV _ (by simp only [World.cell?, heap_alloc_new]; rfl) enter_num num_ok).mono ?_; rintro e w1 ⟨rfl, hb⟩; rw [hr]; clear hr)
  go_ret
  exact ⟨rfl, ((Below.refl w.heap.size w).alloc (Nat.le_refl _) _).trans (hb.mono (by simp))⟩
def style_Sub.f (a : Int) : Option Int := some (if 0 ≤ a ∧ a < 8 then crampV (supV a) else a)
theorem style_Sub.calls (a0 : Int) (r : Int) (w : World) (h : style_Sub.f a0 = some r) :
    Calls Try.prog 21 #[.int .i64 a0] w fun e w' => e = .returned (.int .i64 r) ∧ Below w.heap.size w w' := by
  have hr := Option.some.inj h
  clear h
  go_enter Try.func21, Try.ntmps21
  go_wp2_with (go_at_call 30; refine (to_two a0 w.heap.size 36 31 2 supV crampV _ (by simp only [World.cell?, heap_alloc_new]; rfl) (by simp only [World.cell?, heap_alloc_new]; rfl) enter_sup enter_cramp sup_ok cramp_ok sup_bound).mono ?_; rintro e w1 ⟨rfl, hb⟩; rw [hr]; clear hr)
  go_ret
  exact ⟨rfl, ((Below.refl w.heap.size w).alloc (Nat.le_refl _) _).trans (hb.mono (by simp))⟩
def style_Den.f (a : Int) : Option Int := some (if 0 ≤ a ∧ a < 8 then crampV (numV a) else a)
theorem style_Den.calls (a0 : Int) (r : Int) (w : World) (h : style_Den.f a0 = some r) :
    Calls Try.prog 25 #[.int .i64 a0] w fun e w' => e = .returned (.int .i64 r) ∧ Below w.heap.size w w' := by
  have hr := Option.some.inj h
  clear h
  go_enter Try.func25, Try.ntmps25
  go_wp2_with (go_at_call 30; refine (to_two a0 w.heap.size 37 31 2 numV crampV _ (by simp only [World.cell?, heap_alloc_new]; rfl) (by simp only [World.cell?, heap_alloc_new]; rfl) enter_num enter_cramp num_ok cramp_ok num_bound).mono ?_; rintro e w1 ⟨rfl, hb⟩; rw [hr]; clear hr)
  go_ret
  exact ⟨rfl, ((Below.refl w.heap.size w).alloc (Nat.le_refl _) _).trans (hb.mono (by simp))⟩
end Go.Proofs.Yticfflihniifaaa.P
