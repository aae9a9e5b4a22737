/- lex.Quote, walked: what stands for a rune. Condition: the library's tables stand. -/
import Derived.Test.YtplkdfkahcpoeaaDoorLexForm
import Derived.Test.YtplkdfkahcpoeaaDoorLexTake
import Derived.Laws.Cover4
namespace Go.Proofs.YtplkdfkahcpoeaaDoor.P
open Go.Shelf Go.RowKit Go.Proofs.YtplkdfkahcpoeaaDoorW.PrintWords Go.Proofs.YtplkdfkahcpoeaaDoorW.PrintLast Go.Proofs.YtplkdfkahcpoeaaDoorW.PrintMore
set_option linter.unusedVariables false
set_option linter.unusedSimpArgs false
set_option maxRecDepth 100000
def runeB (c : Int) : Bool := decide (1 ≤ c) && (decide (c ≤ 1114111) && Lib.validRune c)
def quoteS (c : Int) : ByteArray × Int :=
  if runeB c = false then (⟨#[]⟩, 1) else if plainB c then (Utf8.encode c, 0) else if signR c = true ∨ c = 37 then (⟨#[92]⟩ ++ Utf8.encode c, 0) else (⟨#[92, 99, 104, 97, 114, 123]⟩ ++ hexF c ++ ⟨#[125]⟩, 0)
theorem odd_rune (c : Int) (h1 : 1 ≤ c) (h2 : runeB c = true) (h3 : plainB c = false) (h4 : signR c = false) (h5 : c ≠ 37) : c < 128 := by
  unfold runeB at h2
  simp only [Bool.and_eq_true, decide_eq_true_eq] at h2
  unfold plainB at h3
  rw [h4, h2.2.2, decide_eq_true h2.2.1, decide_eq_true h5] at h3
  simp only [Bool.true_and, Bool.and_true, Bool.not_false, Bool.and_eq_false_iff, decide_eq_false_iff_not] at h3
  omega
theorem hexF_size (c : Int) : (hexF c).size ≤ 2 := by
  unfold hexF
  split <;> simp [strOfNums, ByteArray.size]
set_option maxHeartbeats 4000000 in
theorem quote_bad (c : Int) (h : runeB c = false) (w : World) : Calls Tryd.prog 10 #[.int .i64 c] w fun e w' => e = .returned (.tuple #[.string ⟨#[]⟩, .int .i64 1]) ∧ Below w.heap.size w w' := by
  have HV := Lib.hid (fun w => Tryd.utf8_ValidRune c w)
  by_cases a1 : c < 1
  · have d1 : decide (c < 1) = true := decide_eq_true a1
    clear h
    go_enter Tryd.func10, Tryd.ntmps10
    go_wp2_with fail
    go_ret2
    exact ⟨rfl, Below.refl _ _⟩
  have d1 : decide (c < 1) = false := decide_eq_false a1
  by_cases a2 : 1114111 < c
  · have d2 : decide (1114111 < c) = true := decide_eq_true a2
    clear h
    go_enter Tryd.func10, Tryd.ntmps10
    go_wp2_with fail
    go_ret2
    exact ⟨rfl, Below.refl _ _⟩
  have d2 : decide (1114111 < c) = false := decide_eq_false a2
  have hv : Lib.validRune c = false := by
    unfold runeB at h
    rw [decide_eq_true (show 1 ≤ c by omega), decide_eq_true (show c ≤ 1114111 by omega)] at h
    simpa using h
  rw [hv] at HV
  have wr : IntKind.i32.wrap c = c := by rw [IntKind.wrap_i32]; omega
  clear h hv a1 a2
  go_enter Tryd.func10, Tryd.ntmps10
  go_wp2_with (go_at_call 24; refine (HV.out _).mono ?_; rintro e w' ⟨rfl, rfl⟩)
  go_ret2
  exact ⟨rfl, Below.refl _ _⟩
set_option maxHeartbeats 8000000 in
theorem quote_good (c : Int) (h : runeB c = true) (w : World) (hT : LexTabs w) : Calls Tryd.prog 10 #[.int .i64 c] w fun e w' => e = .returned (.tuple #[.string (quoteS c).1, .int .i64 (quoteS c).2]) ∧ Below w.heap.size w w' := by
  have hr := h
  unfold runeB at hr
  simp only [Bool.and_eq_true, decide_eq_true_eq] at hr
  obtain ⟨c1, c2, c3⟩ := hr
  have HV := Lib.hid (fun w => Tryd.utf8_ValidRune c w)
  rw [c3] at HV
  have HPL := Lib.hid (plain_calls c)
  have HSG := Lib.hid (sign_calls c (by omega) c3)
  have d1 : decide (c < 1) = false := decide_eq_false (by omega)
  have d2 : decide (1114111 < c) = false := decide_eq_false (by omega)
  have wr : IntKind.i32.wrap c = c := by rw [IntKind.wrap_i32]; omega
  have hQ : quoteS c = if plainB c then (Utf8.encode c, 0) else if signR c = true ∨ c = 37 then (⟨#[92]⟩ ++ Utf8.encode c, 0) else (⟨#[92, 99, 104, 97, 114, 123]⟩ ++ hexF c ++ ⟨#[125]⟩, 0) := by
    unfold quoteS
    rw [h, if_neg (by decide)]
  have hz := encode_size_le c
  obtain ⟨K, hK⟩ : ∃ K, Utf8.encode c = K := ⟨_, rfl⟩
  have kc : ∀ w : World, (convert 21 9 (.int .i32 c)).run Tryd.prog w = .ok (.string K) w := fun w => by
    rw [run_convert_int_string w 21 9 .i32 c (by rw [Tryd.underlying21]; rfl) Tryd.underlying9, hK]
  rw [hK] at hQ hz
  have hodd := odd_rune c c1 h
  cases hp : plainB c with
  | true =>
    rw [hp] at HPL hQ
    have HQ := Lib.hid hQ
    clear h c1 c2 c3 hQ hz hK hodd hp hT
    go_enter Tryd.func10, Tryd.ntmps10
    go_wp2_with (first | (go_at_call 24; refine (HV.out _).mono ?_; rintro e w' ⟨rfl, rfl⟩) | (go_at_call 13; refine (HPL.out _).mono ?_; rintro e w1 ⟨rfl, hb1⟩))
    go_ret2
    rw [HQ.out]
    exact ⟨rfl, hb1⟩
  | false =>
  rw [hp] at HPL hQ
  have hodd := hodd hp
  cases hs : signR c with
  | true =>
    rw [hs] at HSG hQ
    have s2 := eq_false (show ¬ 9223372036854775807 < 1 + K.size by omega)
    have HQ := Lib.hid hQ
    clear h c1 c2 c3 hQ hz hK hodd hp hs hT
    go_enter Tryd.func10, Tryd.ntmps10
    go_wp2_with (first | (go_at_call 24; refine (HV.out _).mono ?_; rintro e w' ⟨rfl, rfl⟩) | (go_at_call 13; refine (HPL.out _).mono ?_; rintro e w1 ⟨rfl, hb1⟩; have HB1 := Lib.hid hb1; clear hb1) | (go_at_call 25; refine (HSG.out _).mono ?_; rintro e w2 ⟨rfl, hb2⟩))
    go_ret2
    rw [HQ.out]
    exact ⟨rfl, HB1.out.trans (hb2.mono HB1.out.size)⟩
  | false =>
  rw [hs] at HSG hQ
  have hodd := hodd hs
  by_cases h7 : c = 37
  · have e1 : (c == 37) = true := beq_iff_eq.mpr h7
    rw [if_neg (by decide), if_pos (.inr h7)] at hQ
    have s2 := eq_false (show ¬ 9223372036854775807 < 1 + K.size by omega)
    have HQ := Lib.hid hQ
    clear h c1 c2 c3 hQ hz hK hodd hp hs h7 hT
    go_enter Tryd.func10, Tryd.ntmps10
    go_wp2_with (first | (go_at_call 24; refine (HV.out _).mono ?_; rintro e w' ⟨rfl, rfl⟩) | (go_at_call 13; refine (HPL.out _).mono ?_; rintro e w1 ⟨rfl, hb1⟩; have HB1 := Lib.hid hb1; clear hb1) | (go_at_call 25; refine (HSG.out _).mono ?_; rintro e w2 ⟨rfl, hb2⟩))
    go_ret2
    rw [HQ.out]
    exact ⟨rfl, HB1.out.trans (hb2.mono HB1.out.size)⟩
  · have e1 : (c == 37) = false := beq_eq_false_iff_ne.mpr h7
    rw [if_neg (by decide), if_neg (by rintro (h | h); cases h; exact h7 h)] at hQ
    have HF := Lib.hid (fun w' (hb : Below w.heap.size w w') => form_calls c c1 (hodd h7) w' (hT.below hb))
    have hz := hexF_size c
    generalize hexF c = X at HF hQ hz
    have s2 := eq_false (show ¬ 9223372036854775807 < 6 + X.size by omega)
    have s4 := eq_false (show ¬ 9223372036854775807 < 6 + X.size + 1 by omega)
    have wr2 : IntKind.i64.wrap c = c := IntWalk.i64_in _ (by omega)
    have HQ := Lib.hid hQ
    clear h c1 c2 c3 hQ hz hK hodd hp hs h7 hT
    go_enter Tryd.func10, Tryd.ntmps10
    go_wp2_with (first | (go_at_call 24; refine (HV.out _).mono ?_; rintro e w' ⟨rfl, rfl⟩) | (go_at_call 13; refine (HPL.out _).mono ?_; rintro e w1 ⟨rfl, hb1⟩; have HB1 := Lib.hid hb1; clear hb1) | (go_at_call 25; refine (HSG.out _).mono ?_; rintro e w2 ⟨rfl, hb2⟩; have HB2 := Lib.hid (HB1.out.trans (hb2.mono HB1.out.size)); clear hb2) | (go_at_call 26; refine (HF.out _ HB2.out).mono ?_; rintro e w3 ⟨rfl, hb3⟩))
    go_ret2
    rw [HQ.out]
    exact ⟨rfl, HB2.out.trans (hb3.mono HB2.out.size)⟩
theorem quote_calls (c : Int) (w : World) (hT : LexTabs w) : Calls Tryd.prog 10 #[.int .i64 c] w fun e w' => e = .returned (.tuple #[.string (quoteS c).1, .int .i64 (quoteS c).2]) ∧ Below w.heap.size w w' := by
  cases h : runeB c with
  | true => exact quote_good c h w hT
  | false =>
    have hQ : quoteS c = (⟨#[]⟩, 1) := by unfold quoteS; rw [if_pos h]
    rw [hQ]
    exact quote_bad c h w
end Go.Proofs.YtplkdfkahcpoeaaDoor.P
