/- Layer 19: the law LexQuotes, walked: what is quoted of a rune is read as that rune. Condition: the library's tables stand. -/
import Derived.Test.YtplkdfkahcpoeaaDoorLexTop
import Derived.Test.YtplkdfkahcpoeaaDoorLexRune
namespace Go.Proofs.YtplkdfkahcpoeaaDoor.P
open Go.Shelf Go.RowKit Go.Proofs.YtplkdfkahcpoeaaDoorW.PrintWords Go.Proofs.YtplkdfkahcpoeaaDoorW.PrintLast Go.Proofs.YtplkdfkahcpoeaaDoorW.PrintMore
set_option linter.unusedVariables false
set_option linter.unusedSimpArgs false
set_option maxRecDepth 100000
attribute [local go_sem high] eqA37
set_option maxHeartbeats 4000000 in
theorem quotes_bad (c : Int) (hc : runeB c = false) (w : World) (hT : LexTabs w) : Calls Tryd.prog 4 #[.int .i64 c] w fun e w' => e = .returned (.bool true) ∧ Below w.heap.size w w' := by
  have HQ := Lib.hid (quote_bad c hc)
  have hp : plainB c = false := by
    cases hp : plainB c with
    | false => rfl
    | true =>
      unfold plainB at hp
      unfold runeB at hc
      simp only [Bool.and_eq_true, decide_eq_true_eq] at hp
      rw [decide_eq_true (show 1 ≤ c by omega), decide_eq_true hp.2.2.1, hp.2.2.2.1] at hc
      cases hc
  have HP := Lib.hid (plain_calls c)
  rw [hp] at HP
  have HTB := Lib.hid (fun (w' : World) (hb : Below w.heap.size w w') => hT.below hb)
  have HX := Lib.hid lexed_calls
  clear hc hp hT
  go_enter Tryd.func4, Tryd.ntmps4
  go_wp2_with (first | (go_at_call 10; refine (HQ.out _).mono ?_; rintro e w1 ⟨rfl, hb⟩; have HB1 := Lib.hid hb; clear hb) | (go_at_call 15; refine (HX.out _ (HTB.out _ HB1.out)).mono ?_; rintro e w2 ⟨rfl, hb⟩; have HB2 := Lib.hid (HB1.out.trans (hb.mono HB1.out.size)); clear hb) | (go_at_call 13; refine (HP.out _).mono ?_; rintro e w3 ⟨rfl, hb⟩))
  go_ret
  exact ⟨rfl, HB2.out.trans (hb.mono HB2.out.size)⟩
set_option maxHeartbeats 8000000 in
theorem quotes_one (c : Int) (s : ByteArray) (hq : quoteS c = (s, 0)) (ha : allS s = ([⟨1, c, ⟨#[]⟩, 0⟩], (s.size : Int), 0)) (b : Bool) (hp : plainB c = b)
    (hc : b = true ∨ c = 123 ∨ c = 125 ∨ c = 94 ∨ c = 95 ∨ c = 38 ∨ c = 37) (w : World) (hT : LexTabs w) : Calls Tryd.prog 4 #[.int .i64 c] w fun e w' => e = .returned (.bool true) ∧ Below w.heap.size w w' := by
  have HQ := Lib.hid (q_calls c s 0 hq)
  have HP := Lib.hid (plain_calls c)
  rw [hp] at HP
  have HTB := Lib.hid (fun (w' : World) (hb : Below w.heap.size w w') => hT.below hb)
  have HX := Lib.hid lexed_calls
  have HA := Lib.hid (all_reads s)
  rw [ha] at HA
  simp only [List.length_cons, List.length_nil, Nat.zero_add] at HA
  clear hq ha hp hT
  rcases hc with rfl | rfl | rfl | rfl | rfl | rfl | rfl
  rotate_left
  all_goals
    try cases b
    all_goals
      go_enter Tryd.func4, Tryd.ntmps4
      go_wp2_with fail
      refine (HQ.out _ (HTB.out _ (Below.refl _ _))).mono ?_
      rintro e w1 ⟨rfl, hb⟩
      have HB1 := Lib.hid hb
      clear hb
      go_wp2_with fail
      refine (HA.out _ (HTB.out _ HB1.out)).mono ?_
      rintro e w2 ⟨A, cp, rfl, hcp, hC, hb⟩
      have HB2 := Lib.hid (HB1.out.trans (hb.mono HB1.out.size))
      have HC := Lib.hid hC
      clear hb hcp hC
      go_wp2_with fail
      refine (HP.out _).mono ?_
      rintro e w3 ⟨rfl, hb⟩
      have HB3 := Lib.hid (HB2.out.trans (hb.mono HB2.out.size))
      have HC3 := Lib.hid (Kd.C_below HC.out hb)
      clear hb
      go_wp2_with fail
      refine (HX.out _ (HTB.out _ HB3.out)).mono ?_
      rintro e w4 ⟨rfl, hb⟩
      have HB4 := Lib.hid (HB3.out.trans (hb.mono HB3.out.size))
      obtain ⟨ad, rfl, x0, x1, x2, x3⟩ := at_T37 (Kd.C_below HC3.out hb) 0 (by decide) (by decide)
      simp [rd_T37, Addr.add] at x0 x1 x2 x3
      clear hb
      go_wp2_with fail
      go_ret
      exact ⟨rfl, HB4.out⟩
set_option maxHeartbeats 8000000 in
theorem quotes_more (c : Int) (s : ByteArray) (hq : quoteS c = (s, 0)) (L : List S37) (ha : allS s = (L, (s.size : Int), 0)) (hp : plainB c = false) (h1 : signR c = false) (h2 : c ≠ 37)
    (hl : 4 ≤ L.length) (hl2 : L.length ≤ 1000000000) (hk : (rd_T37 L 0).f0 = 2) (hwd : (rd_T37 L 0).f2 = ⟨#[99, 104, 97, 114]⟩) (w : World) (hT : LexTabs w) : Calls Tryd.prog 4 #[.int .i64 c] w fun e w' => e = .returned (.bool true) ∧ Below w.heap.size w w' := by
  have HQ := Lib.hid (q_calls c s 0 hq)
  have HP := Lib.hid (plain_calls c)
  rw [hp] at HP
  have HTB := Lib.hid (fun (w' : World) (hb : Below w.heap.size w w') => hT.below hb)
  have HX := Lib.hid lexed_calls
  have HA := Lib.hid (all_reads s)
  rw [ha] at HA
  simp only at HA
  unfold signR at h1
  simp only [Bool.or_eq_false_iff, decide_eq_false_iff_not] at h1
  obtain ⟨s1, s2, s3, s4, s5⟩ := h1
  have e1 : (c == 123) = false := beq_eq_false_iff_ne.mpr s1
  have e2 : (c == 125) = false := beq_eq_false_iff_ne.mpr s2
  have e3 : (c == 94) = false := beq_eq_false_iff_ne.mpr s3
  have e4 : (c == 95) = false := beq_eq_false_iff_ne.mpr s4
  have e5 : (c == 38) = false := beq_eq_false_iff_ne.mpr s5
  have e6 : (c == 37) = false := beq_eq_false_iff_ne.mpr h2
  obtain ⟨n, hn⟩ : ∃ n : Int, (L.length : Int) = n := ⟨_, rfl⟩
  have d1 : decide ((4 : Int) ≤ (L.length : Int)) = true := decide_eq_true (by omega)
  have d2 : decide (4 ≤ L.length) = true := decide_eq_true hl
  have d3 : ((L.length : Int) == 0) = false := beq_eq_false_iff_ne.mpr (by omega)
  have d4 : (L.length == 0) = false := beq_eq_false_iff_ne.mpr (by omega)
  have g0 := eq_true (show (0 : Int) < (L.length : Int) by omega)
  have g1 := eq_true (show 0 < L.length by omega)
  have hne : ¬ L = [] := by intro e; rw [e] at hl; simp at hl
  have HL := Lib.hid hl
  have HK := Lib.hid hk
  have HW := Lib.hid hwd
  clear hq ha hp hT s1 s2 s3 s4 s5 h2 hl hk hwd hn n
  go_enter Tryd.func4, Tryd.ntmps4
  go_wp2_with fail
  refine (HQ.out _ (HTB.out _ (Below.refl _ _))).mono ?_
  rintro e w1 ⟨rfl, hb⟩
  have HB1 := Lib.hid hb
  clear hb
  go_wp2_with fail
  refine (HA.out _ (HTB.out _ HB1.out)).mono ?_
  rintro e w2 ⟨A, cp, rfl, hcp, hC, hb⟩
  have HB2 := Lib.hid (HB1.out.trans (hb.mono HB1.out.size))
  have HC := Lib.hid hC
  clear hb hcp hC
  go_wp2_with fail
  refine (HP.out _).mono ?_
  rintro e w3 ⟨rfl, hb⟩
  have HB3 := Lib.hid (HB2.out.trans (hb.mono HB2.out.size))
  have HC3 := Lib.hid (Kd.C_below HC.out hb)
  clear hb
  go_wp2_with fail
  refine (HX.out _ (HTB.out _ HB3.out)).mono ?_
  rintro e w4 ⟨rfl, hb⟩
  have HB4 := Lib.hid (HB3.out.trans (hb.mono HB3.out.size))
  obtain ⟨ad, rfl, x0, x1, x2, x3⟩ := at_T37 (Kd.C_below HC3.out hb) 0 (by decide) (by have := HL.out; omega)
  rw [HK.out] at x0
  rw [HW.out] at x2
  simp [Addr.add] at x0 x1 x2 x3
  clear hb x1 x3
  go_wp2_with fail
  go_ret
  exact ⟨rfl, HB4.out⟩
/-! ### the plain law -/
/-- What is asked of a rune below 128. -/
def chkQ (c : Int) : Bool :=
  if runeB c then decide ((quoteS c).2 = 0) && (decide ((allL (bl (quoteS c).1)).2.2 = 0) && (decide ((allL (bl (quoteS c).1)).2.1 = ((quoteS c).1.size : Int)) &&
    (if plainB c || (signR c || decide (c = 37)) then (match (allL (bl (quoteS c).1)).1 with | [x] => decide (x.f0 = 1) && (decide (x.f1 = c) && (decide (x.f2.data.toList = []) && decide (x.f3 = 0))) | _ => false)
     else decide (4 ≤ (allL (bl (quoteS c).1)).1.length) && (decide ((allL (bl (quoteS c).1)).1.length ≤ 100) && (decide ((rd_T37 (allL (bl (quoteS c).1)).1 0).f0 = 2) && decide ((rd_T37 (allL (bl (quoteS c).1)).1 0).f2.data.toList = [99, 104, 97, 114]))))))
  else true
theorem chkQ_all : ∀ c : Fin 128, chkQ (c.val : Int) = true := by decide +kernel
theorem quotes_law (c : Int) (w : World) (hT : LexTabs w) : Calls Tryd.prog 4 #[.int .i64 c] w fun e w' => e = .returned (.bool true) ∧ Below w.heap.size w w' := by
  cases hr : runeB c with
  | false => exact quotes_bad c hr w hT
  | true =>
  obtain ⟨h0, hN⟩ := (runeB_N c).1 hr
  by_cases hlt : c < 128
  · have hchk := chkQ_all ⟨c.toNat, by omega⟩
    rw [show ((c.toNat : Nat) : Int) = c by omega] at hchk
    unfold chkQ at hchk
    rw [if_pos hr] at hchk
    obtain ⟨s, n, hq⟩ : ∃ s n, quoteS c = (s, n) := ⟨_, _, rfl⟩
    rw [hq] at hchk
    simp only [Bool.and_eq_true, decide_eq_true_eq] at hchk
    obtain ⟨rfl, he, hm, hrest⟩ := hchk
    have hsz : s.size ≤ 65536 := by
      have h1 : quoteS c = (s, 0) := hq
      unfold quoteS at h1
      rw [if_neg (by simp [hr])] at h1
      have e4 := encode_size_le c
      have e2 := hexF_size c
      split at h1
      · cases h1; omega
      · split at h1
        · cases h1; rw [ByteArray.size_append, show (⟨#[92]⟩ : ByteArray).size = 1 from rfl]; omega
        · cases h1; rw [ByteArray.size_append, ByteArray.size_append, show (⟨#[92, 99, 104, 97, 114, 123]⟩ : ByteArray).size = 6 from rfl, show (⟨#[125]⟩ : ByteArray).size = 1 from rfl]; omega
    have ha := allS_L s hsz
    obtain ⟨L, m, e, hL⟩ : ∃ L m e, allL (bl s) = (L, m, e) := ⟨_, _, _, rfl⟩
    rw [hL] at he hm hrest ha
    simp only at he hm hrest
    subst he hm
    by_cases hk : (plainB c || (signR c || decide (c = 37))) = true
    · rw [if_pos hk] at hrest
      split at hrest
      · rename_i x
        simp only [Bool.and_eq_true, decide_eq_true_eq] at hrest
        obtain ⟨x0, x1, x2, x3⟩ := hrest
        have hx : x = ⟨1, c, ⟨#[]⟩, 0⟩ := by
          obtain ⟨y0, y1, y2, y3⟩ := x
          simp only at x0 x1 x2 x3
          subst x0 x1 x3
          congr 1
          exact bytes_ext1 x2
        rw [hx] at ha
        refine quotes_one c s hq ha (plainB c) rfl ?_ w hT
        rw [Bool.or_eq_true, Bool.or_eq_true, decide_eq_true_eq] at hk
        rcases hk with h | h | h
        · exact .inl h
        · unfold signR at h
          simp only [Bool.or_eq_true, decide_eq_true_eq] at h
          omega
        · omega
      · cases hrest
    · rw [if_neg hk] at hrest
      simp only [Bool.and_eq_true, decide_eq_true_eq] at hrest
      obtain ⟨y0, y1, y2, y3⟩ := hrest
      simp only [Bool.or_eq_true, decide_eq_true_eq, not_or, Bool.not_eq_true] at hk
      exact quotes_more c s hq L ha hk.1 hk.2.1 hk.2.2 y0 (by omega) y2 (bytes_ext1 y3) w hT
  · have hs : signR c = false := by
      unfold signR
      rw [decide_eq_false (show ¬ c = 123 by omega), decide_eq_false (show ¬ c = 125 by omega), decide_eq_false (show ¬ c = 94 by omega), decide_eq_false (show ¬ c = 95 by omega), decide_eq_false (show ¬ c = 38 by omega)]
      rfl
    have hpl : plainB c = true := by
      unfold runeB at hr
      simp only [Bool.and_eq_true, decide_eq_true_eq] at hr
      unfold plainB
      rw [hs, hr.2.2, decide_eq_true hr.2.1, decide_eq_true (show 32 < c by omega), decide_eq_true (show c ≠ 127 by omega), decide_eq_true (show c ≠ 92 by omega), decide_eq_true (show c ≠ 37 by omega)]
      rfl
    have hq : quoteS c = (Utf8.encode c, 0) := by
      unfold quoteS
      rw [if_neg (by simp [hr]), if_pos hpl]
    have hsz := encode_size_le c
    have hb := encode_bl c hr
    have ha := allS_L (Utf8.encode c) (by omega)
    rw [hb, plain_one c hr hpl, ← hb, bl_len] at ha
    exact quotes_one c _ hq ha true hpl (.inl rfl) w hT
end Go.Proofs.YtplkdfkahcpoeaaDoor.P
