/- dimen.text and Text, walked. -/
import Derived.Test.YtkkadhhmdgbpiaaGreatDoorDimNum
import Derived.Test.YtkkadhhmdgbpiaaGreatDoorShelf
namespace Go.Proofs.YtkkadhhmdgbpiaaGreatDoor.P
open Go.RowKit Go.Proofs.YtkkadhhmdgbpiaaGreatDoorW.PrintWords Go.Proofs.YtkkadhhmdgbpiaaGreatDoorW.PrintLast Go.Proofs.YtkkadhhmdgbpiaaGreatDoorW.PrintMore
set_option linter.unusedVariables false
set_option linter.unusedSimpArgs false
attribute [local go_sem] max2_int min2_int max_two min_two max_three min_three max_four min_four
/-- What is read of the library's tables. -/
def DimTabs (w : World) : Prop := Lib.TabIs Tryz.prog w "internal/strconv.uint64pow10" .u64 Lib.pow10Tab ∧ Lib.Utf8Tabs 5 6 w ∧ ∃ m, w.cell? ⟨1, 0, none⟩ = some (.int .i64 m)
theorem DimTabs.below {w w' : World} (h : DimTabs w) (hb : Below w.heap.size w w') : DimTabs w' := by
  have k : ∀ p v, w.cell? p = some v → w'.cell? p = some v := fun p v hc => (hb.cell (World.block_lt_of_cell? w _ hc)).trans hc
  obtain ⟨h1, h2, m, h3⟩ := h
  refine ⟨?_, ⟨fun c hc => k _ _ (h2.1 c hc), fun i hi => ⟨k _ _ (h2.2 i hi).1, k _ _ (h2.2 i hi).2⟩⟩, m, k _ _ h3⟩
  have hg : Tryz.prog.globalNamed "internal/strconv.uint64pow10" = some 4 := by kernel_rfl
  unfold Lib.TabIs World.var? at h1 ⊢
  rw [hg] at h1 ⊢
  simp only [Option.bind_some] at h1 ⊢
  have hlt : 4 < w.heap.size := by
    rcases Nat.lt_or_ge 4 w.heap.size with h' | h'
    · exact h'
    · rw [Array.getElem?_eq_none h'] at h1; cases h1
  rw [hb.block _ hlt]
  exact h1
theorem itoa_calls (n : Nat) (hn : n ≤ 9223372036854775807) (w : World) (ht : DimTabs w) : Calls Tryz.prog 42 #[.int .i64 n] w fun e w' => e = .returned (.string ⟨(Lib.decDigits n).toArray⟩) ∧ Below w.heap.size w w' := by
  have h := Tryz.strconv_Itoa (n : Int) (by omega) (by omega) w ht.1
  refine h.mono ?_
  rintro e w' ⟨rfl, k, os, rfl⟩
  refine ⟨?_, ?_⟩
  · unfold Lib.itoa
    rw [if_neg (by omega), Int.toNat_natCast]
  · exact ⟨rfl, rfl, rfl, by show w.heap.size ≤ (w.heap ++ os).size; rw [Array.size_append]; omega, fun _ hj => by
      show (w.heap ++ os)[_]? = _
      rw [Array.getElem?_append_left hj]⟩
/-- Do k digits do? -/
def okK (rest k : Nat) : Bool := decide (nr (rest * 10 ^ k) 65536 < 10 ^ k) && (nr (nr (rest * 10 ^ k) 65536 * 65536) (10 ^ k) == rest)
/-- The first number of digits that does, from k on, looking at so many. -/
def kf (rest : Nat) : Nat → Nat → Nat
  | 0, k => k
  | f + 1, k => if okK rest k then k else kf rest f (k + 1)
def textQ (q rest : Nat) : List UInt8 :=
  Lib.decDigits q ++ [46] ++ Lib.repeatL [48] (kf rest 4 1 - (Lib.decDigits (nr (rest * 10 ^ (kf rest 4 1)) 65536)).length) ++ Lib.decDigits (nr (rest * 10 ^ (kf rest 4 1)) 65536) ++ [112, 116]
theorem nr_le (p c : Nat) (hc : 0 < c) : nr p c ≤ p + 1 := by
  unfold nr
  have : (2 * p + c) / (2 * c) < p + 2 := by
    rw [Nat.div_lt_iff_lt_mul (by omega)]
    have h1 : p + 2 ≤ (p + 2) * c := Nat.le_mul_of_pos_right _ hc
    have h2 : (p + 2) * (2 * c) = 2 * ((p + 2) * c) := by rw [Nat.mul_left_comm]
    have h3 : (p + 2) * c = p * c + 2 * c := Nat.add_mul _ _ _
    have h4 : p ≤ p * c := Nat.le_mul_of_pos_right _ hc
    rw [h2, h3]
    omega
  omega
theorem mul_wrap (a b : Nat) (h : a * b ≤ 9223372036854775807) : wrap64 ((a : Int) * (b : Int)) = ((a * b : Nat) : Int) := by
  rw [← Int.natCast_mul]
  exact wrap64_small (by omega) (by omega)
theorem okK_true {rest k : Nat} (h : okK rest k = true) : nr (rest * 10 ^ k) 65536 < 10 ^ k ∧ nr (nr (rest * 10 ^ k) 65536 * 65536) (10 ^ k) = rest := by
  unfold okK at h
  simpa using h
theorem dec_len : ∀ j n : Nat, n < 10 ^ (j + 1) → (Lib.decDigits n).length ≤ j + 1
  | 0, n, h => by rw [Lib.decDigits, dif_pos (by omega)]; simp
  | j + 1, n, h => by
    rw [Lib.decDigits]
    split
    · simp
    · have := dec_len j (n / 10) (by rw [Nat.div_lt_iff_lt_mul (by decide), ← Nat.pow_succ]; exact h)
      simp only [List.length_append, List.length_cons, List.length_nil]
      omega
theorem kf_le (rest : Nat) : ∀ f k, kf rest f k ≤ f + k ∧ k ≤ kf rest f k
  | 0, k => by unfold kf; omega
  | f + 1, k => by
    unfold kf
    split
    · omega
    · have := kf_le rest f (k + 1); omega
set_option maxHeartbeats 4000000 in
theorem text_calls' (x : Int) (q rest : Nat) (hx0 : 0 ≤ x) (hx : x ≤ 1073741823) (hq : x / 65536 = (q : Int)) (hm : x % 65536 = (rest : Int)) (w : World) (ht : DimTabs w)
    (hlen : (Lib.decDigits (nr (rest * 10 ^ (kf rest 4 1)) 65536)).length ≤ kf rest 4 1) :
    Calls Tryz.prog 24 #[.int .i64 x] w fun e w' => e = .returned (.string ⟨(textQ q rest).toArray⟩) ∧ Below w.heap.size w w' := by
  have hr : rest < 65536 := by omega
  have hqb : q ≤ 1073741823 := by omega
  have hq2 : x.tdiv 65536 = (q : Int) := by rw [Int.tdiv_eq_ediv_of_nonneg hx0]; exact hq
  have hm2 : x.tmod 65536 = (rest : Int) := by rw [Int.tmod_eq_emod_of_nonneg hx0]; exact hm
  unfold textQ
  generalize hK : kf rest 4 1 = K at *
  have hK5 : 1 ≤ K ∧ K ≤ 5 := by have := kf_le rest 4 1; omega
  -- what is called behind the loop
  have hp5 : 10 ^ K ≤ 10 ^ 5 := Nat.pow_le_pow_right (by decide) (by omega)
  have hmulK : rest * 10 ^ K ≤ 65535 * 100000 := Nat.mul_le_mul (by omega) hp5
  have hDK := nr_le (rest * 10 ^ K) 65536 (by decide)
  have hP : ∀ w, Calls Tryz.prog 34 #[.int .i64 (K : Int)] w fun e w' => e = .returned (.int .i64 ((10 ^ K : Nat) : Int)) ∧ Drawn0 w w' := fun w => power_calls K (by omega) w
  have hN : ∀ w, Calls Tryz.prog 33 #[.int .i64 (wrap64 ((rest : Int) * ((10 ^ K : Nat) : Int))), .int .i64 65536] w fun e w' => e = .returned (.int .i64 (nr (rest * 10 ^ K) 65536 : Nat)) ∧ Drawn0 w w' := fun w => by
    rw [mul_wrap _ _ (by omega)]
    exact nearest_calls (rest * 10 ^ K) 65536 (by omega) (by decide) (by decide) w
  generalize hPK : 10 ^ K = PK at *
  generalize hD : nr (rest * PK) 65536 = D at *
  have hI : ∀ w', Below w.heap.size w w' → Calls Tryz.prog 42 #[.int .i64 (D : Int)] w' fun e w2 => e = .returned (.string ⟨(Lib.decDigits D).toArray⟩) ∧ Below w.heap.size w w2 := fun w' hb => (itoa_calls D (by omega) w' (ht.below hb)).mono fun e w2 ⟨a, b⟩ => ⟨a, hb.trans (b.mono hb.size)⟩
  have hI2 : ∀ w', Below w.heap.size w w' → Calls Tryz.prog 42 #[.int .i64 (q : Int)] w' fun e w2 => e = .returned (.string ⟨(Lib.decDigits q).toArray⟩) ∧ Below w.heap.size w w2 := fun w' hb => (itoa_calls q (by omega) w' (ht.below hb)).mono fun e w2 ⟨a, b⟩ => ⟨a, hb.trans (b.mono hb.size)⟩
  generalize hL : Lib.decDigits D = L at *
  have hR : ∀ w', Below w.heap.size w w' → Calls Tryz.prog 43 #[.string ⟨#[48]⟩, .int .i64 (wrap64 ((K : Int) - (L.length : Int)))] w' fun e w2 => e = .returned (.string ⟨(Lib.repeatL [48] (K - L.length)).toArray⟩) ∧ Below w.heap.size w w2 := fun w' hb => by
    rw [wrap64_small (by omega) (by omega), show (K : Int) - (L.length : Int) = ((K - L.length : Nat) : Int) by omega]
    exact (Tryz.strings_Repeat ⟨#[48]⟩ (K - L.length) w' (by omega) (by show 1 * _ ≤ _; omega)).mono fun e w2 ⟨a, b⟩ => ⟨a, hb.trans (b.mono hb.size)⟩
  have hlens : (Lib.decDigits q).length ≤ 10 ∧ (Lib.repeatL [48] (K - L.length)).length ≤ 5 ∧ L.length ≤ 5 := by
    refine ⟨dec_len 9 q (by omega), ?_, by omega⟩
    rw [Lib.repeatL_length]
    simp only [List.length_cons, List.length_nil]
    omega
  have HLN := Lib.hid hlens
  clear hlens
  have HP := Lib.hid hP
  have HN := Lib.hid hN
  have HI := Lib.hid hI
  have HI2 := Lib.hid hI2
  have HRP := Lib.hid hR
  have HR := Lib.hid hr
  have HKK := Lib.hid hK
  have HKD := Lib.hid hD
  have HPK := Lib.hid hPK
  clear hPK
  clear hP hN hI hI2 hR hr hqb hp5 hmulK hDK hlen hL hD hK ht
  go_enter Tryz.func24, Tryz.ntmps24
  go_wp2_with fail
  try simp only [hq2, hm2, hq, hm]
  clear hq hm hq2 hm2
  go_loopg [5] 4 (fun kq v5 w' => ∃ k : Nat, v5 = .int .i64 (k : Int) ∧ Hid (kq + k = 5) ∧ Hid (1 ≤ k) ∧ Hid (kf rest kq k = K) ∧ Hid (Below w.heap.size w w'))
  case atStart => exact ⟨1, rfl, Lib.hid rfl, Lib.hid (by omega), HKK, Lib.hid (Drawn0.below (by repeat (first | exact Drawn0.refl _ | apply Drawn0.step)))⟩
  case round =>
    obtain ⟨k, rfl, HK, HK1, HF, HD⟩ := hrel
    by_cases hlast : k = 5
    · -- the loop's end by the count
      have hg : gk = 0 := by have := HK.out; omega
      subst hg
      have hkf : k = K := by have := HF.out; unfold kf at this; exact this
      subst hkf
      have hc : decide ((k : Int) < 5) = false := decide_eq_false (by omega)
      clear hlast
      go_wp2_with (first
        | (go_at_call 34; with_reducible refine (HP.out _).mono ?_; rintro e w1 ⟨rfl, hd1⟩)
        | (go_at_call 33; with_reducible refine (HN.out _).mono ?_; rintro e w2 ⟨rfl, hd2⟩)
        | (go_at_call 42; with_reducible refine (HI.out _ (HD.out.trans ((d0t hd1 hd2).below.mono HD.out.size))).mono ?_; rintro e w3 ⟨rfl, hb3⟩)
        | (go_at_call 42; with_reducible refine (HI2.out _ hb3).mono ?_; rintro e w4 ⟨rfl, hb4⟩)
        | (go_at_call 43; with_reducible refine (HRP.out _ hb4).mono ?_; rintro e w5 ⟨rfl, hb5⟩))
      all_goals (first | (exfalso; have := HLN.out; omega) | skip)
      go_ret
      refine ⟨?_, hb5⟩
      refine congrArg (fun b => Ending.returned (Value.string b)) ?_
      apply ByteArray.ext
      simp [ByteArray.data_append]
    · obtain ⟨g, rfl⟩ : ∃ g, gk = g + 1 := ⟨gk - 1, by have := HK.out; omega⟩
      have hk5 : k < 5 := by have := HK.out; omega
      have hc : decide ((k : Int) < 5) = true := decide_eq_true (by omega)
      have hwk : wrap64 ((k : Int) + 1) = ((k + 1 : Nat) : Int) := by rw [wrap64_small (by omega) (by omega)]; omega
      have hP1 : ∀ w, Calls Tryz.prog 34 #[.int .i64 (k : Int)] w fun e w' => e = .returned (.int .i64 ((10 ^ k : Nat) : Int)) ∧ Drawn0 w w' := fun w => power_calls k (by omega) w
      have hp5 : 10 ^ k ≤ 10 ^ 5 := Nat.pow_le_pow_right (by decide) (by omega)
      have hp0 : 0 < 10 ^ k := Nat.pow_pos (by decide)
      have hrest := HR.out
      have hmulk : rest * 10 ^ k ≤ 65535 * 100000 := Nat.mul_le_mul (by omega) hp5
      have hDk := nr_le (rest * 10 ^ k) 65536 (by decide)
      have hN1 : ∀ w, Calls Tryz.prog 33 #[.int .i64 (wrap64 ((rest : Int) * ((10 ^ k : Nat) : Int))), .int .i64 65536] w fun e w' => e = .returned (.int .i64 (nr (rest * 10 ^ k) 65536 : Nat)) ∧ Drawn0 w w' := fun w => by
        rw [mul_wrap _ _ (by omega)]
        exact nearest_calls (rest * 10 ^ k) 65536 (by omega) (by decide) (by decide) w
      have hN2 : ∀ w, Calls Tryz.prog 33 #[.int .i64 (wrap64 (((nr (rest * 10 ^ k) 65536 : Nat) : Int) * 65536)), .int .i64 ((10 ^ k : Nat) : Int)] w fun e w' => e = .returned (.int .i64 (nr (nr (rest * 10 ^ k) 65536 * 65536) (10 ^ k) : Nat)) ∧ Drawn0 w w' := fun w => by
        have := mul_wrap (nr (rest * 10 ^ k) 65536) 65536 (by omega)
        rw [show ((65536 : Nat) : Int) = 65536 from rfl] at this
        rw [this]
        exact nearest_calls _ _ (by omega) (by omega) hp0 w
      have hokd : okK rest k = (decide (nr (rest * 10 ^ k) 65536 < 10 ^ k) && (nr (nr (rest * 10 ^ k) 65536 * 65536) (10 ^ k) == rest)) := rfl
      have hkf : kf rest (g + 1) k = if okK rest k then k else kf rest g (k + 1) := rfl
      have hKK2 := HPK.out
      have hKD2 := HKD.out
      cases hok : okK rest k
      · rw [hok] at hokd hkf
        rw [if_neg (by decide)] at hkf
        have HF2 : Hid (kf rest g (k + 1) = K) := Lib.hid (hkf.symm.trans HF.out)
        generalize nr (nr (rest * 10 ^ k) 65536 * 65536) (10 ^ k) = E at *
        generalize nr (rest * 10 ^ k) 65536 = D1 at *
        generalize 10 ^ k = P at *
        have HP1 := Lib.hid hP1
        have HN1 := Lib.hid hN1
        have HN2 := Lib.hid hN2
        by_cases hd : D1 < P
        · have hE : ((E : Int) == (rest : Int)) = false := by
            rw [decide_eq_true hd, Bool.true_and] at hokd
            rw [beq_eq_false_iff_ne]
            intro h
            have h2 : E = rest := by omega
            rw [h2] at hokd
            simp at hokd
          have hdd : decide ((D1 : Int) < (P : Int)) = true := decide_eq_true (by omega)
          have hdn : decide (D1 < P) = true := decide_eq_true hd
          have hE2 : (E == rest) = false := by
            rw [beq_eq_false_iff_ne] at hE ⊢
            omega
          have hE3 : decide (E = rest) = false := by
            rw [beq_eq_false_iff_ne] at hE2
            exact decide_eq_false hE2
          clear hP1 hN1 hN2 hokd hkf hlast hp5 hp0 hmulk hDk hd hKK2 hKD2 hok HF
          go_wp2_with (first
            | (go_at_call 34; with_reducible refine (HP1.out _).mono ?_; rintro e w1 ⟨rfl, hd1⟩; replace HD := Lib.hid (HD.out.trans (hd1.below.mono HD.out.size)); clear hd1)
            | (go_at_call 33; with_reducible refine (HN1.out _).mono ?_; rintro e w2 ⟨rfl, hd1⟩; replace HD := Lib.hid (HD.out.trans (hd1.below.mono HD.out.size)); clear hd1)
            | (go_at_call 33; with_reducible refine (HN2.out _).mono ?_; rintro e w2 ⟨rfl, hd1⟩; replace HD := Lib.hid (HD.out.trans (hd1.below.mono HD.out.size)); clear hd1))
          go_roundg g
          case measure => omega
          case rel => exact ⟨k + 1, by first | rfl | (rw [hwk]), Lib.hid (by have := HK.out; omega), Lib.hid (by omega), HF2, HD⟩
        · have hdd : decide ((D1 : Int) < (P : Int)) = false := decide_eq_false (by omega)
          have hdn : decide (D1 < P) = false := decide_eq_false hd
          clear hP1 hN1 hN2 hokd hkf hlast hp5 hp0 hmulk hDk hd hKK2 hKD2 hok HF
          go_wp2_with (first
            | (go_at_call 34; with_reducible refine (HP1.out _).mono ?_; rintro e w1 ⟨rfl, hd1⟩; replace HD := Lib.hid (HD.out.trans (hd1.below.mono HD.out.size)); clear hd1)
            | (go_at_call 33; with_reducible refine (HN1.out _).mono ?_; rintro e w2 ⟨rfl, hd1⟩; replace HD := Lib.hid (HD.out.trans (hd1.below.mono HD.out.size)); clear hd1))
          go_roundg g
          case measure => omega
          case rel => exact ⟨k + 1, by first | rfl | (rw [hwk]), Lib.hid (by have := HK.out; omega), Lib.hid (by omega), HF2, HD⟩
      · rw [hok] at hokd hkf
        rw [if_pos rfl] at hkf
        have hkK : k = K := hkf.symm.trans HF.out
        subst hkK
        rw [hKK2] at hN1 hN2 hP1 hokd
        rw [hKD2] at hN1 hN2 hokd
        have hokd' : (decide (D < PK) && (nr (D * 65536) PK == rest)) = true := hokd.symm
        rw [Bool.and_eq_true, decide_eq_true_iff, beq_iff_eq] at hokd'
        obtain ⟨hd, hE⟩ := hokd'
        rw [hE] at hN2
        have HN2 := Lib.hid hN2
        have hdd : decide ((D : Int) < (PK : Int)) = true := decide_eq_true (by omega)
        have hdn : decide (D < PK) = true := decide_eq_true hd
        clear hP1 hN1 hN2 hokd hkf hlast hp5 hp0 hmulk hDk hd hKK2 hKD2 hok HF hE
        go_wp2_with (first
          | (go_at_call 34; with_reducible refine (HP.out _).mono ?_; rintro e w1 ⟨rfl, hd1⟩; replace HD := Lib.hid (HD.out.trans (hd1.below.mono HD.out.size)); clear hd1)
          | (go_at_call 33; with_reducible refine (HN.out _).mono ?_; rintro e w2 ⟨rfl, hd1⟩; replace HD := Lib.hid (HD.out.trans (hd1.below.mono HD.out.size)); clear hd1)
          | (go_at_call 33; with_reducible refine (HN2.out _).mono ?_; rintro e w2 ⟨rfl, hd1⟩; replace HD := Lib.hid (HD.out.trans (hd1.below.mono HD.out.size)); clear hd1)
          | (go_at_call 42; with_reducible refine (HI.out _ HD.out).mono ?_; rintro e w3 ⟨rfl, hb3⟩)
          | (go_at_call 42; with_reducible refine (HI2.out _ hb3).mono ?_; rintro e w4 ⟨rfl, hb4⟩)
          | (go_at_call 43; with_reducible refine (HRP.out _ hb4).mono ?_; rintro e w5 ⟨rfl, hb5⟩))
        all_goals (first | (exfalso; have := HLN.out; omega) | skip)
        go_ret
        refine ⟨?_, hb5⟩
        refine congrArg (fun b => Ending.returned (Value.string b)) ?_
        apply ByteArray.ext
        simp [ByteArray.data_append]
/-- The number of digits that does: its digits are no more than it. -/
theorem kf_ok (rest : Nat) : ∀ f k, kf rest f k = f + k ∨ okK rest (kf rest f k) = true
  | 0, k => by left; unfold kf; omega
  | f + 1, k => by
    unfold kf
    split
    · right; assumption
    · rcases kf_ok rest f (k + 1) with h | h
      · left; omega
      · right; exact h
theorem kf_lt (rest : Nat) (h : rest < 65536) : nr (rest * 10 ^ (kf rest 4 1)) 65536 < 10 ^ (kf rest 4 1) := by
  rcases kf_ok rest 4 1 with h1 | h1
  · rw [h1]
    unfold nr
    omega
  · exact (okK_true h1).1
theorem dec_len' (j n : Nat) (hj : 1 ≤ j) (h : n < 10 ^ j) : (Lib.decDigits n).length ≤ j := by
  obtain ⟨i, rfl⟩ : ∃ i, j = i + 1 := ⟨j - 1, by omega⟩
  exact dec_len i n h
def textN (n : Nat) : List UInt8 := textQ (n / 65536) (n % 65536)
theorem text_calls (n : Nat) (hn : n ≤ 1073741823) (w : World) (ht : DimTabs w) :
    Calls Tryz.prog 24 #[.int .i64 (n : Int)] w fun e w' => e = .returned (.string ⟨(textN n).toArray⟩) ∧ Below w.heap.size w w' := by
  refine text_calls' (n : Int) (n / 65536) (n % 65536) (by omega) (by omega) (by omega) (by omega) w ht ?_
  exact dec_len' _ _ (by have := kf_le (n % 65536) 4 1; omega) (kf_lt _ (Nat.mod_lt _ (by decide)))
/-- What Text answers. -/
def textE (a : Int) : ByteArray × Int := if lenB a then (if a < 0 then ⟨(45 :: textN a.natAbs).toArray⟩ else ⟨(textN a.natAbs).toArray⟩, 0) else (⟨#[]⟩, 1)
set_option maxHeartbeats 1000000 in
theorem Text_calls (a : Int) (w : World) (ht : DimTabs w) :
    Calls Tryz.prog 10 #[.int .i64 a] w fun e w' => e = .returned (.tuple #[.string (textE a).1, .int .i64 (textE a).2]) ∧ Below w.heap.size w w' := by
  have hi := is_calls a w _ rfl
  have HI := Lib.hid hi
  clear hi
  have hB : ∀ w1, Drawn0 (w.alloc (.cells #[.int .i64 a] 3)) w1 → Below w.heap.size w w1 := fun w1 hd => ((Below.refl w.heap.size w).alloc (Nat.le_refl _) _).trans (hd.below.mono (by simp))
  have HB := Lib.hid hB
  clear hB
  cases hl : lenB a
  · rw [hl] at HI
    have hr : textE a = (⟨#[]⟩, 1) := by unfold textE; rw [hl]; rfl
    rw [hr]
    clear hr hl
    go_enter Tryz.func10, Tryz.ntmps10
    go_wp2_with (go_at_call 20; refine (HI.out).mono ?_; rintro e w1 ⟨rfl, hd⟩)
    go_ret2
    exact ⟨rfl, HB.out _ hd⟩
  · rw [hl] at HI
    have hb : -1073741823 ≤ a ∧ a ≤ 1073741823 := by
      have h := hl
      unfold lenB at h
      simpa using h
    by_cases h0 : a < 0
    · have hr : textE a = (⟨(45 :: textN a.natAbs).toArray⟩, 0) := by unfold textE; rw [hl, if_pos rfl, if_pos h0]
      rw [hr]
      have hneg : wrap64 (-a) = ((a.natAbs : Nat) : Int) := by rw [wrap64_small (by omega) (by omega)]; omega
      have hT : ∀ w1, Drawn0 (w.alloc (.cells #[.int .i64 a] 3)) w1 → Calls Tryz.prog 24 #[.int .i64 (wrap64 (-a))] w1 fun e w2 => e = .returned (.string ⟨(textN a.natAbs).toArray⟩) ∧ Below w.heap.size w w2 := fun w1 hd => by
        rw [hneg]
        have hb1 := HB.out _ hd
        exact (text_calls a.natAbs (by omega) w1 (ht.below hb1)).mono fun e w2 ⟨x, y⟩ => ⟨x, hb1.trans (y.mono hb1.size)⟩
      have hlen : (textN a.natAbs).length ≤ 30 := by
        unfold textN textQ
        have h1 : (Lib.decDigits (a.natAbs / 65536)).length ≤ 10 := dec_len 9 _ (by omega)
        have h2 : (Lib.decDigits (nr (a.natAbs % 65536 * 10 ^ kf (a.natAbs % 65536) 4 1) 65536)).length ≤ kf (a.natAbs % 65536) 4 1 := dec_len' _ _ (by have := kf_le (a.natAbs % 65536) 4 1; omega) (kf_lt _ (Nat.mod_lt _ (by decide)))
        have h3 := kf_le (a.natAbs % 65536) 4 1
        simp only [List.length_append, Lib.repeatL_length, List.length_cons, List.length_nil]
        omega
      have HT := Lib.hid hT
      generalize textN a.natAbs = T at *
      have HL := Lib.hid hlen
      have hd0 : decide (a < 0) = true := decide_eq_true h0
      clear hT hr hl hneg hlen h0 hb ht
      go_enter Tryz.func10, Tryz.ntmps10
      go_wp2_with (first
        | (go_at_call 20; refine (HI.out).mono ?_; rintro e w1 ⟨rfl, hd⟩)
        | (go_at_call 24; refine (HT.out _ hd).mono ?_; rintro e w2 ⟨rfl, hb2⟩))
      all_goals (first | (exfalso; have := HL.out; omega) | skip)
      go_ret2
      refine ⟨?_, hb2⟩
      refine congrArg (fun b => Ending.returned (Value.tuple #[Value.string b, Value.int .i64 0])) ?_
      apply ByteArray.ext
      simp [ByteArray.data_append]
    · have hr : textE a = (⟨(textN a.natAbs).toArray⟩, 0) := by unfold textE; rw [hl, if_pos rfl, if_neg h0]
      rw [hr]
      have hna : a = ((a.natAbs : Nat) : Int) := by omega
      have hT : ∀ w1, Drawn0 (w.alloc (.cells #[.int .i64 a] 3)) w1 → Calls Tryz.prog 24 #[.int .i64 a] w1 fun e w2 => e = .returned (.string ⟨(textN a.natAbs).toArray⟩) ∧ Below w.heap.size w w2 := fun w1 hd => by
        have hb1 := HB.out _ hd
        have := (text_calls a.natAbs (by omega) w1 (ht.below hb1)).mono fun e w2 (h : _ ∧ _) => (⟨h.1, hb1.trans (h.2.mono hb1.size)⟩ : e = .returned (.string ⟨(textN a.natAbs).toArray⟩) ∧ Below w.heap.size w w2)
        rw [← hna] at this
        exact this
      have HT := Lib.hid hT
      generalize textN a.natAbs = T at *
      have hd0 : decide (a < 0) = false := decide_eq_false h0
      clear hT hr hl hna h0 hb ht
      go_enter Tryz.func10, Tryz.ntmps10
      go_wp2_with (first
        | (go_at_call 20; refine (HI.out).mono ?_; rintro e w1 ⟨rfl, hd⟩)
        | (go_at_call 24; refine (HT.out _ hd).mono ?_; rintro e w2 ⟨rfl, hb2⟩))
      go_ret2
      exact ⟨rfl, hb2⟩
end Go.Proofs.YtkkadhhmdgbpiaaGreatDoor.P
