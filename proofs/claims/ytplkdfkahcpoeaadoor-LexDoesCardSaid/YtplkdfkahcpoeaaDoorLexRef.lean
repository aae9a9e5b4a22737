/- Layer 19, plain: the document's answer is the program's. No program in sight. -/
import Derived.Test.YtplkdfkahcpoeaaDoorLexRune
import Derived.Test.YtplkdfkahcpoeaaDoorLexRQuote
import Derived.Lib.MapLaws
namespace Go.Proofs.YtplkdfkahcpoeaaDoor.P
open Go.RowKit Go.Proofs.YtplkdfkahcpoeaaDoorW.PrintWords
set_option linter.unusedVariables false
set_option linter.unusedSimpArgs false
/-! ### small tests -/
theorem runeR_N (v : Int) : runeR v = true ↔ 0 ≤ v ∧ runeN v.toNat := by
  unfold runeR vinculumref19_Rune.f runeN
  by_cases h1 : v ≥ 1
  · rw [if_pos h1]
    by_cases h2 : v ≤ 1114111
    · rw [if_pos h2]
      by_cases h3 : v < 55296
      · rw [if_pos h3]; simp only [Option.getD_some, true_iff]; omega
      · rw [if_neg h3]; simp only [Option.getD_some, decide_eq_true_eq]; omega
    · rw [if_neg h2]; simp only [Option.getD_some, Bool.false_eq_true, false_iff]; omega
  · rw [if_neg h1]; simp only [Option.getD_some, Bool.false_eq_true, false_iff]; omega
theorem runeR_B (c : Int) : runeR c = runeB c := by
  rw [Bool.eq_iff_iff, runeR_N, runeB_N]
theorem sigQ_R (c : Int) : sigQ c = signR c := by
  unfold sigQ vinculumref19_Sign.f signR
  by_cases h1 : c = 123
  · rw [if_pos h1, decide_eq_true h1]; rfl
  rw [if_neg h1, decide_eq_false h1]
  by_cases h2 : c = 125
  · rw [if_pos h2, decide_eq_true h2]; rfl
  rw [if_neg h2, decide_eq_false h2]
  by_cases h3 : c = 94
  · rw [if_pos h3, decide_eq_true h3]; rfl
  rw [if_neg h3, decide_eq_false h3]
  by_cases h4 : c = 95
  · rw [if_pos h4, decide_eq_true h4]; rfl
  rw [if_neg h4, decide_eq_false h4]
  by_cases h5 : c = 38
  · rw [h5]; rfl
  · rw [decide_eq_false h5]
    simp only [Option.getD_some, Bool.false_or]
    exact beq_eq_false_iff_ne.mpr h5
theorem plnQ_B (c : Int) : plnQ c = plainB c := by
  have hB := runeR_B c
  unfold plnQ vinculumref19_Plain.f
  rw [runeR_f, sigQ_f, sigQ_R, hB]
  simp only [Option.bind_some]
  unfold plainB
  cases hr : runeB c with
  | false =>
    rw [if_neg (by decide)]
    unfold runeB at hr
    simp only [Option.getD_some]
    by_cases h1 : 32 < c
    · rw [decide_eq_true (show 1 ≤ c by omega), Bool.true_and, Bool.and_eq_false_iff] at hr
      rcases hr with h | h
      · rw [h]; simp
      · rw [h]; simp
    · rw [decide_eq_false h1]; rfl
  | true =>
    rw [if_pos rfl]
    unfold runeB at hr
    simp only [Bool.and_eq_true, decide_eq_true_eq] at hr
    rw [hr.2.2, decide_eq_true hr.2.1]
    by_cases h1 : c > 32
    · rw [if_pos h1, decide_eq_true h1]
      by_cases h2 : c = 127
      · rw [if_pos h2, decide_eq_false (by simp [h2])]; rfl
      · rw [if_neg h2, decide_eq_true h2]
        cases signR c
        · rw [if_neg (by decide)]
          by_cases h3 : c = 92
          · rw [if_pos h3, decide_eq_false (by simp [h3])]; rfl
          · rw [if_neg h3, decide_eq_true h3]
            simp only [Option.getD_some, Bool.true_and, Bool.not_false]
            by_cases h4 : c = 37
            · rw [h4]; rfl
            · rw [decide_eq_true h4]; exact bne_iff_ne.mpr h4
        · rw [if_pos rfl]; rfl
    · rw [if_neg h1, decide_eq_false h1]; rfl
theorem letQ_B (b : UInt8) : letQ (b.toNat : Int) = letB b := by
  unfold letQ vinculumref19_letter.f letB
  by_cases h1 : (b.toNat : Int) ≥ 97
  · rw [if_pos h1, decide_eq_true (show 97 ≤ b.toNat by omega), Bool.true_and]
    by_cases h2 : (b.toNat : Int) ≤ 122
    · rw [if_pos h2, decide_eq_true (show b.toNat ≤ 122 by omega)]; rfl
    · rw [if_neg h2, decide_eq_false (show ¬ b.toNat ≤ 122 by omega), Bool.false_or, if_pos (by omega)]
      simp only [Option.getD_some]
      rw [decide_eq_true (show 65 ≤ b.toNat by omega), Bool.true_and]
      exact decide_eq_decide.2 (by omega)
  · rw [if_neg h1, decide_eq_false (show ¬ 97 ≤ b.toNat by omega), Bool.false_and, Bool.false_or]
    by_cases h3 : (b.toNat : Int) ≥ 65
    · rw [if_pos h3, decide_eq_true (show 65 ≤ b.toNat by omega), Bool.true_and]
      simp only [Option.getD_some]
      exact decide_eq_decide.2 (by omega)
    · rw [if_neg h3, decide_eq_false (show ¬ 65 ≤ b.toNat by omega)]; rfl
theorem strOf_bl (xs : List Int) : bl (strOfNums xs) = xs.map (fun x => UInt8.ofNat x.toNat) := by
  unfold strOfNums bl
  simp
theorem bytesR_bl (v : Int) (h : 0 ≤ v) (hr : runeN v.toNat) : bl (bytesR v) = encL v.toNat := by
  obtain ⟨r, rfl⟩ : ∃ r : Nat, v = (r : Int) := ⟨v.toNat, by omega⟩
  rw [Int.toNat_natCast] at hr ⊢
  obtain ⟨h1, h2, h3⟩ := hr
  have w : ∀ x : Int, 0 ≤ x → x ≤ 2000000 → wrap64 x = x := fun x a b => by unfold wrap64; omega
  have td : ∀ m : Int, 0 < m → Int.tdiv (r : Int) m = (r : Int) / m := fun m _ => Int.tdiv_eq_ediv_of_nonneg (by omega)
  have tm : ∀ (x m : Int), 0 ≤ x → Int.tmod x m = x % m := fun x m hx => Int.tmod_eq_emod_of_nonneg hx
  unfold bytesR vinculumref19_Bytes.f encL
  by_cases c1 : (r : Int) < 128
  · rw [if_pos c1, if_pos (by omega)]
    simp only [Option.getD_some]
    rw [strOf_bl]
    simp only [List.map_cons, List.map_nil]
    congr 2
    omega
  rw [if_neg c1, if_neg (show ¬ r < 128 by omega)]
  by_cases c2 : (r : Int) < 2048
  · rw [if_pos c2, if_pos (by omega)]
    simp only [Option.getD_some]
    rw [strOf_bl, td 64 (by decide), tm r 64 (by omega), w (r / 64) (by omega) (by omega), w (192 + r / 64) (by omega) (by omega), w (128 + r % 64) (by omega) (by omega)]
    simp only [List.map_cons, List.map_nil]
    rw [show ((192 + (r : Int) / 64) % 256).toNat = 192 + r / 64 by omega, show ((128 + (r : Int) % 64) % 256).toNat = 128 + r % 64 by omega]
  rw [if_neg c2, if_neg (show ¬ r < 2048 by omega)]
  by_cases c3 : (r : Int) < 65536
  · rw [if_pos c3, if_pos (by omega)]
    simp only [Option.getD_some]
    rw [strOf_bl, td 4096 (by decide), td 64 (by decide), w (r / 64) (by omega) (by omega), tm (r / 64) 64 (by omega), tm r 64 (by omega), w (r / 4096) (by omega) (by omega), w (224 + r / 4096) (by omega) (by omega), w (128 + r / 64 % 64) (by omega) (by omega), w (128 + r % 64) (by omega) (by omega)]
    simp only [List.map_cons, List.map_nil]
    rw [show ((224 + (r : Int) / 4096) % 256).toNat = 224 + r / 4096 by omega, show ((128 + (r : Int) / 64 % 64) % 256).toNat = 128 + r / 64 % 64 by omega, show ((128 + (r : Int) % 64) % 256).toNat = 128 + r % 64 by omega]
  · rw [if_neg c3, if_neg (show ¬ r < 65536 by omega)]
    simp only [Option.getD_some]
    rw [strOf_bl, td 262144 (by decide), td 4096 (by decide), td 64 (by decide), w (r / 64) (by omega) (by omega), tm (r / 64) 64 (by omega), tm r 64 (by omega), w (r / 4096) (by omega) (by omega), tm (r / 4096) 64 (by omega), w (r / 262144) (by omega) (by omega), w (240 + r / 262144) (by omega) (by omega), w (128 + r / 4096 % 64) (by omega) (by omega), w (128 + r / 64 % 64) (by omega) (by omega), w (128 + r % 64) (by omega) (by omega)]
    simp only [List.map_cons, List.map_nil]
    rw [show ((240 + (r : Int) / 262144) % 256).toNat = 240 + r / 262144 by omega, show ((128 + (r : Int) / 4096 % 64) % 256).toNat = 128 + r / 4096 % 64 by omega, show ((128 + (r : Int) / 64 % 64) % 256).toNat = 128 + r / 64 % 64 by omega, show ((128 + (r : Int) % 64) % 256).toNat = 128 + r % 64 by omega]
/-! ### what stands for a rune -/
theorem hex_same : ∀ c : Fin 128, (hexF (c.val : Int)).data.toList = (hexR (c.val : Int)).data.toList := by decide +kernel
theorem quote_same (c : Int) : quoteR c = quoteS c := by
  unfold quoteR quoteS
  rw [runeR_B, plnQ_B, sigQ_R]
  cases hr : runeB c with
  | false => rfl
  | true =>
    simp only [reduceCtorEq, if_false]
    obtain ⟨h0, hN⟩ := (runeB_N c).1 hr
    have hb : bytesR c = Utf8.encode c := bytes_ext1 ((bytesR_bl c h0 hN).trans (encode_bl c hr).symm)
    rw [hb]
    cases hp : plainB c with
    | true => rfl
    | false =>
      simp only [Bool.false_eq_true, if_false]
      by_cases h : signR c = true ∨ c = 37
      · rw [if_pos h, if_pos h]
      · rw [if_neg h, if_neg h]
        have hs : signR c = false := by cases hs : signR c with | true => exact absurd (.inl hs) h | false => rfl
        have hlt := odd_rune c (by obtain ⟨h1, _⟩ := hN; omega) hr hp hs (fun e => h (.inr e))
        have := hex_same ⟨c.toNat, by omega⟩
        rw [show ((c.toNat : Nat) : Int) = c by omega] at this
        rw [bytes_ext1 this]
/-! ### the rune at a place -/
/-- Does a rune begin here? -/
def badL (l : List UInt8) : Bool := decide ((Lib.decodeL l).1 = 65533 ∧ (Lib.decodeL l).2 = 1) || decide ((Lib.decodeL l).1 = 0)
theorem bt_drop (s : ByteArray) (p i : Nat) (h : p + i < s.size) : bt s ((p : Int) + (i : Int)) = ((((bl s).drop p).getD i 0).toNat : Int) := by
  rw [bt_getD s _ (by omega) (by omega), show ((p : Int) + (i : Int)).toNat = p + i by omega, List.getD_eq_getElem?_getD, List.getD_eq_getElem?_getD, List.getElem?_drop]
theorem oneC_true (s : ByteArray) (p n : Nat) (h1 : 1 ≤ n) (h4 : n ≤ 4) (hp : p + n ≤ s.size) (h : oneC s p n = true) :
    Lib.decodeL ((bl s).drop p) = ((oneV s p n).toNat, n) ∧ 1 ≤ oneV s p n ∧ badL ((bl s).drop p) = false := by
  unfold oneC at h
  rw [Bool.and_eq_true, beq_iff_eq] at h
  obtain ⟨hr, hb⟩ := h
  obtain ⟨h0, hN⟩ := (runeR_N _).1 hr
  rw [ByteArray.toList_eq, ByteArray.toList_eq] at hb
  have hb' : encL (oneV s p n).toNat = ((bl s).drop p).take n := by
    rw [← bytesR_bl _ h0 hN]
    show (bytesR (oneV s p n)).data.toList = _
    rw [hb, cut_bytes1, show ((p : Int)).toNat = p by omega, show (((p : Int) + (n : Int)).toNat - p) = n by omega]
  have hl : ((bl s).drop p).length = s.size - p := by rw [List.length_drop, bl_len]
  have hlen : (encL (oneV s p n).toNat).length = n := by rw [hb', List.length_take, hl]; omega
  have hd := decode_encL (oneV s p n).toNat hN (((bl s).drop p).drop n)
  rw [hlen, hb', List.take_append_drop] at hd
  have h1' : 1 ≤ oneV s p n := by obtain ⟨a, _⟩ := hN; omega
  refine ⟨hd, h1', ?_⟩
  unfold badL
  rw [hd, decide_eq_false (show ¬ (oneV s p n).toNat = 0 by omega), Bool.or_false, decide_eq_false]
  rintro ⟨e1, e2⟩
  simp only at e1 e2
  rw [e1, e2] at hlen
  exact absurd hlen (by decide)
theorem encZ (c : Nat) (h : runeN c) : Lib.encodeRune (c : Int) = encL c := by
  obtain ⟨h1, h2, h3⟩ := h
  have tb : ∀ x : Int, ∀ n : Nat, x = (n : Int) → x.toNat.toUInt8 = UInt8.ofNat n := fun x n h => by subst h; rfl
  unfold Lib.encodeRune encL
  by_cases c1 : c < 128
  · rw [if_pos c1, Lib.encodeRuneZ_one (by omega) (by omega)]
    rfl
  rw [if_neg c1]
  by_cases c2 : c < 2048
  · rw [if_pos c2, Lib.encodeRuneZ_two (by omega) (by omega)]
    simp only [List.map_cons, List.map_nil]
    rw [tb _ (192 + c / 64) (by omega), tb _ (128 + c % 64) (by omega)]
  rw [if_neg c2]
  by_cases c3 : c < 65536
  · rw [if_pos c3, Lib.encodeRuneZ_three (by omega)]
    simp only [List.map_cons, List.map_nil]
    rw [tb _ (224 + c / 4096) (by omega), tb _ (128 + c / 64 % 64) (by omega), tb _ (128 + c % 64) (by omega)]
  · rw [if_neg c3, Lib.encodeRuneZ_four (by omega) (by omega)]
    simp only [List.map_cons, List.map_nil]
    rw [tb _ (240 + c / 262144) (by omega), tb _ (128 + c / 4096 % 64) (by omega), tb _ (128 + c / 64 % 64) (by omega), tb _ (128 + c % 64) (by omega)]
theorem badL_false {l : List UInt8} (h : badL l = false) : ¬ ((Lib.decodeL l).1 = 65533 ∧ (Lib.decodeL l).2 = 1) ∧ (Lib.decodeL l).1 ≠ 0 := by
  unfold badL at h
  rw [Bool.or_eq_false_iff, decide_eq_false_iff_not, decide_eq_false_iff_not] at h
  exact h
theorem decode_rune (l : List UInt8) (hne : l ≠ []) (h : badL l = false) : runeN (Lib.decodeL l).1 ∧ (Lib.decodeL l).2 ≤ 4 := by
  obtain ⟨hv, h0⟩ := badL_false h
  have k0 := (l.getD 0 0).toNat_lt
  have k1 := (l.getD 1 0).toNat_lt
  have k2 := (l.getD 2 0).toNat_lt
  have k3 := (l.getD 3 0).toNat_lt
  rw [Lib.decodeL_N] at hv h0 ⊢
  unfold runeN
  rcases Lib.decodeN_shape l.length (l.getD 0 0).toNat (l.getD 1 0).toNat (l.getD 2 0).toNat (l.getD 3 0).toNat with ⟨c, e⟩ | ⟨c1, c2, c3, cv, e⟩ | ⟨c1, c2, c3, c4, cv, cs, e⟩ | ⟨c1, c2, c3, c4, c5, cv, cw, e⟩ | e
  · rw [e] at h0 ⊢; simp only at h0 ⊢; omega
  · rw [e]; simp only; omega
  · rw [e]; simp only; omega
  · rw [e]; simp only; omega
  · rw [e] at hv; exact absurd ⟨rfl, rfl⟩ hv
theorem oneV_dec (s : ByteArray) (p : Nat) (hp : p < s.size) (h : badL ((bl s).drop p) = false) : oneV s p (Lib.decodeL ((bl s).drop p)).2 = ((Lib.decodeL ((bl s).drop p)).1 : Int) := by
  obtain ⟨hv, h0⟩ := badL_false h
  have hl : ((bl s).drop p).length = s.size - p := by rw [List.length_drop, bl_len]
  have b0 := bt_drop s p 0 (by omega)
  rw [show (p : Int) + ((0 : Nat) : Int) = (p : Int) by omega] at b0
  have b1 := fun h => bt_drop s p 1 h
  have b2 := fun h => bt_drop s p 2 h
  have b3 := fun h => bt_drop s p 3 h
  generalize (bl s).drop p = l at *
  rw [Lib.decodeL_N] at hv h0 ⊢
  rcases Lib.decodeN_shape l.length (l.getD 0 0).toNat (l.getD 1 0).toNat (l.getD 2 0).toNat (l.getD 3 0).toNat with ⟨c, e⟩ | ⟨c1, c2, c3, cv, e⟩ | ⟨c1, c2, c3, c4, cv, cs, e⟩ | ⟨c1, c2, c3, c4, c5, cv, cw, e⟩ | e
  · rw [e]; exact b0
  · have b1 := b1 (by omega)
    rw [e]
    show 64 * (bt s p % 32) + bt s ((p : Int) + 1) % 64 = _
    rw [b0, show (1 : Int) = ((1 : Nat) : Int) from rfl, b1]
    simp only
    omega
  · have b1 := b1 (by omega)
    have b2 := b2 (by omega)
    rw [e]
    show 64 * (64 * (bt s p % 16) + bt s ((p : Int) + 1) % 64) + bt s ((p : Int) + 2) % 64 = _
    rw [b0, show (1 : Int) = ((1 : Nat) : Int) from rfl, b1, show (2 : Int) = ((2 : Nat) : Int) from rfl, b2]
    simp only
    omega
  · have b1 := b1 (by omega)
    have b2 := b2 (by omega)
    have b3 := b3 (by omega)
    rw [e]
    show 64 * (64 * (64 * (bt s p % 8) + bt s ((p : Int) + 1) % 64) + bt s ((p : Int) + 2) % 64) + bt s ((p : Int) + 3) % 64 = _
    rw [b0, show (1 : Int) = ((1 : Nat) : Int) from rfl, b1, show (2 : Int) = ((2 : Nat) : Int) from rfl, b2, show (3 : Int) = ((3 : Nat) : Int) from rfl, b3]
    simp only
    omega
  · rw [e] at hv; exact absurd ⟨rfl, rfl⟩ hv
theorem oneR_bad (s : ByteArray) (p : Nat) (h : badL ((bl s).drop p) = true) : oneR s p = (0, 0) := by
  have key : ∀ f n : Nat, 1 ≤ n → n + f ≤ 5 → oneF s p f n = (0, 0) := by
    intro f
    induction f with
    | zero => intro n _ _; rfl
    | succ f ih =>
      intro n h1 h2
      rw [oneF]
      split
      · rename_i hle
        have hc : oneC s p n = false := by
          cases hc : oneC s p n with
          | false => rfl
          | true =>
            have := (oneC_true s p n h1 (by omega) (by omega) hc).2.2
            rw [h] at this
            cases this
        rw [hc, if_neg (by decide)]
        exact ih (n + 1) (by omega) (by omega)
      · rfl
  exact key 4 1 (by decide) (by decide)
theorem oneR_good (s : ByteArray) (p : Nat) (hp : p < s.size) (h : badL ((bl s).drop p) = false) : oneR s p = (((Lib.decodeL ((bl s).drop p)).1 : Int), ((Lib.decodeL ((bl s).drop p)).2 : Int)) := by
  have hl : ((bl s).drop p).length = s.size - p := by rw [List.length_drop, bl_len]
  have hne : (bl s).drop p ≠ [] := by intro e; rw [e] at hl; simp at hl; omega
  obtain ⟨hv, h0⟩ := badL_false h
  have hV := oneV_dec s p hp h
  obtain ⟨hN, hn4⟩ := decode_rune _ hne h
  have hw := Lib.decodeL_width ((bl s).drop p)
  have hle := Lib.decodeL_le _ hne
  have henc := Lib.encode_decode _ hne hv
  rw [encZ _ hN] at henc
  obtain ⟨c, m, hcm⟩ : ∃ c m, Lib.decodeL ((bl s).drop p) = (c, m) := ⟨_, _, rfl⟩
  rw [hcm] at hV hN hn4 hw hle henc ⊢
  simp only at hV hN hn4 hw hle henc ⊢
  have hC : oneC s p m = true := by
    unfold oneC
    rw [Bool.and_eq_true, beq_iff_eq, hV]
    refine ⟨(runeR_N _).2 ⟨by omega, by rw [Int.toNat_natCast]; exact hN⟩, ?_⟩
    rw [ByteArray.toList_eq, ByteArray.toList_eq]
    show bl (bytesR (c : Int)) = _
    rw [bytesR_bl _ (by omega) (by rw [Int.toNat_natCast]; exact hN), Int.toNat_natCast, henc, cut_bytes1, show ((p : Int)).toNat = p by omega, show (((p : Int) + (m : Int)).toNat - p) = m by omega]
  have key : ∀ f n : Nat, 1 ≤ n → n ≤ m → n + f = 5 → oneF s p f n = ((c : Int), (m : Int)) := by
    intro f
    induction f with
    | zero => intro n h1 h2 h3; omega
    | succ f ih =>
      intro n h1 h2 h3
      rw [oneF, if_pos (by omega)]
      by_cases hnm : n = m
      · subst hnm
        rw [if_pos hC, hV]
      · have hc : oneC s p n = false := by
          cases hc : oneC s p n with
          | false => rfl
          | true =>
            have := (oneC_true s p n h1 (by omega) (by omega) hc).1
            rw [hcm] at this
            injection this with _ e
            exact absurd e.symm hnm
        rw [hc, if_neg (by decide)]
        exact ih (n + 1) (by omega) (by omega) (by omega)
  exact key 4 1 (by decide) hw (by decide)
end Go.Proofs.YtplkdfkahcpoeaaDoor.P
