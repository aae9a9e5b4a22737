/- Layer 19, plain: the document's tokens and runes are the program's. No program in sight. -/
import Derived.Test.YtplkdfkahcpoeaaDoorLexRef
import Derived.Test.YtplkdfkahcpoeaaDoorLawP19
import Derived.Test.YtplkdfkahcpoeaaDoorPx6
import Derived.Test.YtplkdfkahcpoeaaDoorPx7
import Derived.Test.YtplkdfkahcpoeaaDoorPx5
namespace Go.Proofs.YtplkdfkahcpoeaaDoor.P
open Go.RowKit Go.Proofs.YtplkdfkahcpoeaaDoorW.PrintWords
set_option linter.unusedVariables false
set_option linter.unusedSimpArgs false
theorem head_c (b : UInt8) (t : List UInt8) (hv : ¬ ((Lib.decodeL (b :: t)).1 = 65533 ∧ (Lib.decodeL (b :: t)).2 = 1)) :
    ((Lib.decodeL (b :: t)).1 < 128 ∧ b.toNat = (Lib.decodeL (b :: t)).1 ∧ (Lib.decodeL (b :: t)).2 = 1) ∨ (128 ≤ (Lib.decodeL (b :: t)).1 ∧ 128 ≤ b.toNat) := by
  rw [Lib.decodeL_N] at hv ⊢
  have hb : (b :: t).getD 0 0 = b := rfl
  rw [hb] at hv ⊢
  have k0 := b.toNat_lt
  rcases Lib.decodeN_shape (b :: t).length b.toNat ((b :: t).getD 1 0).toNat ((b :: t).getD 2 0).toNat ((b :: t).getD 3 0).toNat with ⟨c, e⟩ | ⟨c1, c2, c3, cv, e⟩ | ⟨c1, c2, c3, c4, cv, cs, e⟩ | ⟨c1, c2, c3, c4, c5, cv, cw, e⟩ | e
  · rw [e]; exact .inl ⟨c, rfl, rfl⟩
  · rw [e]; right; simp only; omega
  · rw [e]; right; simp only; omega
  · rw [e]; right; simp only; omega
  · rw [e] at hv; exact absurd ⟨rfl, rfl⟩ hv
theorem okL_step (l : List UInt8) (hne : l ≠ []) : okL l = if badL l then false else okL (l.drop (Lib.decodeL l).2) := by
  unfold okL
  rw [Lib.validD_step l hne]
  by_cases hv : (Lib.decodeL l).1 = 65533 ∧ (Lib.decodeL l).2 = 1
  · have hb : badL l = true := by unfold badL; rw [decide_eq_true hv]; rfl
    rw [if_pos hv, hb]
    rfl
  rw [if_neg hv]
  by_cases h0 : (Lib.decodeL l).1 = 0
  · have hb : badL l = true := by unfold badL; rw [decide_eq_true h0, Bool.or_true]
    rw [hb, if_pos rfl]
    cases l with
    | nil => exact absurd rfl hne
    | cons b t =>
      rcases head_c b t hv with ⟨_, h1, _⟩ | ⟨h1, _⟩
      · have : b = 0 := UInt8.toNat_inj.1 (by rw [h1, h0]; rfl)
        subst this
        simp
      · omega
  · have hb : badL l = false := by unfold badL; rw [decide_eq_false hv, decide_eq_false h0]; rfl
    rw [hb, if_neg (by decide)]
    obtain ⟨hN, _⟩ := decode_rune l hne hb
    have henc := Lib.encode_decode l hne hv
    rw [encZ _ hN] at henc
    obtain ⟨_, _, _, _, hz⟩ := encL_head _ hN
    have hc : l.contains (0 : UInt8) = (l.drop (Lib.decodeL l).2).contains 0 := by
      rw [Bool.eq_iff_iff]
      simp only [List.contains_eq_mem, decide_eq_true_eq]
      constructor
      · intro hm
        have hm2 : (0 : UInt8) ∈ l.take (Lib.decodeL l).2 ++ l.drop (Lib.decodeL l).2 := by rw [List.take_append_drop]; exact hm
        rw [List.mem_append] at hm2
        rcases hm2 with h | h
        · rw [← henc] at h
          exact absurd rfl (hz 0 h)
        · exact h
      · exact fun h => List.mem_of_mem_drop h
    rw [hc]
theorem decode_drop (s : ByteArray) (p : Nat) : Utf8.decode s p = Lib.decodeL ((bl s).drop p) := by
  rw [Lib.decode_N, Lib.decodeL_N, List.length_drop]
  have g : ∀ i, ((bl s).drop p).getD i 0 = (bl s).getD (p + i) 0 := fun i => by rw [List.getD_eq_getElem?_getD, List.getElem?_drop, ← List.getD_eq_getElem?_getD]
  rw [g 0, g 1, g 2, g 3]
  rfl
theorem one_f (s : ByteArray) (p : Nat) (hp : p < s.size) (hs : s.size ≤ 1000000000) : vinculumref19_one.f s (p : Int) = some (oneR s p) := by
  unfold vinculumref19_one.f
  rw [if_pos ⟨by omega, by omega, hs⟩]
theorem runes_ev (s : ByteArray) (hs : s.size ≤ 1000000000) : ∀ (f p : Nat) (acc : List Int), p ≤ s.size → s.size ≤ p + f → acc.length ≤ p →
    Ev (fun k => vinculumref19_Runes.l0 k s acc (p : Int)) (if okL ((bl s).drop p) then (acc ++ runesI s f p, 0) else ([], 5)) := by
  intro f
  induction f with
  | zero =>
    intro p acc h1 h2 h3
    have hp : p = s.size := by omega
    subst hp
    have hd : (bl s).drop s.size = [] := List.drop_of_length_le (by rw [bl_len]; exact Nat.le_refl _)
    rw [hd, show okL [] = true from rfl, if_pos rfl, runesI, List.append_nil]
    exact Ev.step (f := fun _ => some (acc, 0)) (fun k => by rw [vinculumref19_Runes.l0, if_neg (by omega)]) (Ev.now _)
  | succ f ih =>
    intro p acc h1 h2 h3
    by_cases hp : p < s.size
    · have hl : ((bl s).drop p).length = s.size - p := by rw [List.length_drop, bl_len]
      have hne : (bl s).drop p ≠ [] := by intro e; rw [e] at hl; simp at hl; omega
      rw [okL_step _ hne]
      cases hb : badL ((bl s).drop p) with
      | true =>
        have h1r := oneR_bad s p hb
        rw [if_pos rfl, if_neg (by decide)]
        exact Ev.step (f := fun _ => some ([], 5)) (fun k => by
          rw [vinculumref19_Runes.l0, if_pos (by omega), one_f s p hp hs, h1r]
          rfl) (Ev.now _)
      | false =>
        have h1r := oneR_good s p hp hb
        have hw := Lib.decodeL_width ((bl s).drop p)
        have hle := Lib.decodeL_le _ hne
        simp only [Bool.false_eq_true, if_false]
        rw [List.drop_drop]
        rw [runesI, if_pos hp, decode_drop]
        obtain ⟨c, m, hcm⟩ : ∃ c m, Lib.decodeL ((bl s).drop p) = (c, m) := ⟨_, _, rfl⟩
        rw [hcm] at h1r hw hle ⊢
        simp only at h1r hw hle ⊢
        have := ih (p + m) (acc ++ [(c : Int)]) (by omega) (by omega) (by rw [List.length_append]; simp; omega)
        rw [List.append_assoc] at this
        refine Ev.step (fun k => ?_) this
        rw [vinculumref19_Runes.l0, if_pos (by omega), one_f s p hp hs, h1r]
        simp only [Option.bind_some]
        rw [if_neg (by omega), if_pos (by omega), show wrap64 ((p : Int) + (m : Int)) = ((p + m : Nat) : Int) by unfold wrap64; omega]
    · have hp : p = s.size := by omega
      subst hp
      have hd : (bl s).drop s.size = [] := List.drop_of_length_le (by rw [bl_len]; exact Nat.le_refl _)
      rw [hd, show okL [] = true from rfl, if_pos rfl, runesI, if_neg (by omega), List.append_nil]
      exact Ev.step (f := fun _ => some (acc, 0)) (fun k => by rw [vinculumref19_Runes.l0, if_neg (by omega)]) (Ev.now _)
theorem runes_same (s : ByteArray) (hs : s.size ≤ 1000000000) : Ev (fun k => vinculumref19_Runes.f k s) (runesS s) := by
  have := runes_ev s hs s.size 0 [] (by omega) (by omega) (by simp)
  rw [List.drop_zero, List.nil_append] at this
  have e : runesS s = if okL (bl s) then (runesI s s.size 0, 0) else ([], 5) := by unfold runesS; rw [okS_L]
  rw [e]
  exact this
theorem letM_N (s : ByteArray) (p : Nat) : letM s (p : Int) = letN ((bl s).drop p) := by
  unfold letM letN
  rw [Int.toNat_natCast]
  have : (fun b : UInt8 => letQ (b.toNat : Int)) = letB := funext letQ_B
  rw [this]
theorem signR_high {r : Int} (h : 128 ≤ r) : signR r = false := by
  unfold signR
  rw [decide_eq_false (show ¬ r = 123 by omega), decide_eq_false (show ¬ r = 125 by omega), decide_eq_false (show ¬ r = 94 by omega), decide_eq_false (show ¬ r = 95 by omega), decide_eq_false (show ¬ r = 38 by omega)]
  rfl
/-- The document's token is the program's. -/
theorem nextR_L (s : ByteArray) (p : Nat) (hp : p < s.size) (hb : badL ((bl s).drop p) = false) :
    nextR s p = if (nextL ((bl s).drop p)).2.2.2.2 = 0 then ((nextL ((bl s).drop p)).1, (nextL ((bl s).drop p)).2.1, (nextL ((bl s).drop p)).2.2.1, (p : Int), (p : Int) + (nextL ((bl s).drop p)).2.2.2.1, 0)
      else (0, 0, ⟨#[]⟩, 0, (p : Int), (nextL ((bl s).drop p)).2.2.2.2) := by
  have h1r := oneR_good s p hp hb
  have hv := (badL_false hb).1
  have hl : ((bl s).drop p).length = s.size - p := by rw [List.length_drop, bl_len]
  have b1 := fun h => bt_drop s p 1 h
  have hd1 : (bl s).drop (p + 1) = ((bl s).drop p).drop 1 := by rw [List.drop_drop]
  have hM := letM_N s (p + 1)
  rw [hd1] at hM
  have hwd : ∀ m : Nat, s.extract ((p : Int) + 1).toNat ((p : Int) + 1 + (m : Int)).toNat = ⟨((((bl s).drop p).drop 1).take m).toArray⟩ := fun m => by
    apply bytes_ext1
    rw [cut_bytes1, show ((p : Int) + 1).toNat = p + 1 by omega, show ((p : Int) + 1 + (m : Int)).toNat - (p + 1) = m by omega, ← hd1]
  unfold nextR
  rw [h1r, show ((p : Int) + 1) = ((p + 1 : Nat) : Int) by omega, hM, plnQ_B, sigQ_R, sigQ_R]
  rw [show ((p + 1 : Nat) : Int) = (p : Int) + 1 by omega, hwd]
  generalize (bl s).drop p = l at *
  cases l with
  | nil => simp at hl; omega
  | cons b t =>
    simp only [List.drop_one, List.tail_cons]
    rw [nextL]
    by_cases c1 : plainB ((Lib.decodeL (b :: t)).1 : Int) = true
    · rw [if_pos c1, if_pos c1, if_pos rfl]
    rw [if_neg c1, if_neg c1]
    rcases head_c b t hv with ⟨h1, h2, h3⟩ | ⟨h1, h2⟩
    rotate_left
    · have s1 := signR_high (r := ((Lib.decodeL (b :: t)).1 : Int)) (by omega)
      have s2 := signR_high (r := (b.toNat : Int)) (by omega)
      rw [s1, s2]
      simp only [Bool.false_eq_true, if_false]
      rw [if_pos (.inl (by omega)), if_neg (show ¬ b.toNat = 92 by omega)]
      rfl
    rw [← h2]
    by_cases c2 : signR (b.toNat : Int) = true
    · rw [if_pos c2, if_pos c2, if_pos rfl]
    rw [if_neg c2, if_neg c2]
    by_cases c3 : b.toNat = 92
    rotate_left
    · rw [if_pos (.inl (by omega)), if_neg c3]
      rfl
    rw [if_pos c3]
    cases t with
    | nil =>
      rw [if_pos (.inr (by simp at hl; omega))]
      rfl
    | cons d t =>
      simp only [List.length_cons] at hl
      have b1 := b1 (by omega)
      rw [show ((1 : Nat) : Int) = 1 from rfl] at b1
      have hg : ((b :: d :: t).getD 1 0) = d := rfl
      rw [hg] at b1
      rw [if_neg (show ¬ ((b.toNat : Int) ≠ 92 ∨ (s.size : Int) ≤ (p : Int) + 1) by omega), b1, bendL]
      by_cases c4 : d.toNat = 92
      · rw [if_pos (by omega), if_pos c4]
        rfl
      rw [if_neg (by omega), if_neg c4]
      by_cases c5 : signR (d.toNat : Int) = true ∨ d.toNat = 37
      · rw [if_pos (by rcases c5 with h | h; exact .inl h; exact .inr (by omega)), if_pos c5]
        rfl
      rw [if_neg (by rintro (h | h); exact c5 (.inl h); exact c5 (.inr (by omega))), if_neg c5]
      by_cases c6 : letN (d :: t) = 0
      · rw [if_pos c6, if_pos c6]; rfl
      rw [if_neg c6, if_neg c6]
      by_cases c7 : 32 < letN (d :: t)
      · rw [if_pos c7, if_pos c7]; rfl
      · rw [if_neg c7, if_neg c7, if_pos rfl]
        congr 5
        show (p : Int) + 1 + ((letN (d :: t) : Nat) : Int) = (p : Int) + ((letN (d :: t) : Int) + 1)
        omega
/-! ### all tokens -/
theorem white_f (b : UInt8) : vinculumref19_white.f (b.toNat : Int) = some (whB b) := by
  have := (by decide +kernel : ∀ b : Fin 256, (vinculumref19_white.f ((UInt8.ofNat b.val).toNat : Int)) = some (whB (UInt8.ofNat b.val)))
  have h := this ⟨b.toNat, b.toNat_lt⟩
  simpa using h
theorem okL_skp : ∀ (n : Nat) (c : Bool) (l : List UInt8), l.length ≤ n → okL l = true → okL (skp c l) = true := by
  intro n
  induction n with
  | zero =>
    intro c l h _
    have : l = [] := List.eq_nil_of_length_eq_zero (by omega)
    subst this
    rw [skp_nil]
    rfl
  | succ n ih =>
    intro c l h ho
    cases l with
    | nil => rw [skp_nil]; rfl
    | cons b t =>
      have hs := okL_step (b :: t) (by simp)
      rw [ho] at hs
      cases hb : badL (b :: t) with
      | true => rw [hb] at hs; cases hs
      | false =>
        rw [hb] at hs
        simp only [Bool.false_eq_true, if_false] at hs
        have hv := (badL_false hb).1
        simp only [List.length_cons] at h
        rcases head_c b t hv with ⟨h1, h2, h3⟩ | ⟨h1, h2⟩
        · rw [h3] at hs
          simp only [List.drop_one, List.tail_cons] at hs
          cases c with
          | false =>
            rw [skp]
            split
            · exact ih false t (by omega) hs.symm
            · split
              · exact ih true t (by omega) hs.symm
              · exact ho
          | true =>
            rw [skp]
            split
            · exact ih false t (by omega) hs.symm
            · exact ih true t (by omega) hs.symm
        · have hw := Lib.decodeL_width (b :: t)
          obtain ⟨m, hm⟩ : ∃ m, (Lib.decodeL (b :: t)).2 = m := ⟨_, rfl⟩
          have hne : b :: t ≠ [] := by simp
          have henc := Lib.encode_decode (b :: t) hne hv
          obtain ⟨hN, _⟩ := decode_rune (b :: t) hne hb
          rw [encZ _ hN] at henc
          cases c with
          | false =>
            have hwb : whB b = false := by
              unfold whB whiteB
              simp only [List.contains_eq_mem, decide_eq_false_iff_not, List.mem_cons, List.not_mem_nil, or_false]
              rintro (rfl | rfl | rfl | rfl) <;> exact absurd h2 (by decide)
            rw [skp_head hwb, if_neg (by intro e; subst e; exact absurd h2 (by decide))]
            exact ho
          | true =>
            -- the rune's bytes are all from 128 on
            have hall : ∀ x ∈ (b :: t).take m, 128 ≤ x.toNat := by
              intro x hx
              rw [← hm, ← henc] at hx
              have hbig : ∀ r : Nat, runeN r → 128 ≤ r → ∀ x ∈ encL r, 128 ≤ x.toNat := by
                intro r hr hr2 x hx
                unfold encL at hx
                rw [if_neg (by omega)] at hx
                obtain ⟨_, r2, _⟩ := hr
                split at hx
                · simp only [List.mem_cons, List.not_mem_nil, or_false] at hx
                  rcases hx with rfl | rfl <;> rw [ofNat_lt (by omega)] <;> omega
                · split at hx
                  · simp only [List.mem_cons, List.not_mem_nil, or_false] at hx
                    rcases hx with rfl | rfl | rfl <;> rw [ofNat_lt (by omega)] <;> omega
                  · simp only [List.mem_cons, List.not_mem_nil, or_false] at hx
                    rcases hx with rfl | rfl | rfl | rfl <;> rw [ofNat_lt (by omega)] <;> omega
              exact hbig _ hN h1 x hx
            have hpass : ∀ (m : Nat) (l : List UInt8), (∀ x ∈ l.take m, 128 ≤ x.toNat) → skp true l = skp true (l.drop m) := by
              intro m
              induction m with
              | zero => intro l _; rfl
              | succ m ih2 =>
                intro l hl
                cases l with
                | nil => rfl
                | cons x l =>
                  have hx := hl x (by simp)
                  rw [skp, if_neg (by intro e; subst e; exact absurd hx (by decide)), List.drop_succ_cons]
                  exact ih2 l (fun y hy => hl y (by simp [hy]))
            rw [hpass m _ hall]
            rw [hm] at hs
            have hle := Lib.decodeL_le (b :: t) hne
            refine ih true ((b :: t).drop m) ?_ hs.symm
            rw [List.length_drop, List.length_cons]
            omega
theorem takeW_mem {α : Type} (p : α → Bool) : ∀ (l : List α) (x : α), x ∈ l.takeWhile p → p x = true
  | [], x, h => by simp at h
  | y :: l, x, h => by
    rw [List.takeWhile_cons] at h
    split at h
    · rename_i hy
      rw [List.mem_cons] at h
      rcases h with rfl | h
      · exact hy
      · exact takeW_mem p l x h
    · simp at h
theorem nextL_ok (l : List UInt8) (hne : l ≠ []) (ho : okL l = true) (he : (nextL l).2.2.2.2 = 0) : okL (l.drop (nextL l).2.2.2.1.toNat) = true := by
  have hs := okL_step l hne
  rw [ho] at hs
  cases hb : badL l with
  | true => rw [hb] at hs; cases hs
  | false =>
    rw [hb] at hs
    simp only [Bool.false_eq_true, if_false] at hs
    have hv := (badL_false hb).1
    have asc : ∀ (x : UInt8) (l : List UInt8), x.toNat < 128 → okL (x :: l) = true → okL l = true := by
      intro x l hx h
      unfold okL at h ⊢
      rw [Lib.validD_cons x l hx, List.contains_cons] at h
      simp only [Bool.and_eq_true, Bool.not_eq_true', Bool.or_eq_false_iff] at h ⊢
      exact ⟨h.1, h.2.2⟩
    have ascs : ∀ (m : Nat) (l : List UInt8), (∀ x ∈ l.take m, x.toNat < 128) → okL l = true → okL (l.drop m) = true := by
      intro m
      induction m with
      | zero => intro l _ h; exact h
      | succ m ih =>
        intro l hl h
        cases l with
        | nil => exact h
        | cons x l =>
          rw [List.drop_succ_cons]
          exact ih l (fun y hy => hl y (by simp [hy])) (asc x l (hl x (by simp)) h)
    cases l with
    | nil => exact absurd rfl hne
    | cons b t =>
      rw [nextL] at he ⊢
      by_cases c1 : plainB ((Lib.decodeL (b :: t)).1 : Int) = true
      · rw [if_pos c1]
        simp only [Int.toNat_natCast]
        exact hs.symm
      rw [if_neg c1] at he ⊢
      by_cases c2 : signR (b.toNat : Int) = true
      · rw [if_pos c2]
        refine ascs 1 (b :: t) (fun x hx => ?_) ho
        simp only [List.take_succ_cons, List.take_zero, List.mem_cons, List.not_mem_nil, or_false] at hx
        subst hx
        unfold signR at c2
        simp only [Bool.or_eq_true, decide_eq_true_eq] at c2
        omega
      rw [if_neg c2] at he ⊢
      by_cases c3 : b.toNat = 92
      rotate_left
      · rw [if_neg c3] at he; cases he
      rw [if_pos c3] at he ⊢
      cases t with
      | nil => cases he
      | cons d t =>
        rw [bendL] at he ⊢
        have two : d.toNat < 128 → okL ((b :: d :: t).drop 2) = true := fun hd => by
          refine ascs 2 (b :: d :: t) (fun x hx => ?_) ho
          simp only [List.take_succ_cons, List.take_zero, List.mem_cons, List.not_mem_nil, or_false] at hx
          rcases hx with rfl | rfl
          · omega
          · exact hd
        by_cases c4 : d.toNat = 92
        · rw [if_pos c4]; exact two (by omega)
        rw [if_neg c4] at he ⊢
        by_cases c5 : signR (d.toNat : Int) = true ∨ d.toNat = 37
        · rw [if_pos c5]
          refine two ?_
          rcases c5 with h | h
          · unfold signR at h
            simp only [Bool.or_eq_true, decide_eq_true_eq] at h
            omega
          · omega
        rw [if_neg c5] at he ⊢
        by_cases c6 : letN (d :: t) = 0
        · rw [if_pos c6] at he; cases he
        rw [if_neg c6] at he ⊢
        by_cases c7 : 32 < letN (d :: t)
        · rw [if_pos c7] at he; cases he
        rw [if_neg c7]
        show okL ((b :: d :: t).drop ((letN (d :: t) : Int) + 1).toNat) = true
        rw [show ((letN (d :: t) : Int) + 1).toNat = letN (d :: t) + 1 by omega, List.drop_succ_cons]
        refine ascs _ (d :: t) (fun x hx => ?_) (asc b _ (by omega) ho)
        have htk : ∀ l : List UInt8, l.take (letN l) = l.takeWhile letB := by
          intro l
          unfold letN
          induction l with
          | nil => rfl
          | cons y l ih =>
            rw [List.takeWhile_cons]
            split
            · rw [List.length_cons, List.take_succ_cons, ih]
            · rfl
        rw [htk] at hx
        have hl := takeW_mem letB _ x hx
        unfold letB at hl
        simp only [Bool.or_eq_true, Bool.and_eq_true, decide_eq_true_eq] at hl
        omega
theorem next_f (s : ByteArray) (p : Nat) (hp : p < s.size) (hs : s.size ≤ 1000000000) : vinculumref19_next.f s (p : Int) = some (nextR s p) := by
  unfold vinculumref19_next.f
  rw [if_pos ⟨by omega, by omega, hs⟩]
theorem bt_head (s : ByteArray) (p : Nat) (hp : p < s.size) (b : UInt8) (t : List UInt8) (h : (bl s).drop p = b :: t) : bt s (p : Int) = (b.toNat : Int) := by
  have := bt_drop s p 0 (by omega)
  rw [show (p : Int) + ((0 : Nat) : Int) = (p : Int) by omega, h] at this
  exact this
theorem all_ev (s : ByteArray) (hs : s.size ≤ 70000) : ∀ (n p : Nat) (acc : List S37), p ≤ s.size → s.size ≤ p + n → acc.length ≤ p →
    (∀ f, s.size - p < f → okL (skp false ((bl s).drop p)) = true → Ev (fun k => vinculumref19_All.l0 k s acc (p : Int)) (combT acc (lexE f s.size (skp false ((bl s).drop p))))) ∧
    (∀ f, s.size - p < f → okL (skp true ((bl s).drop p)) = true → Ev (fun k => vinculumref19_All.l1 k s acc (p : Int)) (combT acc (lexE f s.size (skp true ((bl s).drop p))))) := by
  intro n
  induction n with
  | zero =>
    intro p acc h1 h2 h3
    have hp : p = s.size := by omega
    subst hp
    have hd : (bl s).drop s.size = [] := List.drop_of_length_le (by rw [bl_len]; exact Nat.le_refl _)
    have e0 : Ev (fun k => vinculumref19_All.l0 k s acc (s.size : Int)) (acc, (s.size : Int), 0) :=
      Ev.step (f := fun _ => some (acc, (s.size : Int), 0)) (fun k => by rw [vinculumref19_All.l0, if_neg (by omega)]) (Ev.now _)
    rw [hd, skp_nil, skp_nil]
    refine ⟨fun f _ _ => ?_, fun f _ _ => ?_⟩
    · rw [lexE_nil, comb_end]; exact e0
    · rw [lexE_nil, comb_end]
      exact Ev.step (fun k => by rw [vinculumref19_All.l1, if_neg (by omega)]) e0
  | succ n ih =>
    intro p acc h1 h2 h3
    by_cases hp : p < s.size
    rotate_left
    · exact ih p acc h1 (by omega) h3
    have hl : ((bl s).drop p).length = s.size - p := by rw [List.length_drop, bl_len]
    obtain ⟨b, t, hbt⟩ : ∃ b t, (bl s).drop p = b :: t := by
      cases h : (bl s).drop p with
      | nil => rw [h] at hl; simp at hl; omega
      | cons b t => exact ⟨b, t, rfl⟩
    have hb := bt_head s p hp b t hbt
    have ht : (bl s).drop (p + 1) = t := by rw [← List.drop_drop, hbt]; rfl
    have w1 : wrap64 ((p : Int) + 1) = ((p + 1 : Nat) : Int) := by unfold wrap64; omega
    have ih1 := ih (p + 1) acc (by omega) (by omega) (by omega)
    rw [ht] at ih1
    have white : whB b = true → ∀ f, s.size - p < f → okL (skp false t) = true → Ev (fun k => vinculumref19_All.l0 k s acc (p : Int)) (combT acc (lexE f s.size (skp false t))) := fun hw f hf ho => by
      refine Ev.step (fun k => ?_) (ih1.1 f (by omega) ho)
      rw [vinculumref19_All.l0, if_pos (by omega), if_pos (by omega), hb, white_f, hw]
      simp only [Option.bind_some, if_true]
      rw [w1]
    have rem : b ≠ 10 → ∀ f, s.size - p < f → okL (skp true t) = true → Ev (fun k => vinculumref19_All.l1 k s acc (p : Int)) (combT acc (lexE f s.size (skp true t))) := fun hb10 f hf ho => by
      refine Ev.step (fun k => ?_) (ih1.2 f (by omega) ho)
      rw [vinculumref19_All.l1, if_pos (by omega), if_pos (by omega), hb, if_neg (by intro e; exact hb10 (UInt8.toNat_inj.1 (by rw [show (10 : UInt8).toNat = 10 from rfl]; omega))), w1]
    rw [hbt]
    constructor
    · intro f hf ho
      rw [skp] at ho ⊢
      by_cases hw : whB b = true
      · rw [if_pos hw] at ho ⊢
        exact white hw f hf ho
      rw [if_neg hw] at ho ⊢
      simp only [Bool.not_eq_true] at hw
      by_cases h37 : b = 37
      · rw [if_pos h37] at ho ⊢
        refine Ev.step (fun k => ?_) (rem (by rw [h37]; decide) f hf ho)
        rw [vinculumref19_All.l0, if_pos (by omega), if_pos (by omega), hb, white_f, hw]
        simp only [Option.bind_some, Bool.false_eq_true, if_false]
        rw [if_pos (by rw [h37]; rfl)]
      · rw [if_neg h37] at ho ⊢
        rw [← hbt] at ho ⊢
        have hne : (bl s).drop p ≠ [] := by rw [hbt]; simp
        have hst := okL_step _ hne
        rw [ho] at hst
        cases hbd : badL ((bl s).drop p) with
        | true => rw [hbd] at hst; cases hst
        | false =>
          have hN := nextR_L s p hp hbd
          have h37' : ¬ (b.toNat : Int) = 37 := fun e => h37 (UInt8.toNat_inj.1 (by rw [show (37 : UInt8).toNat = 37 from rfl]; omega))
          obtain ⟨f, rfl⟩ : ∃ g, f = g + 1 := ⟨f - 1, by omega⟩
          rw [lexE, if_neg hne]
          have hin := nextL_in ((bl s).drop p) hne
          have hok := nextL_ok ((bl s).drop p) hne ho
          rw [hl] at hin
          rw [hl, show (s.size : Int) - ((s.size - p : Nat) : Int) = (p : Int) by omega]
          obtain ⟨T, hT⟩ : ∃ T, nextL ((bl s).drop p) = T := ⟨_, rfl⟩
          rw [hT] at hN hin hok ⊢
          obtain ⟨k', r', wd', m', e'⟩ := T
          simp only at hN hin hok ⊢
          by_cases he : e' = 0
          · subst he
            have hin := hin rfl
            have hok := hok rfl
            rw [if_pos rfl] at hN
            rw [if_neg (by simp)]
            rw [List.drop_drop] at hok ⊢
            have ih2 := (ih (p + m'.toNat) (acc ++ [⟨k', r', wd', (p : Int)⟩]) (by omega) (by omega) (by rw [List.length_append]; simp; omega)).1 f (by omega) (okL_skp _ false _ (Nat.le_refl _) hok)
            rw [comb_comb]
            refine Ev.step (fun k => ?_) ih2
            rw [vinculumref19_All.l0, if_pos (by omega), if_pos (by omega), hb, white_f, hw]
            simp only [Option.bind_some, Bool.false_eq_true, if_false]
            rw [if_neg h37', next_f s p hp (by omega), hN]
            simp only [Option.bind_some]
            rw [if_pos trivial, if_pos (by omega), show (p : Int) + m' = ((p + m'.toNat : Nat) : Int) by omega]
          · rw [if_neg he] at hN
            rw [if_pos he]
            unfold combT
            rw [if_pos he]
            refine Ev.step (f := fun _ => some ([], (p : Int), e')) (fun k => ?_) (Ev.now _)
            rw [vinculumref19_All.l0, if_pos (by omega), if_pos (by omega), hb, white_f, hw]
            simp only [Option.bind_some, Bool.false_eq_true, if_false]
            rw [if_neg h37', next_f s p hp (by omega), hN]
            simp only [Option.bind_some]
            rw [if_neg he]
    · intro f hf ho
      rw [skp] at ho ⊢
      by_cases h10 : b = 10
      · rw [if_pos h10] at ho ⊢
        refine Ev.step (fun k => ?_) (white (by rw [h10]; decide) f hf ho)
        rw [vinculumref19_All.l1, if_pos (by omega), if_pos (by omega), hb, if_pos (by rw [h10]; rfl)]
      · rw [if_neg h10] at ho ⊢
        exact rem h10 f hf ho
theorem all_same (s : ByteArray) (hs : s.size ≤ 70000) : Ev (fun k => vinculumref19_All.f k s) (allS s) := by
  by_cases hz : 65536 < s.size
  · have e : allS s = ([], 0, 7) := by unfold allS; rw [if_pos hz]
    rw [e]
    exact Ev.congr (f := fun _ => some ([], 0, 7)) (fun k => by unfold vinculumref19_All.f; rw [if_pos (by omega)]) (Ev.now _)
  · have hr := runes_same s (by omega)
    have hre := runesS_err s
    obtain ⟨L, e, hLe⟩ : ∃ L e, runesS s = (L, e) := ⟨_, _, rfl⟩
    rw [hLe] at hr hre
    rw [allS_L s (by omega)]
    unfold allL
    by_cases ho : okL (bl s) = true
    · rw [if_pos ho] at hre ⊢
      simp only at hre
      subst hre
      have := (all_ev s hs s.size 0 [] (by omega) (by omega) (by simp)).1 (s.size + 1) (by omega) (okL_skp _ false _ (Nat.le_refl _) (by rw [List.drop_zero]; exact ho))
      rw [List.drop_zero, comb_nil _ (lexE_err _ _ _), ← bl_len] at this
      refine Ev.congr (f := fun k => (vinculumref19_Runes.f k s).bind fun b => if b.2 = 0 then vinculumref19_All.l0 k s [] 0 else some ([], 0, b.2)) (fun k => by unfold vinculumref19_All.f; rw [if_neg (by omega)]) ?_
      exact Ev.bind hr this
    · rw [if_neg ho] at hre ⊢
      simp only at hre
      subst hre
      refine Ev.congr (f := fun k => (vinculumref19_Runes.f k s).bind fun b => if b.2 = 0 then vinculumref19_All.l0 k s [] 0 else some ([], 0, b.2)) (fun k => by unfold vinculumref19_All.f; rw [if_neg (by omega)]) ?_
      exact Ev.bind hr (Ev.now _)
end Go.Proofs.YtplkdfkahcpoeaaDoor.P
