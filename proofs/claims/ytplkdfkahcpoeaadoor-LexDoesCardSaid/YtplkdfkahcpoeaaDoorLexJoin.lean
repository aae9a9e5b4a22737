/- Layer 19, plain: how a text's tokens follow from its parts. No program in sight. -/
import Derived.Test.YtplkdfkahcpoeaaDoorLexPlain
import Derived.Test.YtplkdfkahcpoeaaDoorLexMoved
namespace Go.Proofs.YtplkdfkahcpoeaaDoor.P
open Go.RowKit
set_option linter.unusedVariables false
set_option linter.unusedSimpArgs false
/-! ### a line's end behind a text turns no rune -/
theorem getD_app1 (l : List UInt8) (t : List UInt8) (i : Nat) : (l ++ 10 :: t).getD i 0 = if i < l.length then l.getD i 0 else if i = l.length then 10 else t.getD (i - l.length - 1) 0 := by
  rw [List.getD_eq_getElem?_getD]
  split
  · rename_i h
    rw [List.getElem?_append_left h, List.getD_eq_getElem?_getD]
  · rename_i h
    rw [List.getElem?_append_right (by omega)]
    split
    · rename_i h2
      rw [h2, Nat.sub_self]; rfl
    · rename_i h2
      obtain ⟨k, hk⟩ : ∃ k, i - l.length = k + 1 := ⟨i - l.length - 1, by omega⟩
      rw [hk, List.getElem?_cons_succ, List.getD_eq_getElem?_getD]
      rfl
theorem decodeN_app (n m b0 b1 b2 b3 c1 c2 c3 : Nat) (hn : 0 < n) (hm : n < m) (h1 : 1 < n → c1 = b1) (e1 : n = 1 → c1 = 10) (h2 : 2 < n → c2 = b2) (e2 : n = 2 → c2 = 10) (h3 : 3 < n → c3 = b3) (e3 : n = 3 → c3 = 10) :
    Lib.decodeN m b0 c1 c2 c3 = Lib.decodeN n b0 b1 b2 b3 := by
  obtain rfl | rfl | rfl | h4 : n = 1 ∨ n = 2 ∨ n = 3 ∨ 3 < n := by omega
  · have := e1 rfl
    subst this
    simp [Lib.decodeN]
  · have a1 := h1 (by decide)
    have a2 := e2 rfl
    subst a1 a2
    simp [Lib.decodeN, hm, show 1 < m by omega]
  · have a1 := h1 (by decide)
    have a2 := h2 (by decide)
    have a3 := e3 rfl
    subst a1 a2 a3
    simp [Lib.decodeN, hm, show 1 < m by omega, show 2 < m by omega]
  · have a1 := h1 (by omega)
    have a2 := h2 (by omega)
    have a3 := h3 h4
    subst a1 a2 a3
    simp [Lib.decodeN, show 1 < m by omega, show 2 < m by omega, show 3 < m by omega, show 1 < n by omega, show 2 < n by omega, h4]
theorem decodeL_app (l t : List UInt8) (h : l ≠ []) : Lib.decodeL (l ++ 10 :: t) = Lib.decodeL l := by
  have hl : 0 < l.length := List.length_pos_iff.2 h
  rw [Lib.decodeL_N, Lib.decodeL_N]
  have g := getD_app1 l t
  have z := g 0
  rw [if_pos hl] at z
  rw [z]
  refine decodeN_app _ _ _ _ _ _ _ _ _ hl (by simp) ?_ ?_ ?_ ?_ ?_ ?_
  · intro k; rw [g 1, if_pos k]
  · intro k; rw [g 1, if_neg (by omega), if_pos k.symm]; rfl
  · intro k; rw [g 2, if_pos k]
  · intro k; rw [g 2, if_neg (by omega), if_pos k.symm]; rfl
  · intro k; rw [g 3, if_pos k]
  · intro k; rw [g 3, if_neg (by omega), if_pos k.symm]; rfl
theorem takeWhile_app {α : Type} (p : α → Bool) (x : α) (hx : p x = false) (t : List α) : ∀ l : List α, (l ++ x :: t).takeWhile p = l.takeWhile p
  | [] => by simp [hx]
  | a :: l => by
    rw [List.cons_append, List.takeWhile_cons, List.takeWhile_cons, takeWhile_app p x hx t l]
theorem letN_app (l t : List UInt8) : letN (l ++ 10 :: t) = letN l := by
  unfold letN
  rw [takeWhile_app letB 10 (by decide) t l]
theorem letN_le (l : List UInt8) : letN l ≤ l.length := (List.takeWhile_sublist _).length_le
theorem bendL_app (r t : List UInt8) : bendL (r ++ 10 :: t) = bendL r := by
  cases r with
  | nil => 
    rw [List.nil_append, bendL, bendL, if_neg (by decide), if_neg (by decide), if_pos (by simp [letN, letB])]
  | cons d r =>
    rw [List.cons_append, bendL, bendL]
    have h := letN_app (d :: r) t
    rw [List.cons_append] at h
    rw [h]
    have hle := letN_le (d :: r)
    have htk : (d :: (r ++ 10 :: t)).take (letN (d :: r)) = (d :: r).take (letN (d :: r)) := by
      rw [← List.cons_append, List.take_append_of_le_length hle]
    rw [htk]
theorem nextL_app (l t : List UInt8) (h : l ≠ []) : nextL (l ++ 10 :: t) = nextL l := by
  cases l with
  | nil => exact absurd rfl h
  | cons b r =>
    have hd := decodeL_app (b :: r) t (by simp)
    rw [List.cons_append] at hd ⊢
    rw [nextL, nextL, hd, bendL_app]
theorem nextL_in (l : List UInt8) (h : l ≠ []) (he : (nextL l).2.2.2.2 = 0) : 1 ≤ (nextL l).2.2.2.1 ∧ (nextL l).2.2.2.1 ≤ (l.length : Int) := by
  obtain ⟨s, hs⟩ : ∃ s : ByteArray, s = ⟨l.toArray⟩ := ⟨_, rfl⟩
  have hb : bl s = l := by rw [hs, bl_mk]
  have hz : s.size = l.length := by rw [← bl_len, hb]
  have := nextS_bl s (by rw [hb]; exact h)
  rw [hb] at this
  rw [← this] at he ⊢
  rw [← hz]
  exact nextS_in s (by rw [hz]; exact List.length_pos_iff.2 h) he
/-! ### all tokens; a place is told by what is left -/
def lexE : Nat → Int → List UInt8 → Toks
  | 0, E, _ => ([], E, 0)
  | f + 1, E, l => if l = [] then ([], E, 0) else if (nextL l).2.2.2.2 ≠ 0 then ([], E - l.length, (nextL l).2.2.2.2)
      else combT [⟨(nextL l).1, (nextL l).2.1, (nextL l).2.2.1, E - l.length⟩] (lexE f E (skp false (l.drop (nextL l).2.2.2.1.toNat)))
theorem lexE_nil (f : Nat) (E : Int) : lexE f E [] = ([], E, 0) := by cases f <;> rfl
theorem comb_comb (a b : List S37) (X : Toks) : combT a (combT b X) = combT (a ++ b) X := by
  unfold combT
  obtain ⟨x, y, z⟩ := X
  by_cases h : z = 0
  · simp [h]
  · simp [h]
theorem allF_lexE (s : ByteArray) : ∀ (f p : Nat), p ≤ s.size → s.size < p + f → allF s f p = lexE f s.size ((bl s).drop p)
  | 0, p, h1, h2 => by omega
  | f + 1, p, h1, h2 => by
    rw [lexE]
    have hlen : ((bl s).drop p).length = s.size - p := by rw [List.length_drop, bl_len]
    by_cases hp : p < s.size
    · have hne : (bl s).drop p ≠ [] := by
        intro h
        rw [h] at hlen
        simp at hlen
        omega
      have hn := nextS_bl (sufS s p) (by rw [sufS_bl]; exact hne)
      rw [sufS_bl] at hn
      rw [if_neg hne]
      obtain ⟨T, hT⟩ : ∃ T, nextL ((bl s).drop p) = T := ⟨_, rfl⟩
      have hin := nextL_in ((bl s).drop p) hne
      rw [hT] at hn hin ⊢
      obtain ⟨k, r, wd, n, e⟩ := T
      simp only at hin ⊢
      have e0 := comb_nil (allF s (f + 1) p) (allF_nil s (f + 1) p)
      by_cases he : e = 0
      · subst he
        have hin := hin rfl
        rw [hlen] at hin
        rw [← e0, allF_step s f p k r wd n hp hn _ rfl [], if_neg (by simp)]
        have hq : p + n.toNat + blankN (sufS s (p + n.toNat)) ≤ s.size := by
          have := blankN_le (sufS s (p + n.toNat))
          rw [sufS_size] at this
          omega
        rw [allF_lexE s f _ hq (by omega), List.nil_append, hlen, show (s.size : Int) - ((s.size - p : Nat) : Int) = (p : Int) by omega]
        have hd : (bl s).drop (p + n.toNat + blankN (sufS s (p + n.toNat))) = skp false (((bl s).drop p).drop n.toNat) := by
          rw [← List.drop_drop, List.drop_drop (i := n.toNat)]
          have h3 := (skp_len false ((bl s).drop (p + n.toNat))).2
          rw [blank_bl, sufS_bl]
          exact h3.symm
        rw [hd]
      · rw [if_pos he, ← e0, allF_err s f p k r wd n e hp hn he [], hlen, show (s.size : Int) - ((s.size - p : Nat) : Int) = (p : Int) by omega]
    · have hnil : (bl s).drop p = [] := List.eq_nil_of_length_eq_zero (by omega)
      rw [allF_end s _ p hp, if_pos hnil]
      congr 2
      omega
theorem skp_le (c : Bool) (l : List UInt8) : (skp c l).length ≤ l.length := (skp_len c l).1
theorem lexE_fuel : ∀ (f g : Nat) (E : Int) (l : List UInt8), l.length < f → l.length < g → lexE f E l = lexE g E l
  | 0, g, E, l, h, _ => by omega
  | f + 1, 0, E, l, _, h => by omega
  | f + 1, g + 1, E, l, h1, h2 => by
    rw [lexE, lexE]
    by_cases hne : l = []
    · rw [if_pos hne, if_pos hne]
    rw [if_neg hne, if_neg hne]
    by_cases he : (nextL l).2.2.2.2 = 0
    · have hin := nextL_in l hne he
      have hsk := skp_le false (l.drop (nextL l).2.2.2.1.toNat)
      rw [List.length_drop] at hsk
      rw [if_neg (by simp [he]), if_neg (by simp [he]), lexE_fuel f g E _ (by omega) (by omega)]
    · rw [if_pos he, if_pos he]
def shiftT (d : Int) (X : Toks) : Toks := (X.1.map (movT d), X.2.1 + d, X.2.2)
theorem shift_comb (d : Int) (a : List S37) (X : Toks) : shiftT d (combT a X) = combT (a.map (movT d)) (shiftT d X) := by
  unfold combT shiftT
  obtain ⟨x, y, z⟩ := X
  by_cases h : z = 0
  · simp [h]
  · simp [h]
theorem lexE_shift (d : Int) : ∀ (f : Nat) (E : Int) (l : List UInt8), lexE f (E + d) l = shiftT d (lexE f E l)
  | 0, E, l => rfl
  | f + 1, E, l => by
    rw [lexE, lexE]
    by_cases hne : l = []
    · rw [if_pos hne, if_pos hne]; rfl
    rw [if_neg hne, if_neg hne]
    by_cases he : (nextL l).2.2.2.2 = 0
    · rw [if_neg (by simp [he]), if_neg (by simp [he]), shift_comb, lexE_shift d f E]
      simp only [List.map_cons, List.map_nil, movT]
      rw [show E + d - (l.length : Int) = E - (l.length : Int) + d by omega]
    · rw [if_pos he, if_pos he]
      unfold shiftT
      simp only [List.map_nil]
      rw [show E + d - (l.length : Int) = E - (l.length : Int) + d by omega]
/-- Two texts, with a line's end between. -/
def thenT (X Y : Toks) : Toks := if X.2.2 ≠ 0 then X else combT X.1 Y
theorem then_comb (a : List S37) (X Y : Toks) (h : X.2.2 ≠ 0 → X.1 = []) : thenT (combT a X) Y = combT a (thenT X Y) := by
  obtain ⟨x, y, z⟩ := X
  by_cases hz : z = 0
  · subst hz
    unfold thenT
    rw [if_neg (by simp [combT]), if_neg (by simp), comb_comb]
    simp [combT]
  · unfold thenT
    rw [if_pos (by simp [combT, hz]), if_pos hz]
theorem lexE_err : ∀ (f : Nat) (E : Int) (l : List UInt8), (lexE f E l).2.2 ≠ 0 → (lexE f E l).1 = []
  | 0, E, l, h => absurd rfl h
  | f + 1, E, l, h => by
    rw [lexE] at h ⊢
    split at h
    · exact absurd rfl h
    rename_i h1
    rw [if_neg h1]
    split at h
    · rename_i h2; rw [if_pos h2]
    rename_i h2
    rw [if_neg h2]
    unfold combT at h ⊢
    split at h
    · rename_i h3; rw [if_pos h3]
    · exact absurd rfl h
theorem lexE_app (t : List UInt8) (E : Int) (g : Nat) (hg : t.length < g) : ∀ (n : Nat) (l : List UInt8) (f h : Nat), l.length ≤ n → l.length < f → l.length + 1 + t.length < h →
    lexE h (E + 1 + t.length) (skp false (l ++ 10 :: t)) = thenT (lexE f E (skp false l)) (lexE g (E + 1 + t.length) (skp false t)) := by
  intro n
  induction n with
  | zero =>
    intro l f h hn hf hh
    have hl : l = [] := List.eq_nil_of_length_eq_zero (by omega)
    subst hl
    rw [skp_app, skp_nil, if_pos rfl, lexE_nil]
    unfold thenT
    rw [if_neg (by simp), comb_nil _ (lexE_err _ _ _)]
    have := skp_le false t
    exact lexE_fuel _ _ _ _ (by simp at hh; omega) (by omega)
  | succ n ih =>
    intro l f h hn hf hh
    rw [skp_app]
    have hsl := skp_le false l
    by_cases hne : skp false l = []
    · rw [if_pos hne, hne, lexE_nil]
      unfold thenT
      rw [if_neg (by simp), comb_nil _ (lexE_err _ _ _)]
      have := skp_le false t
      exact lexE_fuel _ _ _ _ (by omega) (by omega)
    rw [if_neg hne]
    generalize skp false l = x at hne hsl
    have hx : 0 < x.length := List.length_pos_iff.2 hne
    obtain ⟨f, rfl⟩ : ∃ k, f = k + 1 := ⟨f - 1, by omega⟩
    obtain ⟨h, rfl⟩ : ∃ k, h = k + 1 := ⟨h - 1, by omega⟩
    rw [lexE, lexE, if_neg (by simp), if_neg hne, nextL_app x t hne]
    by_cases he : (nextL x).2.2.2.2 = 0
    · have hin := nextL_in x hne he
      rw [if_neg (by simp [he]), if_neg (by simp [he])]
      have hd : (x ++ 10 :: t).drop (nextL x).2.2.2.1.toNat = x.drop (nextL x).2.2.2.1.toNat ++ 10 :: t := by rw [List.drop_append_of_le_length (by omega)]
      have hdl : (x.drop (nextL x).2.2.2.1.toNat).length = x.length - (nextL x).2.2.2.1.toNat := List.length_drop
      rw [hd, ih (x.drop (nextL x).2.2.2.1.toNat) f h (by omega) (by omega) (by omega), then_comb _ _ _ (lexE_err _ _ _)]
      congr 3
      rw [List.length_append, List.length_cons]
      omega
    · rw [if_pos he, if_pos he]
      unfold thenT
      rw [if_pos he]
      congr 2
      rw [List.length_append, List.length_cons]
      omega
/-! ### the whole -/
theorem index_zero : ∀ l : List UInt8, decide (0 ≤ Lib.indexByte l 0) = l.contains 0
  | [] => rfl
  | b :: r => by
    rw [Lib.indexByte, List.contains_cons, ← index_zero r]
    by_cases h : b = 0
    · subst h; rfl
    · have hb : (b == 0) = false := beq_eq_false_iff_ne.mpr h
      have hb' : ((0 : UInt8) == b) = false := beq_eq_false_iff_ne.mpr (fun e => h e.symm)
      rw [hb, hb', Bool.false_or]
      rcases indexByte_lt 0 r with h1 | ⟨h1, h2⟩
      · rw [h1]; rfl
      · have hnb : (Lib.indexByte r 0 == -1) = false := beq_eq_false_iff_ne.mpr (by omega)
        rw [hnb]
        simp only [Bool.false_eq_true, if_false]
        rw [decide_eq_true h1, decide_eq_true (by omega)]
def okL (l : List UInt8) : Bool := Lib.validD l && !l.contains 0
theorem okS_L (s : ByteArray) : okS s = okL (bl s) := by
  unfold okS okL
  rw [index_zero]
theorem runesS_err (s : ByteArray) : (runesS s).2 = if okL (bl s) then 0 else 5 := by
  unfold runesS
  rw [okS_L]
  split <;> rfl
def allL (l : List UInt8) : Toks := if okL l then lexE (l.length + 1) l.length (skp false l) else ([], 0, 5)
theorem allS_L (s : ByteArray) (h : s.size ≤ 65536) : allS s = allL (bl s) := by
  unfold allS allL
  rw [if_neg (by omega), runesS_err]
  by_cases ho : okL (bl s) = true
  · rw [if_pos ho, if_pos ho, if_neg (by simp), allF_lexE s _ _ (blankN_le s) (by omega), bl_len, blank_bl]
    have h3 := (skp_len false (bl s)).2
    rw [← h3]
  · rw [if_neg ho, if_neg ho, if_pos (by decide)]
theorem validD_app : ∀ (n : Nat) (l t : List UInt8), l.length ≤ n → Lib.validD (l ++ 10 :: t) = (Lib.validD l && Lib.validD t)
  | n, [], t, _ => by
    rw [List.nil_append, Lib.validD_cons 10 t (by decide), Lib.validD_nil, Bool.true_and]
  | 0, b :: l, t, h => by simp at h
  | n + 1, b :: l, t, h => by
    have hne : b :: l ≠ [] := by simp
    have hd := decodeL_app (b :: l) t hne
    have hw := Lib.decodeL_width (b :: l)
    have hle := Lib.decodeL_le (b :: l) hne
    rw [Lib.validD_step _ (by simp), Lib.validD_step (b :: l) hne, hd]
    split
    · rfl
    · rw [List.drop_append_of_le_length hle]
      refine validD_app n _ t ?_
      rw [List.length_drop]
      omega
theorem okL_app (l t : List UInt8) : okL (l ++ 10 :: t) = (okL l && okL t) := by
  unfold okL
  have hc : (l ++ 10 :: t).contains (0 : UInt8) = (l.contains 0 || t.contains 0) := by
    rw [Bool.eq_iff_iff]
    simp
  rw [validD_app l.length l t (Nat.le_refl _), hc]
  cases Lib.validD l <;> cases Lib.validD t <;> cases l.contains (0 : UInt8) <;> cases t.contains (0 : UInt8) <;> rfl
/-- Two sources, with a line's end between. -/
theorem allL_join (l t : List UInt8) : allL (l ++ 10 :: t) = if okL l && okL t then thenT (allL l) (shiftT (l.length + 1) (allL t)) else ([], 0, 5) := by
  unfold allL
  rw [okL_app]
  by_cases h : (okL l && okL t) = true
  · rw [if_pos h, if_pos h]
    rw [Bool.and_eq_true] at h
    rw [if_pos h.1, if_pos h.2, ← lexE_shift]
    have := lexE_app t (l.length : Int) (t.length + 1) (by omega) l.length l (l.length + 1) ((l ++ 10 :: t).length + 1) (Nat.le_refl _) (by omega) (by rw [List.length_append, List.length_cons]; omega)
    rw [show ((l ++ 10 :: t).length : Int) = (l.length : Int) + 1 + (t.length : Int) by rw [List.length_append, List.length_cons]; omega, show (t.length : Int) + ((l.length : Int) + 1) = (l.length : Int) + 1 + (t.length : Int) by omega]
    exact this
  · rw [if_neg h, if_neg h]
end Go.Proofs.YtplkdfkahcpoeaaDoor.P
