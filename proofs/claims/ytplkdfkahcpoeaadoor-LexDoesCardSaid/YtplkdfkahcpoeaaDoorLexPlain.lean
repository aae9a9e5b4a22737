/- Layer 19, plain: tokens as a function of lists of bytes: what white and remarks take, what one token takes, how two sources join. No program in sight. -/
import Derived.Test.YtplkdfkahcpoeaaDoorLexAll
import Derived.Lib.ValidLaws
namespace Go.Proofs.YtplkdfkahcpoeaaDoor.P
open Go.RowKit
set_option linter.unusedVariables false
set_option linter.unusedSimpArgs false
/-- A text's bytes. -/
abbrev bl (s : ByteArray) : List UInt8 := s.data.toList
theorem bl_mk (l : List UInt8) : bl ⟨l.toArray⟩ = l := by simp [bl]
theorem mk_bl (s : ByteArray) : (⟨(bl s).toArray⟩ : ByteArray) = s := by cases s; simp [bl]
theorem bl_len (s : ByteArray) : (bl s).length = s.size := by simp [bl]
theorem bl_app (a b : ByteArray) : bl (a ++ b) = bl a ++ bl b := by simp [bl, ByteArray.data_append]
theorem sufS_bl (s : ByteArray) (p : Nat) : bl (sufS s p) = (bl s).drop p := by
  unfold sufS bl
  rw [cut_bytes1, List.take_of_length_le]
  rw [List.length_drop, Array.length_toList]
  exact Nat.le_refl _
theorem sufS_mk (s : ByteArray) (p : Nat) : sufS s p = ⟨((bl s).drop p).toArray⟩ := by rw [← sufS_bl, mk_bl]
/-! ### white and remarks -/
def whB (b : UInt8) : Bool := whiteB.contains b
def skp : Bool → List UInt8 → List UInt8
  | _, [] => []
  | false, b :: r => if whB b then skp false r else if b = 37 then skp true r else b :: r
  | true, b :: r => if b = 10 then skp false r else skp true r
def aft (c : UInt8) : List UInt8 → List UInt8
  | [] => []
  | b :: r => if b = c then r else aft c r
theorem skp_nil (c : Bool) : skp c [] = [] := by cases c <;> rfl
theorem skp_true : ∀ l, skp true l = skp false (aft 10 l)
  | [] => rfl
  | b :: r => by
    rw [skp, aft]
    split
    · rfl
    · exact skp_true r
theorem skp_drop : ∀ l, skp false (l.dropWhile whB) = skp false l
  | [] => rfl
  | b :: r => by
    rw [List.dropWhile_cons]
    split
    · rename_i h
      rw [skp_drop r, skp, if_pos h]
    · rfl
theorem aft_index (c : UInt8) : ∀ l : List UInt8, aft c l = if 0 ≤ Lib.indexByte l c then l.drop (Lib.indexByte l c + 1).toNat else []
  | [] => by simp [aft, Lib.indexByte]
  | b :: r => by
    rw [aft, aft_index c r, Lib.indexByte]
    by_cases h : b = c
    · simp [h]
    · have hb : (b == c) = false := beq_eq_false_iff_ne.mpr h
      rw [if_neg h, hb]
      rcases indexByte_lt c r with h1 | ⟨h1, h2⟩
      · rw [h1]; simp
      · have hne : ¬ (Lib.indexByte r c = -1) := by omega
        have hnb : (Lib.indexByte r c == -1) = false := beq_eq_false_iff_ne.mpr hne
        rw [if_pos h1, hnb]
        simp only [Bool.false_eq_true, if_false]
        rw [if_pos (by omega), show (Lib.indexByte r c + 1 + 1).toNat = (Lib.indexByte r c + 1).toNat + 1 by omega, List.drop_succ_cons]
theorem aftS_bl (s : ByteArray) (c : UInt8) : bl (aftS s c) = aft c (bl s) := by
  rw [aft_index]
  unfold aftS
  split
  · unfold bl
    rw [cut_bytes1, List.take_of_length_le]
    rw [List.length_drop, Array.length_toList]
    exact Nat.le_refl _
  · rfl
theorem trimW_bl (s : ByteArray) : bl (trimW s) = (bl s).dropWhile whB := by
  unfold trimW
  rw [bl_mk]
  rfl
theorem dropWhile_len {α : Type} (p : α → Bool) : ∀ l : List α, (l.dropWhile p).length ≤ l.length := fun l => (List.dropWhile_sublist _).length_le
theorem aft_len (c : UInt8) : ∀ l : List UInt8, (aft c l).length ≤ l.length - 1
  | [] => by simp [aft]
  | b :: r => by
    rw [aft]
    split
    · simp
    · have := aft_len c r
      simp
      omega
theorem skp_head {b : UInt8} {r : List UInt8} (h : whB b = false) : skp false (b :: r) = if b = 37 then skp true r else b :: r := by
  rw [skp, h]; rfl
theorem head_drop : ∀ l : List UInt8, ∀ b r, l.dropWhile whB = b :: r → whB b = false
  | [], b, r, h => by cases h
  | x :: l, b, r, h => by
    rw [List.dropWhile_cons] at h
    split at h
    · exact head_drop l b r h
    · rename_i hx
      cases h
      simpa using hx
theorem skipW_bl : ∀ (k : Nat) (s : ByteArray), (bl s).length ≤ k → (∀ b r, bl s = b :: r → whB b = false) → bl (skipW k s) = skp false (bl s)
  | 0, s, h, _ => by
    have : bl s = [] := List.eq_nil_of_length_eq_zero (by omega)
    rw [skipW, this, skp_nil]
  | k + 1, s, h, hw => by
    rw [skipW]
    cases hb : bl s with
    | nil =>
      rw [show s.data.toList = [] from hb]
      simp only [List.head?_nil, reduceCtorEq, if_false]
      rw [hb]
      rfl
    | cons b r =>
      rw [show s.data.toList = b :: r from hb, List.head?_cons, skp_head (hw b r hb)]
      by_cases h37 : b = 37
      · subst h37
        have ha := aftS_bl s 10
        have hl := aft_len 10 (bl s)
        rw [hb] at hl
        rw [if_pos rfl, if_pos rfl, skipW_bl k (trimW (aftS s 10)) (by rw [trimW_bl, ha, hb]; have := dropWhile_len whB (aft 10 (37 :: r)); rw [hb] at h; simp at h hl; omega) (fun b r h => head_drop _ b r (by rw [← trimW_bl]; exact h))]
        rw [trimW_bl, skp_drop, ha, hb, skp_true]
        rfl
      · rw [if_neg (fun e => h37 (Option.some.inj e)), if_neg h37, hb]
theorem leftS_bl (s : ByteArray) : bl (leftS s) = skp false (bl s) := by
  unfold leftS
  rw [skipW_bl s.size (trimW s) (by rw [bl_len]; exact trimW_size s) (fun b r h => head_drop _ b r (by rw [← trimW_bl]; exact h)), trimW_bl, skp_drop]
/-- What is skipped is a front. -/
theorem skp_len : ∀ (c : Bool) (l : List UInt8), (skp c l).length ≤ l.length ∧ skp c l = l.drop (l.length - (skp c l).length)
  | c, [] => by rw [skp_nil]; simp
  | false, b :: r => by
    have key : ∀ x : List UInt8, x.length ≤ r.length ∧ x = r.drop (r.length - x.length) → x.length ≤ (b :: r).length ∧ x = (b :: r).drop ((b :: r).length - x.length) := fun x ⟨h1, h2⟩ =>
      ⟨by simp; omega, by rw [List.length_cons, show r.length + 1 - x.length = (r.length - x.length) + 1 by omega, List.drop_succ_cons]; exact h2⟩
    rw [skp]
    split
    · exact key _ (skp_len false r)
    · split
      · exact key _ (skp_len true r)
      · exact ⟨Nat.le_refl _, by rw [Nat.sub_self, List.drop_zero]⟩
  | true, b :: r => by
    have key : ∀ x : List UInt8, x.length ≤ r.length ∧ x = r.drop (r.length - x.length) → x.length ≤ (b :: r).length ∧ x = (b :: r).drop ((b :: r).length - x.length) := fun x ⟨h1, h2⟩ =>
      ⟨by simp; omega, by rw [List.length_cons, show r.length + 1 - x.length = (r.length - x.length) + 1 by omega, List.drop_succ_cons]; exact h2⟩
    rw [skp]
    split
    · exact key _ (skp_len false r)
    · exact key _ (skp_len true r)
theorem blank_bl (s : ByteArray) : blankN s = (bl s).length - (skp false (bl s)).length := by
  unfold blankN
  rw [← bl_len s, ← bl_len (leftS s), leftS_bl]
theorem skp_app (t : List UInt8) : ∀ (c : Bool) (l : List UInt8), skp c (l ++ 10 :: t) = if skp c l = [] then skp false t else skp c l ++ 10 :: t
  | false, [] => by rw [skp_nil]; rfl
  | true, [] => by rw [skp_nil]; rfl
  | false, b :: r => by
    rw [List.cons_append, skp, skp]
    split
    · exact skp_app t false r
    · split
      · exact skp_app t true r
      · simp
  | true, b :: r => by
    rw [List.cons_append, skp, skp]
    split
    · exact skp_app t false r
    · exact skp_app t true r
/-! ### one token -/
def letN (l : List UInt8) : Nat := (l.takeWhile letB).length
def bendL : List UInt8 → Tk
  | [] => tkNo 5
  | d :: r => if d.toNat = 92 then (4, 0, ⟨#[]⟩, 2, 0) else if signR d.toNat = true ∨ d.toNat = 37 then (1, (d.toNat : Int), ⟨#[]⟩, 2, 0)
      else if letN (d :: r) = 0 then tkNo 5 else if 32 < letN (d :: r) then tkNo 7 else (2, 0, ⟨((d :: r).take (letN (d :: r))).toArray⟩, ((letN (d :: r) : Int) + 1), 0)
def nextL : List UInt8 → Tk
  | [] => tkNo 5
  | b :: r => if plainB ((Lib.decodeL (b :: r)).1 : Int) then (1, ((Lib.decodeL (b :: r)).1 : Int), ⟨#[]⟩, ((Lib.decodeL (b :: r)).2 : Int), 0)
      else if signR b.toNat then (3, (b.toNat : Int), ⟨#[]⟩, 1, 0) else if b.toNat = 92 then bendL r else tkNo 5
theorem bAt_bl (s : ByteArray) (i : Nat) : bAt s i = ((bl s).getD i 0).toNat := rfl
theorem nextS_L (b : UInt8) (r : List UInt8) : nextS ⟨(b :: r).toArray⟩ = nextL (b :: r) := by
  obtain ⟨s, hs⟩ : ∃ s : ByteArray, s = ⟨(b :: r).toArray⟩ := ⟨_, rfl⟩
  have hb : bl s = b :: r := by rw [hs, bl_mk]
  have hz : s.size = r.length + 1 := by rw [← bl_len, hb]; rfl
  have b0 : bAt s 0 = b.toNat := by rw [bAt_bl, hb]; rfl
  have hd : Lib.decodeGo s = Lib.decodeL (b :: r) := by
    unfold Lib.decodeGo Lib.decodeL
    rw [if_neg (by omega), ← hs]
  have hx : bl (s.extract 1 s.size) = r := by
    have := sufS_bl s 1
    unfold sufS at this
    rw [this, hb]
    rfl
  have hlet : lettersS (s.extract 1 s.size) = letN r := by
    unfold lettersS letN
    rw [show (s.extract 1 s.size).data.toList = r from hx]
  have hw := Lib.decodeL_width (b :: r)
  rw [← hs, nextL]
  unfold nextS nextT
  have lP : liveT (tokP s) = plainB ((Lib.decodeL (b :: r)).1 : Int) := by
    unfold tokP
    rw [hd]
    split
    · rename_i h
      rw [h]
      unfold liveT
      rw [decide_eq_true (show (0 : Int) < ((Lib.decodeL (b :: r)).2 : Int) by omega)]
      rfl
    · rename_i h
      simp only [Bool.not_eq_true] at h
      rw [h]; rfl
  have lG : liveT (tokG s) = signR b.toNat := by
    unfold tokG
    rw [b0]
    split
    · rename_i h; rw [h]; rfl
    · rename_i h; simp only [Bool.not_eq_true] at h; rw [h]; rfl
  rw [lP]
  by_cases h1 : plainB ((Lib.decodeL (b :: r)).1 : Int) = true
  · rw [if_pos h1, if_pos h1]
    unfold tokP
    rw [hd, if_pos h1]
  rw [if_neg h1, if_neg h1, lG]
  by_cases h2 : signR b.toNat = true
  · rw [if_pos h2, if_pos h2]
    unfold tokG
    rw [b0, if_pos h2]
  rw [if_neg h2, if_neg h2]
  by_cases h3 : b.toNat = 92
  rotate_left
  · have hB : tokB s = tkNo 0 := by unfold tokB; rw [b0, if_pos (.inl h3)]
    have hW : tokW s = tkNo 0 := by unfold tokW; rw [b0, if_pos h3]
    rw [if_neg h3, hB, hW]
    rfl
  rw [if_pos h3]
  have hW : tokW s = if letN r = 0 then tkNo 0 else if 32 < letN r then tkNo 7 else (2, 0, s.extract 1 (letN r + 1), ((letN r : Int) + 1), 0) := by
    unfold tokW
    rw [b0, if_neg (by simp [h3]), hlet]
  cases r with
  | nil =>
    have hB : tokB s = tkNo 0 := by unfold tokB; rw [if_pos (.inr (by rw [hz]; decide))]
    rw [hB, hW]
    rfl
  | cons d r =>
    have b1 : bAt s 1 = d.toNat := by rw [bAt_bl, hb]; rfl
    have hB : tokB s = if d.toNat = 92 then (4, 0, ⟨#[]⟩, 2, 0) else if signR d.toNat = true ∨ d.toNat = 37 then (1, (d.toNat : Int), ⟨#[]⟩, 2, 0) else tkNo 0 := by
      unfold tokB
      rw [b0, b1, if_neg (by rw [hz]; simp [h3])]
    rw [hB, bendL]
    by_cases h4 : d.toNat = 92
    · rw [if_pos h4, if_pos h4]; rfl
    rw [if_neg h4, if_neg h4]
    by_cases h5 : signR d.toNat = true ∨ d.toNat = 37
    · rw [if_pos h5, if_pos h5]; rfl
    rw [if_neg h5, if_neg h5, hW]
    by_cases h6 : letN (d :: r) = 0
    · rw [if_pos h6, if_pos h6]; rfl
    rw [if_neg h6, if_neg h6]
    by_cases h7 : 32 < letN (d :: r)
    · rw [if_pos h7, if_pos h7]; rfl
    rw [if_neg h7, if_neg h7]
    have hwd : s.extract 1 (letN (d :: r) + 1) = ⟨((d :: r).take (letN (d :: r))).toArray⟩ := by
      apply bytes_ext1
      rw [cut_bytes1, Nat.add_sub_cancel]
      show ((bl s).drop 1).take _ = _
      rw [hb]
      simp
    rw [hwd]
    have : liveT (2, 0, (⟨((d :: r).take (letN (d :: r))).toArray⟩ : ByteArray), ((letN (d :: r) : Int) + 1), 0) = true := by
      unfold liveT
      rw [decide_eq_true (show (0 : Int) < (letN (d :: r) : Int) + 1 by omega)]
      rfl
    rw [if_neg (by decide), if_pos this]
theorem nextS_bl (s : ByteArray) (h : bl s ≠ []) : nextS s = nextL (bl s) := by
  cases hb : bl s with
  | nil => exact absurd hb h
  | cons b r => rw [← nextS_L, ← hb, mk_bl]
end Go.Proofs.YtplkdfkahcpoeaaDoor.P
