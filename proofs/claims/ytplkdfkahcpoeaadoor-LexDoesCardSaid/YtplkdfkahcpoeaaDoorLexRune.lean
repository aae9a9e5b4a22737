/- Layer 19, plain: a rune's bytes are read as that rune. No program in sight. -/
import Derived.Test.YtplkdfkahcpoeaaDoorLexJoin
namespace Go.Proofs.YtplkdfkahcpoeaaDoor.P
open Go.RowKit
set_option linter.unusedVariables false
set_option linter.unusedSimpArgs false
def encL (r : Nat) : List UInt8 :=
  if r < 128 then [UInt8.ofNat r] else if r < 2048 then [UInt8.ofNat (192 + r / 64), UInt8.ofNat (128 + r % 64)]
  else if r < 65536 then [UInt8.ofNat (224 + r / 4096), UInt8.ofNat (128 + r / 64 % 64), UInt8.ofNat (128 + r % 64)]
  else [UInt8.ofNat (240 + r / 262144), UInt8.ofNat (128 + r / 4096 % 64), UInt8.ofNat (128 + r / 64 % 64), UInt8.ofNat (128 + r % 64)]
theorem ofNat_lt {n : Nat} (h : n < 256) : (UInt8.ofNat n).toNat = n := by
  rw [UInt8.toNat_ofNat']
  exact Nat.mod_eq_of_lt h
def runeN (r : Nat) : Prop := 1 ≤ r ∧ r ≤ 1114111 ∧ (r < 55296 ∨ 57343 < r)
theorem runeB_N (c : Int) : runeB c = true ↔ 0 ≤ c ∧ runeN c.toNat := by
  unfold runeB runeN Lib.validRune
  simp only [Bool.and_eq_true, decide_eq_true_eq]
  omega
theorem encode_bl (c : Int) (h : runeB c = true) : bl (Utf8.encode c) = encL c.toNat := by
  have hv : Utf8.valid c = true := by
    rw [Go.validRune_eq]
    unfold runeB at h
    simp only [Bool.and_eq_true] at h
    exact h.2.2
  unfold Utf8.encode encL
  simp only [hv, if_true]
  split
  · rfl
  · split
    · rfl
    · split <;> rfl
theorem decode_encL (r : Nat) (h : runeN r) (t : List UInt8) : Lib.decodeL (encL r ++ t) = (r, (encL r).length) := by
  obtain ⟨h1, h2, h3⟩ := h
  rw [Lib.decodeL_N]
  unfold encL
  by_cases c1 : r < 128
  · rw [if_pos c1]
    simp only [List.cons_append, List.nil_append, List.getD_cons_zero, List.length_cons, List.length_nil]
    rw [ofNat_lt (by omega)]
    unfold Lib.decodeN
    rw [if_pos c1]
  rw [if_neg c1]
  by_cases c2 : r < 2048
  · rw [if_pos c2]
    simp only [List.cons_append, List.nil_append, List.getD_cons_zero, List.getD_cons_succ, List.length_cons, List.length_nil]
    rw [ofNat_lt (n := 192 + r / 64) (by omega), ofNat_lt (n := 128 + r % 64) (by omega)]
    unfold Lib.decodeN
    rw [if_neg (by omega), if_pos (by omega), if_pos (by omega)]
    congr 1
    omega
  rw [if_neg c2]
  by_cases c3 : r < 65536
  · rw [if_pos c3]
    simp only [List.cons_append, List.nil_append, List.getD_cons_zero, List.getD_cons_succ, List.length_cons, List.length_nil]
    rw [ofNat_lt (n := 224 + r / 4096) (by omega), ofNat_lt (n := 128 + r / 64 % 64) (by omega), ofNat_lt (n := 128 + r % 64) (by omega)]
    unfold Lib.decodeN
    rw [if_neg (by omega), if_neg (by omega), if_pos (by omega), if_pos (by omega)]
    congr 1
    omega
  · rw [if_neg c3]
    simp only [List.cons_append, List.nil_append, List.getD_cons_zero, List.getD_cons_succ, List.length_cons, List.length_nil]
    rw [ofNat_lt (n := 240 + r / 262144) (by omega), ofNat_lt (n := 128 + r / 4096 % 64) (by omega), ofNat_lt (n := 128 + r / 64 % 64) (by omega), ofNat_lt (n := 128 + r % 64) (by omega)]
    unfold Lib.decodeN
    rw [if_neg (by omega), if_neg (by omega), if_neg (by omega), if_pos (by omega), if_pos (by omega)]
    congr 1
    omega
theorem encL_len (r : Nat) : 1 ≤ (encL r).length ∧ (encL r).length ≤ 4 := by
  unfold encL
  split
  · exact ⟨by simp, by simp⟩
  · split
    · exact ⟨by simp, by simp⟩
    · split <;> exact ⟨by simp, by simp⟩
theorem encL_head (r : Nat) (h : runeN r) : ∃ b t, encL r = b :: t ∧ (b.toNat = r ∨ (128 ≤ r ∧ 128 ≤ b.toNat)) ∧ ∀ x ∈ encL r, x ≠ 0 := by
  obtain ⟨h1, h2, h3⟩ := h
  have nz : ∀ n : Nat, 1 ≤ n → n < 256 → UInt8.ofNat n ≠ 0 := fun n a b e => by
    have := congrArg UInt8.toNat e
    rw [ofNat_lt b] at this
    simp at this
    omega
  unfold encL
  by_cases c1 : r < 128
  · rw [if_pos c1]
    refine ⟨_, _, rfl, .inl (ofNat_lt (by omega)), ?_⟩
    intro x hx
    simp only [List.mem_cons, List.not_mem_nil, or_false] at hx
    subst hx
    exact nz _ (by omega) (by omega)
  rw [if_neg c1]
  by_cases c2 : r < 2048
  · rw [if_pos c2]
    refine ⟨_, _, rfl, .inr ⟨by omega, by rw [ofNat_lt (by omega)]; omega⟩, ?_⟩
    intro x hx
    simp only [List.mem_cons, List.not_mem_nil, or_false] at hx
    rcases hx with rfl | rfl <;> exact nz _ (by omega) (by omega)
  rw [if_neg c2]
  by_cases c3 : r < 65536
  · rw [if_pos c3]
    refine ⟨_, _, rfl, .inr ⟨by omega, by rw [ofNat_lt (by omega)]; omega⟩, ?_⟩
    intro x hx
    simp only [List.mem_cons, List.not_mem_nil, or_false] at hx
    rcases hx with rfl | rfl | rfl <;> exact nz _ (by omega) (by omega)
  · rw [if_neg c3]
    refine ⟨_, _, rfl, .inr ⟨by omega, by rw [ofNat_lt (by omega)]; omega⟩, ?_⟩
    intro x hx
    simp only [List.mem_cons, List.not_mem_nil, or_false] at hx
    rcases hx with rfl | rfl | rfl | rfl <;> exact nz _ (by omega) (by omega)
/-- A plain rune's bytes are one token. -/
theorem plain_one (c : Int) (h : runeB c = true) (hp : plainB c = true) : allL (encL c.toNat) = ([⟨1, c, ⟨#[]⟩, 0⟩], ((encL c.toNat).length : Int), 0) := by
  obtain ⟨h0, hr⟩ := (runeB_N c).1 h
  have hc : ((c.toNat : Nat) : Int) = c := by omega
  generalize c.toNat = r at hr hc
  subst hc
  obtain ⟨b, t, hb, hbr, hz⟩ := encL_head r hr
  have hd := decode_encL r hr []
  rw [List.append_nil] at hd
  have hne : encL r ≠ [] := by rw [hb]; simp
  have hlen := encL_len r
  have hok : okL (encL r) = true := by
    unfold okL
    rw [Lib.validD_step _ hne, hd, if_neg (by simp; intro e; subst e; decide), List.drop_length, Lib.validD_nil, Bool.true_and]
    simp only [Bool.not_eq_true', List.contains_eq_mem, decide_eq_false_iff_not]
    intro hm
    exact hz 0 hm rfl
  have hpl : 32 < (r : Int) ∧ (r : Int) ≠ 37 := by
    unfold plainB at hp
    simp only [Bool.and_eq_true, decide_eq_true_eq] at hp
    exact ⟨hp.1, hp.2.2.2.2.2.2⟩
  have hsk : skp false (encL r) = encL r := by
    rw [hb, skp_head, if_neg]
    · intro e
      subst e
      rcases hbr with h1 | h1
      · have : (37 : UInt8).toNat = 37 := rfl
        omega
      · exact absurd h1.2 (by decide)
    · have key : ∀ b : UInt8, 32 < b.toNat → whB b = false := by
        intro b hb
        unfold whB whiteB
        simp only [List.contains_eq_mem, decide_eq_false_iff_not, List.mem_cons, List.not_mem_nil, or_false]
        rintro (rfl | rfl | rfl | rfl) <;> exact absurd hb (by decide)
      refine key b ?_
      rcases hbr with h1 | h1 <;> omega
  have hnx : nextL (encL r) = (1, (r : Int), ⟨#[]⟩, ((encL r).length : Int), 0) := by
    rw [hb, nextL, ← hb, hd]
    simp only
    rw [if_pos hp]
  unfold allL
  rw [if_pos hok, hsk, lexE, if_neg hne, hnx]
  simp only [ne_eq, not_true_eq_false, if_false, Int.toNat_natCast, List.drop_length]
  rw [skp_nil, lexE_nil]
  unfold combT
  simp
end Go.Proofs.YtplkdfkahcpoeaaDoor.P
