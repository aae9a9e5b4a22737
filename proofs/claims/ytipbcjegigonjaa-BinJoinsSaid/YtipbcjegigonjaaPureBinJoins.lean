/- Layer 3: two rows of fields are got as both, and put as both. Conditions: those of the statement alone. -/
import Derived.Test.YtipbcjegigonjaaBackSpec
import Derived.Test.YtipbcjegigonjaaBinPiece
import Derived.Test.YtipbcjegigonjaaPx10
namespace Go.Proofs.Ytipbcjegigonjaa.Pure
open Go.RowKit Go.Proofs.Ytipbcjegigonjaa.P Go.Proofs.YtipbcjegigonjaaW.PrintWords Go.Proofs.YtipbcjegigonjaaW.PrintLast Go.Proofs.Ytipbcjegigonjaa.BN
set_option linter.unusedVariables false
set_option linter.unusedSimpArgs false
theorem toList_beq (a b : ByteArray) (h : a = b) : (a.toList == b.toList) = true := by rw [h]; exact beq_self_eq_true _
theorem bytes_ext {a b : ByteArray} (h : bytesl a = bytesl b) : a = b := by
  apply ByteArray.ext
  exact Array.toList_inj.1 h
theorem wide_some (n : Int) : ∃ t, vinculumref03_Wide.f n = some t := by
  unfold vinculumref03_Wide.f
  split <;> exact ⟨_, rfl⟩
/-- What is left behind the loop, as rounds go on. -/
def rest (k : Nat) (x0 : ByteArray) (x1 x9 : Int) (x2 x3 : List Int) : Option Bool := vinculumlaw03_BinJoins.l0 k x0 x1 x2 x3 x9 (x2.length : Int)
theorem joins_bad (s : ByteArray) (a : Int) (l m : List Int) (hl : l.length ≤ 300) (d : Nat) : ∀ (i : Nat) (x : Int), i ≤ l.length → l.length - i = d → rightB (l.drop i) = false → Ev (fun k => vinculumlaw03_BinJoins.l0 k s a l m x (i : Int)) true := by
  induction d with
  | zero =>
    intro i x hi hd hr
    rw [show l.drop i = [] from List.drop_of_length_le (by omega)] at hr
    exact absurd hr (by simp [rightB])
  | succ d ih =>
    intro i x hi hd hr
    have hlt : i < l.length := by omega
    have g1 : (i : Int) < (l.length : Int) := by omega
    have g2 : 0 ≤ (i : Int) := by omega
    have g3 : i < 4611686018427387904 := by omega
    rw [rd_drop l i hlt] at hr
    have hr' : (sizeB (rd l (i : Int)) && rightB (l.drop (i + 1))) = false := hr
    obtain ⟨t, ht⟩ := wide_some (rd l (i : Int))
    cases hsz : sizeB (rd l (i : Int))
    · refine Ev.step (f := fun k => (vinculumlaw03_read.f k).bind fun t203 => (some t203)) (fun k => ?_) (Ev.bind read_ev (Ev.now _))
      simp only [vinculumlaw03_BinJoins.l0]
      rw [if_pos g1, if_pos g2, ht, Option.bind_some, ref_size, hsz, Option.bind_some, if_neg (by decide)]
    · rw [hsz, Bool.true_and] at hr'
      refine Ev.step (f := fun k => vinculumlaw03_BinJoins.l0 k s a l m (wrap64 (x + t)) ((i + 1 : Nat) : Int)) (fun k => ?_) (ih (i + 1) _ (by omega) (by omega) hr')
      simp only [vinculumlaw03_BinJoins.l0]
      rw [if_pos g1, if_pos g2, ht, Option.bind_some, ref_size, hsz, Option.bind_some, if_pos rfl, wrap_succ i g3]
theorem joins_l0 (s : ByteArray) (a : Int) (l m : List Int) (hl : l.length ≤ 300) (hr : rightB l = true) (R : Bool) (hR : Ev (fun k => vinculumlaw03_BinJoins.l0 k s a l m (tot l : Int) (l.length : Int)) R) (d : Nat) :
    ∀ (i x : Nat), i ≤ l.length → l.length - i = d → x + tot (l.drop i) = tot l → Ev (fun k => vinculumlaw03_BinJoins.l0 k s a l m (x : Int) (i : Int)) R := by
  have hT := tot_le l hr
  induction d with
  | zero =>
    intro i x hi hd hx
    rw [show l.drop i = [] from List.drop_of_length_le (by omega)] at hx
    obtain rfl : i = l.length := by omega
    obtain rfl : x = tot l := by simpa [tot] using hx
    exact hR
  | succ d ih =>
    intro i x hi hd hx
    have hlt : i < l.length := by omega
    have g1 : (i : Int) < (l.length : Int) := by omega
    have g2 : 0 ≤ (i : Int) := by omega
    have g3 : i < 4611686018427387904 := by omega
    have hsz := right_at l hr i hlt
    rw [rd_drop l i hlt] at hx
    simp only [tot] at hx
    have g4 : x + (rd l (i : Int)).natAbs < 4611686018427387904 := by omega
    refine Ev.step (f := fun k => vinculumlaw03_BinJoins.l0 k s a l m ((x + (rd l (i : Int)).natAbs : Nat) : Int) ((i + 1 : Nat) : Int)) (fun k => ?_) (ih (i + 1) (x + (rd l (i : Int)).natAbs) (by omega) (by omega) (by omega))
    simp only [vinculumlaw03_BinJoins.l0]
    rw [if_pos g1, if_pos g2, ref_wide _ hsz, Option.bind_some, ref_size, hsz, Option.bind_some, if_pos rfl, wrap_succ i g3, wrap_add _ _ g4]
theorem joins_end (s : ByteArray) (a : Int) (l m : List Int) (hs : s.size ≤ 2000) (ha : -9223372036854775808 ≤ a ∧ a ≤ 9223372036854775807) (hl : l.length ≤ 300) (hm : m.length ≤ 300) (hr : rightB l = true) :
    Ev (fun k => vinculumlaw03_BinJoins.l0 k s a l m (tot l : Int) (l.length : Int)) true := by
  have g1 : ¬ (l.length : Int) < (l.length : Int) := by omega
  have g2 : ([] : List Int).length + l.length < 17592186044416 := by simp; omega
  have g3 : ([] ++ l : List Int).length + m.length < 17592186044416 := by simp; omega
  have hT := tot_le l hr
  have e0 : ([] ++ l : List Int) = l := rfl
  have hb := get_spec s a (l ++ m) (by omega) (by rw [List.length_append]; omega)
  have hl' := get_spec s a l (by omega) (by omega)
  by_cases hok : (gspec s a (l ++ m)).2 = 0
  · have hc : ¬ (a < 0 ∨ rightB (l ++ m) = false) ∧ ¬ a > s.size ∧ tot (l ++ m) ≤ s.size - a.toNat := by
      unfold gspec at hok
      refine ⟨fun h => ?_, fun h => ?_, ?_⟩
      · rw [if_pos h] at hok; exact absurd hok (by decide)
      · rw [if_pos h] at hok
        split at hok <;> exact absurd hok (by decide)
      · rcases Nat.lt_or_ge (s.size - a.toNat) (tot (l ++ m)) with h | h
        · split at hok
          · exact absurd hok (by decide)
          · split at hok
            · exact absurd hok (by decide)
            · rw [if_neg (by omega)] at hok; exact absurd hok (by decide)
        · exact h
    obtain ⟨hc1, hc2, hc3⟩ := hc
    have ha0 : 0 ≤ a := by
      have : ¬ a < 0 := fun h => hc1 (.inl h)
      omega
    obtain ⟨p, rfl⟩ := Int.eq_ofNat_of_zero_le ha0
    have hrb : rightB (l ++ m) = true := by
      cases h : rightB (l ++ m)
      · exact absurd (.inr h) hc1
      · rfl
    have hrm : rightB m = true := by rw [right_append, hr, Bool.true_and] at hrb; exact hrb
    rw [Int.toNat_natCast] at hc3
    have htb := tot_append l m
    have hbv : gspec s (p : Int) (l ++ m) = (vals ((bytesl s).drop p) (l ++ m), 0) := by
      unfold gspec; rw [if_neg hc1, if_neg hc2, if_pos (by rw [Int.toNat_natCast]; exact hc3), Int.toNat_natCast]
    have hlv : gspec s (p : Int) l = (vals ((bytesl s).drop p) l, 0) := by
      unfold gspec; rw [if_neg (by rw [hr]; simp), if_neg hc2, if_pos (by rw [Int.toNat_natCast]; omega), Int.toNat_natCast]
    have g4 : p + tot l < 4611686018427387904 := by omega
    have hm' := get_spec s ((p + tot l : Nat) : Int) m (by omega) (by omega)
    have hmv : gspec s ((p + tot l : Nat) : Int) m = (vals ((bytesl s).drop (p + tot l)) m, 0) := by
      unfold gspec; rw [if_neg (by rw [hrm]; simp; omega), if_neg (by omega), if_pos (by rw [Int.toNat_natCast]; omega), Int.toNat_natCast]
    rw [hbv] at hb
    rw [hlv] at hl'
    rw [hmv] at hm'
    have hcat : vals ((bytesl s).drop p) l ++ vals ((bytesl s).drop (p + tot l)) m = vals ((bytesl s).drop p) (l ++ m) := by rw [vals_append, List.drop_drop]
    have hlenb : tot (l ++ m) ≤ ((bytesl s).drop p).length := by rw [List.length_drop, bytesl_length]; exact hc3
    obtain ⟨hpv1, hpv2⟩ := putAll_vals (l ++ m) ((bytesl s).drop p) hrb hlenb
    have hp := put_spec (l ++ m) (vals ((bytesl s).drop p) (l ++ m)) (by rw [List.length_append]; omega) (by rw [vals_length, List.length_append]; omega)
    have hps : pspec (l ++ m) (vals ((bytesl s).drop p) (l ++ m)) = (⟨(((bytesl s).drop p).take (tot (l ++ m))).toArray⟩, 0) := by
      unfold pspec; rw [if_neg (by rw [hrb, vals_length]; simp), if_neg (by rw [hpv2]; simp), hpv1]
    rw [hps] at hp
    generalize hB : (⟨(((bytesl s).drop p).take (tot (l ++ m))).toArray⟩ : ByteArray) = B at hp
    have hBs : B.size = tot (l ++ m) := by rw [← hB, bytes_size, List.length_take]; omega
    have hBl : bytesl B = ((bytesl s).drop p).take (tot (l ++ m)) := by rw [← hB]; rfl
    have hpc : bin_Piece.f s (p : Int) (B.size : Int) = some (B, 0) := by
      unfold bin_Piece.f
      rw [if_pos (by omega), if_neg (by omega), if_neg (by omega), Int.toNat_natCast, Int.toNat_natCast]
      congr 2
      apply bytes_ext
      rw [bytesl_extract, bytesl_from, hBs, hBl]
      simp
    have hi := ref_ints (vals ((bytesl s).drop p) (l ++ m)) (vals ((bytesl s).drop p) (l ++ m)) (by rw [vals_length, List.length_append]; omega)
    simp only [decide_true] at hi
    have g5 : ([] : List Int).length + (vals ((bytesl s).drop p) l).length < 17592186044416 := by rw [vals_length]; simp; omega
    have g6 : ([] ++ vals ((bytesl s).drop p) l : List Int).length + (vals ((bytesl s).drop (p + tot l)) m).length < 17592186044416 := by rw [List.nil_append, vals_length, vals_length]; omega
    refine Ev.step (f := fun k => (vinculumlaw03_read.f k).bind fun t233 => (if t233 = true then ((vinculumref03_Ints.f k (vals ((bytesl s).drop p) (l ++ m)) (vals ((bytesl s).drop p) (l ++ m))).bind fun t234 => (if t234 = true then (some (B.toList == B.toList)) else (some false))) else (some false))) (fun k => ?_) ?_
    · simp only [vinculumlaw03_BinJoins.l0]
      rw [if_neg g1, if_pos g2, Option.bind_some, if_pos g3, Option.bind_some, List.nil_append, hb, Option.bind_some, hl', Option.bind_some, if_pos rfl, wrap_add _ _ g4, hm', Option.bind_some, if_pos g5, Option.bind_some, if_pos g6, List.nil_append, hp, Option.bind_some, hpc, Option.bind_some, hcat]
      simp only [if_true]
    · refine Ev.bind read_ev ?_
      simp only [if_true]
      refine Ev.bind hi ?_
      simp only [if_true]
      rw [toList_beq B B rfl]
      exact Ev.now _
  · have he : (gspec s a (l ++ m)).1 = [] := by
      unfold gspec at hok ⊢
      split
      · rfl
      · split
        · rfl
        · split
          · rename_i h1 h2 h3
            rw [if_neg h1, if_neg h2, if_pos h3] at hok
            exact absurd rfl hok
          · rfl
    refine Ev.step (f := fun k => (vinculumlaw03_read.f k).bind fun t218 => (if t218 = true then (some (((gspec s a (l ++ m)).1.length : Int) == 0)) else (some false))) (fun k => ?_) ?_
    · simp only [vinculumlaw03_BinJoins.l0]
      rw [if_neg g1, if_pos g2, Option.bind_some, if_pos g3, Option.bind_some, List.nil_append, hb, Option.bind_some, hl', Option.bind_some, if_neg hok]
    · refine Ev.bind read_ev ?_
      simp only [if_true]
      rw [he]
      exact Ev.now _
theorem BinJoins : vinculumlaw03_BinJoins.Pure := by
  intro a0 a1 l2 l3 _ ha1 _ _ _ _ _ _
  refine Ev.rounds (g := fun k => vinculumlaw03_BinJoins.f k a0 a1 l2 l3) ?_
  unfold vinculumlaw03_BinJoins.f
  by_cases hf : a0.size ≤ 2000 ∧ l2.length ≤ 300 ∧ l3.length ≤ 300
  · simp only [few_f, Option.bind_some, decide_eq_true hf, if_true]
    show Ev (fun k => vinculumlaw03_BinJoins.l0 k a0 a1 l2 l3 ((0 : Nat) : Int) ((0 : Nat) : Int)) true
    cases hr : rightB l2
    · exact joins_bad a0 a1 l2 l3 hf.2.1 l2.length 0 0 (by omega) (by omega) hr
    · exact joins_l0 a0 a1 l2 l3 hf.2.1 hr true (joins_end a0 a1 l2 l3 hf.1 (int_bounds ha1) hf.2.1 hf.2.2 hr) l2.length 0 0 (by omega) (by omega) (by simp)
  · simp only [few_f, Option.bind_some, decide_eq_false hf]
    exact Ev.now _
end Go.Proofs.Ytipbcjegigonjaa.Pure
