/- Layer 13: what is got is right, and put as it was. Conditions: those of the statement alone. -/
import Derived.Test.YtgleffjeaognfaaNames13
import Derived.Test.YtgleffjeaognfaaSpec13
import Derived.Test.YtgleffjeaognfaaPx10
namespace Go.Proofs.Ytgleffjeaognfaa.Pure
open Go.RowKit Go.Proofs.Ytgleffjeaognfaa.P Go.Proofs.YtgleffjeaognfaaW.PrintWords Go.Proofs.YtgleffjeaognfaaW.PrintLast Go.Proofs.Ytgleffjeaognfaa.BN
set_option linter.unusedVariables false
set_option linter.unusedSimpArgs false
theorem take_gotK (b : List UInt8) (k : Nat) : ∀ m, k ≤ m → (gotK b m).take k = gotK b k
  | 0, h => by
    obtain rfl : k = 0 := by omega
    rfl
  | m + 1, h => by
    by_cases e : k = m + 1
    · subst e; rw [List.take_of_length_le (by rw [gotK_length]; omega)]
    · rw [gotK, List.take_append_of_le_length (by rw [gotK_length]; omega), take_gotK b k m (by omega)]
theorem rd_gotK (b : List UInt8) (k m : Nat) (h : k < m) : rd (gotK b m) (k : Int) = tvl (b.drop (2 * posK k)) 2 (sizeK k) := by
  have h1 := take_gotK b (k + 1) m (by omega)
  have h2 := take_rd (gotK b m) k (by rw [gotK_length]; exact h)
  rw [h1, take_gotK b k m (by omega), gotK] at h2
  have h3 := List.append_cancel_left h2
  exact (List.cons.inj h3).1.symm
theorem okK_of (l : List Int) : ∀ n : Nat, (∀ k : Nat, k < n → fitsB (rd l (k : Int)) (sizeK k) = true) → okK l n = true
  | 0, _ => rfl
  | n + 1, h => by rw [okK, okK_of l n (fun k hk => h k (by omega)), h n (by omega)]; rfl
theorem isK_got (b : List UInt8) (h : 214 ≤ b.length) : isK (gotK b 56) = true := by
  unfold isK
  rw [decide_eq_true (gotK_length b 56), Bool.true_and]
  refine okK_of _ _ (fun k hk => ?_)
  rw [rd_gotK b k 56 hk]
  have hp := posK_le106 k hk
  exact (putB_tvl (b.drop (2 * posK k)) (sizeK k) 2 (sizeK_ok k) (sizeK_abs k) (by rw [List.length_drop]; omega)).2
theorem five (b : List UInt8) : gotK b 5 = vals b [-2, -2, 2, 2, -2] := by
  simp [gotK, posK, moreK, sizeK, vals, List.drop_drop]
theorem only_pure (s : ByteArray) (n : Nat) (hs : s.size ≤ 600) (hn : n + 214 ≤ s.size) (L : List Int) (B : ByteArray) (V W : List Int) (hL : L.length = 56) (hI : isK L = true) (hV : L.take 5 = V) (hVl : V.length = 5) (hWl : W.length = 1) (hW : rd L 55 = rd W 0) :
    Ev (fun k => vinculumlaw13_KonstOnly.j0 k L 0 L 0 V W false) true := by
  have hi := is_k L (by omega)
  rw [hI] at hi
  have h1 := ref_ints L L (by omega)
  have h2 := ref_ints V V (by omega)
  simp only [decide_true] at h1 h2
  refine Ev.step (f := fun k => (vinculumlaw13_told.f k).bind fun t221 => (if t221 = true then ((vinculumref03_Ints.f k L L).bind fun t223 => (if t223 = true then ((vinculumref03_Ints.f k V V).bind fun t228 => (if t228 = true then (some true) else (some false))) else (some false))) else (some false))) (fun k => ?_) ?_
  · simp only [vinculumlaw13_KonstOnly.j0, Bool.false_eq_true, if_false, hi, Option.bind_some, if_true, hV,
      if_pos (show (5 : Int) ≤ (L.length : Int) by omega), if_pos (show (55 : Int) < (L.length : Int) by omega), if_pos (show (0 : Int) < (W.length : Int) by omega), hW, beq_self_eq_true]
  · refine Ev.bind told_ev ?_
    simp only [if_true]
    refine Ev.bind h1 ?_
    simp only [if_true]
    exact Ev.bind h2 (Ev.now _)
theorem KonstOnly : vinculumlaw13_KonstOnly.Pure := by
  intro s a _ ha
  have hb := int_bounds ha
  refine Ev.rounds (g := fun k => vinculumlaw13_KonstOnly.f k s a) ?_
  unfold vinculumlaw13_KonstOnly.f
  by_cases c1 : (s.size : Int) > 600
  · simp only [if_pos c1]; exact Ev.now _
  simp only [if_neg c1]
  have hg := get_k s a (by omega)
  by_cases hbad : a < 0 ∨ a > s.size ∨ s.size - a.toNat < 214
  · have hg' : ∃ e : Int, e ≠ 0 ∧ konst_Get.f s a = some ([], e) := by
      by_cases h0 : a < 0
      · rw [if_pos h0] at hg; exact ⟨1, by decide, hg⟩
      · rw [if_neg h0, if_pos (by rcases hbad with h | h; · exact absurd h h0
                                  · exact h)] at hg
        exact ⟨4, by decide, hg⟩
    obtain ⟨e, he, hg'⟩ := hg'
    simp only [hg', Option.bind_some, if_neg he]
    refine Ev.bind told_ev ?_
    simp only [if_true]
    exact Ev.now _
  · have h0 : ¬ a < 0 := fun h => hbad (.inl h)
    have h1 : ¬ (a > s.size ∨ s.size - a.toNat < 214) := fun h => hbad (.inr h)
    rw [if_neg h0, if_neg h1] at hg
    obtain ⟨n, rfl⟩ : ∃ n : Nat, a = n := ⟨a.toNat, by omega⟩
    rw [Int.toNat_natCast] at hg h1
    have hn : n + 214 ≤ s.size := by omega
    obtain ⟨b, hbe⟩ : ∃ b, b = (bytesl s).drop n := ⟨_, rfl⟩
    have hbl : 214 ≤ b.length := by rw [hbe, List.length_drop, bytesl_length]; omega
    rw [← hbe] at hg
    have hK := isK_got b hbl
    have hLl := gotK_length b 56
    have h5 := five b
    have ht5 := take_gotK b 5 56 (by omega)
    rw [h5] at ht5
    have hr55 := rd_gotK b 55 56 (by omega)
    have hout := got_out (gotK b 56) [] hK
    rw [List.append_nil] at hout
    generalize gotK b 56 = L at hg hK hLl ht5 hr55 hout
    have hp := put_k L (by omega)
    rw [hK] at hp
    simp only [if_true] at hp
    generalize hB : (⟨(outK L 56).toArray⟩ : ByteArray) = B at hp
    have hol : (outK L 56).length = 214 := by rw [outK_length]; decide
    have hBs : B.size = 214 := by rw [← hB, bytes_size, hol]
    have hBl : bytesl B = outK L 56 := by rw [← hB]; rfl
    have hg2 := get_k B 0 (by omega)
    rw [if_neg (by decide), if_neg (by rw [hBs]; decide), show (0 : Int).toNat = 0 from rfl, List.drop_zero, hBl, hout] at hg2
    have hb5 := get_spec s (n : Int) [-2, -2, 2, 2, -2] (by omega) (by decide)
    have hv5 : gspec s (n : Int) [-2, -2, 2, 2, -2] = (vals b [-2, -2, 2, 2, -2], 0) := by
      unfold gspec
      rw [if_neg (by rw [show rightB [-2, -2, 2, 2, -2] = true by decide]; simp), if_neg (by omega), if_pos (by rw [Int.toNat_natCast, show tot [-2, -2, 2, 2, -2] = 10 by decide]; omega), Int.toNat_natCast, ← hbe]
    rw [hv5] at hb5
    obtain ⟨m, hm⟩ : ∃ m : Nat, m = n + 212 := ⟨_, rfl⟩
    have hb1 := get_spec s (m : Int) [-2] (by omega) (by decide)
    have hdm : (bytesl s).drop m = b.drop 212 := by rw [hbe, List.drop_drop, hm]
    have hv1 : gspec s (m : Int) [-2] = ([tvl (b.drop 212) 2 (-2)], 0) := by
      unfold gspec
      rw [if_neg (by rw [show rightB [-2] = true by decide]; simp), if_neg (by omega), if_pos (by rw [Int.toNat_natCast, show tot [-2] = 2 by decide]; omega), Int.toNat_natCast, hdm]
      rfl
    rw [hv1] at hb1
    have hvl : (vals b [-2, -2, 2, 2, -2]).length = 5 := by rw [vals_length]; rfl
    have hrW : rd L 55 = rd [tvl (b.drop 212) 2 (-2)] 0 := by
      have : 2 * posK 55 = 212 := by decide
      rw [this] at hr55
      exact hr55
    generalize vals b [-2, -2, 2, 2, -2] = V at ht5 hb5 hvl
    generalize hWW : [tvl (b.drop 212) 2 (-2)] = W at hb1 hrW
    have hWl : W.length = 1 := by rw [← hWW]; rfl
    have hne : ((L.length : Int) != 56) = false := by rw [hLl]; rfl
    have e5 : (V.length : Int) = 5 := by omega
    have e1 : (W.length : Int) = 1 := by omega
    have hfin := only_pure s n (by omega) hn L B V W hLl hK ht5 hvl hWl hrW
    have hw : wrap64 ((n : Int) + 212) = (m : Int) := (wrap64_small (by omega) (by omega)).trans (by omega)
    simp only [hg, hp, hg2, hb5, hw, hb1, Option.bind_some, if_true, hne, if_pos e5, if_pos e1]
    exact hfin
end Go.Proofs.Ytgleffjeaognfaa.Pure
