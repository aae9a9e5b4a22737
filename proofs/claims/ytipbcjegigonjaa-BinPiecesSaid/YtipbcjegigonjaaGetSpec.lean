/- What bin.Get and the reference's Get answer, on lists of bytes: both the same. Conditions: texts of at most 2^40 bytes, rows of at most 10^6 numbers. -/
import Derived.Test.YtipbcjegigonjaaBinGet
import Derived.Test.YtipbcjegigonjaaRef03a
import Derived.Test.YtipbcjegigonjaaPx3
namespace Go.Proofs.Ytipbcjegigonjaa.P
open Go.RowKit Go.Proofs.YtipbcjegigonjaaW.PrintWords Go.Proofs.YtipbcjegigonjaaW.PrintLast Go.Proofs.YtipbcjegigonjaaW.PrintMore Go.Proofs.Ytipbcjegigonjaa.BN
set_option linter.unusedVariables false
set_option linter.unusedSimpArgs false

def tvl (b : List UInt8) (m : Nat) (n : Int) : Int := if n < 0 ∧ 2 ^ (8 * m - 1) ≤ be (b.take m) then be (b.take m) - 2 ^ (8 * m) else be (b.take m)
theorem takeV_tvl (s : ByteArray) (m : Nat) (n : Int) : takeV s m n = tvl (bytesl s) m n := rfl
def tot : List Int → Nat
  | [] => 0
  | n :: r => n.natAbs + tot r
def vals : List UInt8 → List Int → List Int
  | _, [] => []
  | b, n :: r => tvl b n.natAbs n :: vals (b.drop n.natAbs) r
theorem bytesl_extract (s : ByteArray) (a b : Nat) : bytesl (s.extract a b) = ((bytesl s).take b).drop a := by
  unfold bytesl
  rw [ByteArray.data_extract, Array.toList_extract, List.extract_eq_take_drop, List.take_drop]
  by_cases h : a ≤ b
  · rw [show a + (b - a) = b by omega]
  · rw [List.drop_of_length_le (by rw [List.length_take]; omega), List.drop_of_length_le (by rw [List.length_take]; omega)]
theorem bytesl_from (s : ByteArray) (a : Nat) : bytesl (s.extract a s.size) = (bytesl s).drop a := by
  rw [bytesl_extract, List.take_of_length_le (by rw [bytesl_length]; omega)]
theorem getL_eq : ∀ (l : List Int) (s : ByteArray), getL s l = if tot l ≤ s.size then some (vals (bytesl s) l) else none
  | [], s => by simp [getL, tot, vals]
  | n :: r, s => by
    rw [getL, getL_eq r, bytesl_from, extract_extract, takeV_tvl]
    by_cases h : s.size < n.natAbs
    · rw [if_pos h, if_neg (by simp only [tot]; omega)]
    · rw [if_neg h]
      by_cases h2 : tot r ≤ s.size - n.natAbs
      · rw [if_pos h2, if_pos (by simp only [tot]; omega)]; rfl
      · rw [if_neg h2, if_neg (by simp only [tot]; omega)]; rfl
/-- What Get answers. -/
def gspec (s : ByteArray) (a : Int) (l : List Int) : List Int × Int :=
  if a < 0 ∨ rightB l = false then ([], 1) else if a > s.size then ([], 4) else if tot l ≤ s.size - a.toNat then (vals ((bytesl s).drop a.toNat) l, 0) else ([], 4)
theorem get_spec (s : ByteArray) (a : Int) (l : List Int) (hs : s.size ≤ 140737488351232) (hl : l.length ≤ 1000000000) : bin_Get.f s a l = some (gspec s a l) := by
  unfold bin_Get.f gspec
  rw [if_pos ⟨hs, hl⟩]
  by_cases h1 : a < 0 ∨ rightB l = false
  · rw [if_pos h1, if_pos h1]
  · rw [if_neg h1, if_neg h1]
    by_cases h2 : a > s.size
    · rw [if_pos h2, if_pos h2]
    · rw [if_neg h2, if_neg h2, getL_eq, bytesl_from, extract_extract]
      by_cases h3 : tot l ≤ s.size - a.toNat
      · rw [if_pos h3, if_pos h3]
      · rw [if_neg h3, if_neg h3]
theorem tot_le : ∀ (l : List Int), rightB l = true → tot l ≤ 4 * l.length
  | [], _ => by simp [tot]
  | n :: r, h => by
    have h' : (sizeB n && rightB r) = true := h
    rw [Bool.and_eq_true] at h'
    have := tot_le r h'.2
    have h2 := h'.1
    simp only [sizeB, Bool.and_eq_true, decide_eq_true_eq] at h2
    simp only [tot, List.length_cons]
    omega
theorem right_drop (l : List Int) (h : rightB l = true) (i : Nat) : rightB (l.drop i) = true := by
  unfold rightB at *
  rw [List.all_eq_true] at *
  exact fun x hx => h x (List.mem_of_mem_drop hx)
theorem tvl_take (b : List UInt8) (m : Nat) (n : Int) : tvl (b.take m) m n = tvl b m n := by unfold tvl; rw [List.take_take, Nat.min_self]
/-- The second loop: the numbers are taken. -/
theorem ref_get_l1 (s : ByteArray) (l : List Int) (hs : s.size ≤ 140737488351232) (hl : l.length ≤ 1000000000) (hr : rightB l = true) (d : Nat) : ∀ (i a : Nat) (acc : List Int), i ≤ l.length → l.length - i = d → acc.length ≤ i → a + tot (l.drop i) ≤ s.size →
    Ev (fun k => vinculumref03_Get.l1 k s (a : Int) l acc (i : Int)) (acc ++ vals ((bytesl s).drop a) (l.drop i), 0) := by
  induction d with
  | zero =>
    intro i a acc hi hd ha ht
    refine Ev.step (f := fun k => some (acc, 0)) (fun k => by simp only [vinculumref03_Get.l1]; rw [if_neg (by omega)]) ?_
    rw [show l.drop i = [] from List.drop_of_length_le (by omega)]
    simp only [vals, List.append_nil]
    exact Ev.now _
  | succ d ih =>
    intro i a acc hi hd ha ht
    have hlt : i < l.length := by omega
    have hd' := rd_drop l i hlt
    have hsz := right_at l hr i hlt
    rw [hd'] at ht ⊢
    obtain ⟨m, hm, h1, h4, hna⟩ := sizeB_abs hsz
    simp only [tot, hna] at ht
    simp only [vals, hna]
    have hw := ref_wide (rd l (i : Int)) hsz
    rw [hna] at hw
    clear hm
    have hle : a + m ≤ s.size := by omega
    have e1 : (s.extract a (a + m)).size = m := by rw [ByteArray.size_extract, Nat.min_eq_left hle, Nat.add_sub_cancel_left]
    have ho := ref_one (s.extract a (a + m)) (rd l (i : Int)) (by rw [e1]; exact h1) (by rw [e1]; exact h4)
    rw [e1, takeV_tvl, bytesl_extract, List.drop_take, Nat.add_sub_cancel_left, tvl_take] at ho
    refine Ev.step (f := fun k => (vinculumref03_One.f k (s.extract a (a + m)) (rd l (i : Int))).bind fun t => vinculumref03_Get.l1 k s ((a + m : Nat) : Int) l (acc ++ [t]) ((i + 1 : Nat) : Int)) (fun k => ?_) ?_
    · have g1 : (i : Int) < (l.length : Int) := by omega
      have g2 : 0 ≤ (i : Int) := by omega
      have g3 : 0 ≤ (a : Int) := by omega
      have g4 : (a : Int) ≤ ((a + m : Nat) : Int) := by omega
      have g5 : ((a + m : Nat) : Int) ≤ (s.size : Int) := by omega
      have g6 : acc.length < 17592186044416 := by omega
      have ew : wrap64 ((a : Int) + (m : Int)) = ((a + m : Nat) : Int) := (wrap64_small (x := (a : Int) + (m : Int)) (by omega) (by omega)).trans (Int.natCast_add a m).symm
      have ei : wrap64 ((i : Int) + 1) = ((i + 1 : Nat) : Int) := (wrap64_small (x := (i : Int) + 1) (by omega) (by omega)).trans (Int.natCast_succ i).symm
      simp only [vinculumref03_Get.l1]
      rw [if_pos g1, if_pos g2, hw, Option.bind_some, ew, if_pos g3, if_pos g4, if_pos g5, Int.toNat_natCast, Int.toNat_natCast, ei]
      exact congrArg (Option.bind _) (funext fun t => if_pos g6)
    · refine Ev.bind ho ?_
      have := ih (i + 1) (a + m) (acc ++ [tvl ((bytesl s).drop a) m (rd l (i : Int))]) (by omega) (by omega) (by simp; omega) (by omega)
      rw [List.drop_drop]
      simpa using this
theorem ref_get_bad (s : ByteArray) (a : Int) (l : List Int) (hl : l.length ≤ 1000000000) (d : Nat) : ∀ (i : Nat) (x : Int), i ≤ l.length → l.length - i = d → rightB (l.drop i) = false → Ev (fun k => vinculumref03_Get.l0 k s a l x (i : Int)) (([] : List Int), (1 : Int)) := by
  induction d with
  | zero =>
    intro i x hi hd hr
    rw [show l.drop i = [] from List.drop_of_length_le (by omega)] at hr
    exact absurd hr (by simp [rightB])
  | succ d ih =>
    intro i x hi hd hr
    have hlt : i < l.length := by omega
    rw [rd_drop l i hlt] at hr
    have hr' : (sizeB (rd l (i : Int)) && rightB (l.drop (i + 1))) = false := hr
    cases hsz : sizeB (rd l (i : Int))
    · exact Ev.step (f := fun k => some ([], 1)) (fun k => by simp only [vinculumref03_Get.l0]; rw [if_pos (by omega), if_pos (by omega), ref_size, hsz]; rfl) (Ev.now _)
    · rw [hsz, Bool.true_and] at hr'
      refine Ev.step (f := fun k => vinculumref03_Get.l0 k s a l (wrap64 (x + ((rd l (i : Int)).natAbs : Int))) ((i + 1 : Nat) : Int)) (fun k => ?_) (ih (i + 1) _ (by omega) (by omega) hr')
      simp only [vinculumref03_Get.l0]
      rw [if_pos (by omega), if_pos (by omega), ref_size, hsz, ref_wide _ hsz]
      simp only [Option.bind_some, if_true]
      rw [wrap64_small (x := (i : Int) + 1) (by omega) (by omega)]
      rfl
theorem ref_get_l0 (s : ByteArray) (a : Int) (l : List Int) (hl : l.length ≤ 1000000000) (hr : rightB l = true) (R : List Int × Int) (hR : Ev (fun k => vinculumref03_Get.l0 k s a l (tot l : Int) (l.length : Int)) R) (d : Nat) :
    ∀ (i x : Nat), i ≤ l.length → l.length - i = d → x + tot (l.drop i) = tot l → Ev (fun k => vinculumref03_Get.l0 k s a l (x : Int) (i : Int)) R := by
  have hT := tot_le l hr
  induction d with
  | zero =>
    intro i x hi hd hx
    rw [show l.drop i = [] from List.drop_of_length_le (by omega)] at hx
    obtain rfl : i = l.length := by omega
    obtain rfl : x = tot l := by simpa [tot] using hx
    exact hR
  | succ d ih =>
    intro i x hi hd hx
    have hlt : i < l.length := by omega
    have hsz := right_at l hr i hlt
    rw [rd_drop l i hlt] at hx
    simp only [tot] at hx
    refine Ev.step (f := fun k => vinculumref03_Get.l0 k s a l ((x + (rd l (i : Int)).natAbs : Nat) : Int) ((i + 1 : Nat) : Int)) (fun k => ?_) (ih (i + 1) (x + (rd l (i : Int)).natAbs) (by omega) (by omega) (by omega))
    simp only [vinculumref03_Get.l0]
    rw [if_pos (by omega), if_pos (by omega), ref_size, hsz, ref_wide _ hsz]
    simp only [Option.bind_some, if_true]
    rw [wrap64_small (x := (i : Int) + 1) (by omega) (by omega), wrap64_small (by omega) (by omega)]
    rfl
theorem ref_get (s : ByteArray) (a : Int) (l : List Int) (hs : s.size ≤ 140737488351232) (hl : l.length ≤ 1000000000) (ha : -9223372036854775808 ≤ a ∧ a ≤ 9223372036854775807) : Ev (fun k => vinculumref03_Get.f k s a l) (gspec s a l) := by
  show Ev (fun k => vinculumref03_Get.l0 k s a l ((0 : Nat) : Int) ((0 : Nat) : Int)) _
  cases hr : rightB l
  · have : gspec s a l = ([], 1) := by unfold gspec; rw [if_pos (.inr hr)]
    rw [this]
    exact ref_get_bad s a l hl l.length 0 0 (by omega) (by omega) hr
  · have hT := tot_le l hr
    refine ref_get_l0 s a l hl hr _ ?_ l.length 0 0 (by omega) (by omega) (by simp)
    have hj : ∀ b : Bool, b = true → Ev (fun k => vinculumref03_Get.j1 k s a l b) (([] : List Int), (4 : Int)) := by
      intro b hb
      exact Ev.step (f := fun k => some ([], 4)) (fun k => by simp only [vinculumref03_Get.j1]; rw [if_pos hb]) (Ev.now _)
    by_cases h1 : a < 0
    · have : gspec s a l = ([], 1) := by unfold gspec; rw [if_pos (.inl h1)]
      rw [this]
      exact Ev.step (f := fun k => some ([], 1)) (fun k => by simp only [vinculumref03_Get.l0]; rw [if_neg (by omega), if_pos h1]) (Ev.now _)
    · have hor : ¬ (a < 0 ∨ rightB l = false) := by
        rintro (h | h)
        · exact h1 h
        · rw [hr] at h; cases h
      by_cases h2 : a > s.size
      · have : gspec s a l = ([], 4) := by unfold gspec; rw [if_neg hor, if_pos h2]
        rw [this]
        exact Ev.step (f := fun k => vinculumref03_Get.j1 k s a l true) (fun k => by simp only [vinculumref03_Get.l0]; rw [if_neg (by omega), if_neg h1, if_pos h2]) (hj true rfl)
      · have e1 : wrap64 ((s.size : Int) - a) = (s.size : Int) - a := wrap64_small (by omega) (by omega)
        refine Ev.step (f := fun k => vinculumref03_Get.j1 k s a l (decide ((tot l : Int) > (s.size : Int) - a))) (fun k => by simp only [vinculumref03_Get.l0]; rw [if_neg (by omega), if_neg h1, if_neg h2, e1]) ?_
        by_cases h3 : tot l ≤ s.size - a.toNat
        · have : gspec s a l = (vals ((bytesl s).drop a.toNat) l, 0) := by unfold gspec; rw [if_neg hor, if_neg h2, if_pos h3]
          rw [this]
          obtain ⟨p, rfl⟩ := Int.eq_ofNat_of_zero_le (show 0 ≤ a by omega)
          have hdec : decide ((tot l : Int) > (s.size : Int) - (p : Int)) = false := by simp only [decide_eq_false_iff_not]; simp only [Int.toNat_natCast] at h3; omega
          rw [hdec]
          refine Ev.step (f := fun k => vinculumref03_Get.l1 k s (p : Int) l [] ((0 : Nat) : Int)) (fun k => by simp only [vinculumref03_Get.j1]; rw [if_neg (by decide)]; rfl) ?_
          have := ref_get_l1 s l hs hl hr l.length 0 p [] (by omega) (by omega) (by simp) (by simp only [Int.toNat_natCast] at h3; simp; omega)
          simpa using this
        · have : gspec s a l = ([], 4) := by unfold gspec; rw [if_neg hor, if_neg h2, if_neg h3]
          rw [this]
          exact hj _ (by simp only [decide_eq_true_eq]; omega)
theorem vals_length : ∀ (l : List Int) (b : List UInt8), (vals b l).length = l.length
  | [], _ => rfl
  | n :: r, b => by simp [vals, vals_length r]
theorem gspec_length (s : ByteArray) (a : Int) (l : List Int) (hl : l.length < 17592186044416) : (gspec s a l).1.length < 17592186044416 := by
  unfold gspec
  split
  · simp
  · split
    · simp
    · split
      · rw [vals_length]; exact hl
      · simp
end Go.Proofs.Ytipbcjegigonjaa.P
