/- What is put is got, what is got is put: plain laws on lists of bytes. No condition. -/
import Derived.Test.YtgchajlfopmcjaaGetSpec
import Derived.Test.YtgchajlfopmcjaaPutSpec
namespace Go.Proofs.Ytgchajlfopmcjaa.P
open Go.RowKit Go.Proofs.YtgchajlfopmcjaaW.PrintWords Go.Proofs.YtgchajlfopmcjaaW.PrintLast Go.Proofs.YtgchajlfopmcjaaW.PrintMore Go.Proofs.Ytgchajlfopmcjaa.BN
set_option linter.unusedVariables false
set_option linter.unusedSimpArgs false
theorem be_from (l : List UInt8) : ∀ v : Int, l.foldl (fun v c => v * 256 + (c.toNat : Int)) v = v * 256 ^ l.length + be l := by
  induction l with
  | nil => intro v; simp [be]
  | cons c l ih =>
    intro v
    rw [List.foldl_cons, ih]
    have h0 : be (c :: l) = (0 * 256 + (c.toNat : Int)) * 256 ^ l.length + be l := by unfold be; rw [List.foldl_cons, ih]; rfl
    rw [h0, List.length_cons, Int.pow_succ', Int.add_mul, Int.zero_mul, Int.zero_add, Int.mul_assoc, Int.add_assoc]
theorem be_cons (c : UInt8) (l : List UInt8) : be (c :: l) = (c.toNat : Int) * 256 ^ l.length + be l := by
  have := be_from l (0 * 256 + (c.toNat : Int))
  rw [Int.zero_mul, Int.zero_add] at this
  unfold be
  rw [List.foldl_cons]
  simpa [be] using this
theorem emod_two (v Q : Int) (hp : 0 < Q) : v % (Q * 256) = (v / Q) % 256 * Q + v % Q := by
  have h1 := Int.emod_add_mul_ediv v Q
  have h2 := Int.emod_add_mul_ediv (v / Q) 256
  have hr0 := Int.emod_nonneg v (Int.ne_of_gt hp)
  have hr1 := Int.emod_lt_of_pos v hp
  have hc0 := Int.emod_nonneg (v / Q) (show (256 : Int) ≠ 0 by decide)
  have hc1 := Int.emod_lt_of_pos (v / Q) (show (0 : Int) < 256 by decide)
  generalize v % Q = r at *
  generalize v / Q = a at *
  generalize a % 256 = c at *
  generalize a / 256 = b at *
  subst h2
  subst h1
  have e : r + Q * (c + 256 * b) = (c * Q + r) + (Q * 256) * b := by rw [Int.mul_add, Int.mul_comm Q c, ← Int.mul_assoc]; omega
  rw [e, Int.add_mul_emod_self_left]
  refine Int.emod_eq_of_lt (Int.add_nonneg (Int.mul_nonneg hc0 (Int.le_of_lt hp)) hr0) ?_
  have h3 : c * Q ≤ 255 * Q := Int.mul_le_mul_of_nonneg_right (by omega) (Int.le_of_lt hp)
  omega
theorem lead_eq (x y N A B : Int) (hA0 : 0 ≤ A) (hA : A < N) (hB0 : 0 ≤ B) (hB : B < N) (h : x * N + A = y * N + B) : x = y := by
  have hN : 0 < N := by omega
  rcases Int.lt_trichotomy x y with hl | he | hl
  · have h1 : (x + 1) * N ≤ y * N := Int.mul_le_mul_of_nonneg_right (by omega) (Int.le_of_lt hN)
    rw [Int.add_mul, Int.one_mul] at h1
    omega
  · exact he
  · have h1 : (y + 1) * N ≤ x * N := Int.mul_le_mul_of_nonneg_right (by omega) (Int.le_of_lt hN)
    rw [Int.add_mul, Int.one_mul] at h1
    omega
theorem be_putB (v : Int) : ∀ m, be (putB v m) = v % 256 ^ m
  | 0 => by simp [putB, be, Int.emod_one]
  | m + 1 => by
    have hp : (0 : Int) < 256 ^ m := Int.pow_pos (by decide)
    have hc : ((UInt8.ofNat ((v / 256 ^ m) % 256).toNat).toNat : Int) = (v / 256 ^ m) % 256 := by
      have h0 := Int.emod_nonneg (v / 256 ^ m) (show (256 : Int) ≠ 0 by decide)
      have h1 := Int.emod_lt_of_pos (v / 256 ^ m) (show (0 : Int) < 256 by decide)
      have : (UInt8.ofNat ((v / 256 ^ m) % 256).toNat).toNat = ((v / 256 ^ m) % 256).toNat := by simp; omega
      rw [this]; omega
    rw [putB, be_cons, putB_length, hc, be_putB v m, Int.pow_succ]
    exact (emod_two v (256 ^ m) hp).symm
theorem be_inj : ∀ (a b : List UInt8), a.length = b.length → be a = be b → a = b
  | [], [], _, _ => rfl
  | x :: a, y :: b, hl, h => by
    have hl' : a.length = b.length := by simpa using hl
    rw [be_cons, be_cons, hl'] at h
    have ha := be_bound a
    have hb := be_bound b
    rw [hl'] at ha
    have hxy := lead_eq _ _ _ _ _ ha.1 ha.2 hb.1 hb.2 h
    have e1 : x = y := by
      apply UInt8.toNat_inj.1
      omega
    subst e1
    rw [be_inj a b hl' (by omega)]
/-- What is got of a number's bytes. -/
theorem tvl_putB (v n : Int) (m : Nat) (rest : List UInt8) (hn : sizeB n = true) (hm : n.natAbs = m) (hf : fitsB v n = true) : tvl (putB v m ++ rest) m n = v := by
  obtain ⟨m', hmm, h1, h4, hna⟩ := sizeB_abs' hn
  obtain rfl : m' = m := by omega
  obtain ⟨P, hP1, hP2, hP3, hP4, hP5⟩ := pow_facts m' h1 h4
  unfold fitsB at hf
  rw [hm, hP2, hP3] at hf
  unfold tvl
  have ht : (putB v m' ++ rest).take m' = putB v m' := by rw [List.take_append_of_le_length (by rw [putB_length]; exact Nat.le_refl _), List.take_of_length_le (by rw [putB_length]; exact Nat.le_refl _)]
  rw [ht, be_putB, hP1, hP2, hP3]
  by_cases hneg : n < 0
  · rw [if_pos hneg, Bool.and_eq_true, decide_eq_true_eq, decide_eq_true_eq] at hf
    by_cases hv : v < 0
    · have e : v % (2 * P) = v + 2 * P := by
        rw [← Int.add_emod_right, Int.emod_eq_of_lt (by omega) (by omega)]
      rw [e, if_pos ⟨hneg, by omega⟩]; omega
    · rw [Int.emod_eq_of_lt (by omega) (by omega), if_neg (by omega)]
  · rw [if_neg hneg, Bool.and_eq_true, decide_eq_true_eq, decide_eq_true_eq] at hf
    rw [Int.emod_eq_of_lt (by omega) (by omega), if_neg (fun h => hneg h.1)]
theorem putAll_length : ∀ (l v : List Int), l.length = v.length → (putAll l v).length = tot l
  | [], [], _ => rfl
  | n :: r, x :: s, h => by
    rw [putAll, List.length_append, putB_length, putAll_length r s (by simpa using h), tot]
theorem vals_putAll : ∀ (l v : List Int) (rest : List UInt8), rightB l = true → l.length = v.length → fitsAll l v = true → vals (putAll l v ++ rest) l = v
  | [], [], _, _, _, _ => rfl
  | n :: r, x :: s, rest, hr, hl, hf => by
    have hr' : (sizeB n && rightB r) = true := hr
    have hf' : (fitsB x n && fitsAll r s) = true := hf
    rw [Bool.and_eq_true] at hr' hf'
    rw [putAll, List.append_assoc, vals, tvl_putB x n _ _ hr'.1 rfl hf'.1]
    congr 1
    have : (putB x n.natAbs ++ (putAll r s ++ rest)).drop n.natAbs = putAll r s ++ rest := by
      have h := putB_length x n.natAbs
      conv => lhs; rw [← h]
      rw [List.drop_left' (by rw [putB_length])]
    rw [this]
    exact vals_putAll r s rest hr'.2 (by simpa using hl) hf'.2
/-- What is got has just the bytes that it is got of. -/
theorem putB_tvl (b : List UInt8) (n : Int) (m : Nat) (hn : sizeB n = true) (hm : n.natAbs = m) (hb : m ≤ b.length) : putB (tvl b m n) m = b.take m ∧ fitsB (tvl b m n) n = true := by
  obtain ⟨m', hmm, h1, h4, hna⟩ := sizeB_abs' hn
  obtain rfl : m' = m := by omega
  obtain ⟨P, hP1, hP2, hP3, hP4, hP5⟩ := pow_facts m' h1 h4
  have hlen : (b.take m').length = m' := by rw [List.length_take]; omega
  have hbb := be_bound (b.take m')
  rw [hlen, hP1] at hbb
  have key : (tvl b m' n) % (2 * P) = be (b.take m') := by
    unfold tvl
    rw [hP2, hP3]
    split
    · rw [Int.sub_emod_right, Int.emod_eq_of_lt hbb.1 hbb.2]
    · exact Int.emod_eq_of_lt hbb.1 hbb.2
  refine ⟨be_inj _ _ (by rw [putB_length, hlen]) (by rw [be_putB, hP1, key]), ?_⟩
  unfold fitsB tvl
  rw [hm, hP2, hP3]
  by_cases hneg : n < 0
  · rw [if_pos hneg, Bool.and_eq_true, decide_eq_true_eq, decide_eq_true_eq]
    split <;> omega
  · rw [if_neg hneg, if_neg (fun h => hneg h.1), Bool.and_eq_true, decide_eq_true_eq, decide_eq_true_eq]
    exact hbb
theorem putAll_vals : ∀ (l : List Int) (b : List UInt8), rightB l = true → tot l ≤ b.length → putAll l (vals b l) = b.take (tot l) ∧ fitsAll l (vals b l) = true
  | [], b, _, _ => by simp [putAll, vals, tot, fitsAll]
  | n :: r, b, hr, ht => by
    have hr' : (sizeB n && rightB r) = true := hr
    rw [Bool.and_eq_true] at hr'
    simp only [tot] at ht
    obtain ⟨h1, h2⟩ := putB_tvl b n _ hr'.1 rfl (by omega)
    obtain ⟨h3, h4⟩ := putAll_vals r (b.drop n.natAbs) hr'.2 (by rw [List.length_drop]; omega)
    simp only [vals, putAll, fitsAll, tot]
    rw [h1, h3, h2, h4, List.take_add]
    exact ⟨rfl, rfl⟩
theorem vals_append : ∀ (l m : List Int) (b : List UInt8), vals b (l ++ m) = vals b l ++ vals (b.drop (tot l)) m
  | [], m, b => by simp [vals, tot]
  | n :: r, m, b => by
    simp only [List.cons_append, vals, tot]
    rw [vals_append r m, List.drop_drop]
theorem tot_append : ∀ (l m : List Int), tot (l ++ m) = tot l + tot m
  | [], m => by simp [tot]
  | n :: r, m => by simp only [List.cons_append, tot]; rw [tot_append r m]; omega
theorem right_append (l m : List Int) : rightB (l ++ m) = (rightB l && rightB m) := by unfold rightB; rw [List.all_append]
end Go.Proofs.Ytgchajlfopmcjaa.P
