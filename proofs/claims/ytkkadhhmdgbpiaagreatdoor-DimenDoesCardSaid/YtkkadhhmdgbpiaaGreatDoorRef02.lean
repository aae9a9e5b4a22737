/- The reference of layer 2: what ten, Nearest, Number, Text, Digits, Value and Parse answer: as the code's Text and Parse. Plain. -/
import Derived.Test.YtkkadhhmdgbpiaaGreatDoorPx4
import Derived.Test.YtkkadhhmdgbpiaaGreatDoorPx6
import Derived.Test.YtkkadhhmdgbpiaaGreatDoorRead02
namespace Go.Proofs.YtkkadhhmdgbpiaaGreatDoor.P
open Go.RowKit Go.Proofs.YtkkadhhmdgbpiaaGreatDoorW.PrintWords Go.Proofs.YtkkadhhmdgbpiaaGreatDoorW.PrintLast Go.Proofs.YtkkadhhmdgbpiaaGreatDoorW.PrintMore Go.Proofs.YtkkadhhmdgbpiaaGreatDoor.DC
set_option linter.unusedVariables false
set_option linter.unusedSimpArgs false
theorem ref_len (a : Int) : vinculumref01_Len.f a = some (lenB a) := by
  unfold vinculumref01_Len.f lenB
  by_cases h : a ≥ -1073741823
  · rw [if_pos h, decide_eq_true (show -1073741823 ≤ a from h), Bool.true_and]
  · rw [if_neg h, decide_eq_false (show ¬ -1073741823 ≤ a from h), Bool.false_and]
theorem ten_ev (n : Nat) (hn : n ≤ 15) : Ev (fun k => vinculumref02_ten.f k (n : Int)) ((10 ^ n : Nat) : Int) := by
  have key : ∀ j i : Nat, i + j = n → Ev (fun k => vinculumref02_ten.l0 k (n : Int) ((10 ^ i : Nat) : Int) (i : Int)) ((10 ^ n : Nat) : Int) := by
    intro j
    induction j with
    | zero =>
      intro i hi
      obtain rfl : i = n := by omega
      exact Ev.step (f := fun _ => some _) (fun k => by simp only [vinculumref02_ten.l0]; rw [if_neg (by omega)]) (Ev.now _)
    | succ j ih =>
      intro i hi
      refine Ev.step (f := fun k => vinculumref02_ten.l0 k (n : Int) ((10 ^ (i + 1) : Nat) : Int) ((i + 1 : Nat) : Int)) (fun k => ?_) (ih (i + 1) (by omega))
      have hp : 10 ^ i ≤ 10 ^ 15 := Nat.pow_le_pow_right (by decide) (by omega)
      have e1 : wrap64 (10 * ((10 ^ i : Nat) : Int)) = ((10 ^ (i + 1) : Nat) : Int) := by
        rw [Nat.pow_succ]
        generalize 10 ^ i = p at *
        rw [wrap64_small (by omega) (by omega)]
        omega
      have e2 : wrap64 ((i : Int) + 1) = ((i + 1 : Nat) : Int) := by rw [wrap64_small (by omega) (by omega)]; omega
      simp only [vinculumref02_ten.l0]
      rw [if_pos (by omega), e1, e2]
  exact key n 0 (by omega)
theorem nr_parts (p c : Nat) (h0 : 0 < c) : nr p c = p / c + if 2 * (p % c) ≥ c then 1 else 0 := by
  unfold nr
  have hlt : p % c < c := Nat.mod_lt _ h0
  have hpq : 2 * p + c = (2 * (p % c) + c) + (p / c) * (2 * c) := by
    have := Nat.div_add_mod p c
    have h2 : p / c * (2 * c) = 2 * (c * (p / c)) := by rw [Nat.mul_comm, Nat.mul_assoc]
    omega
  rw [hpq, Nat.add_mul_div_right _ _ (by omega), Nat.add_comm]
  congr 1
  split
  · exact Nat.div_eq_of_lt_le (by omega) (by omega)
  · exact Nat.div_eq_of_lt (by omega)
theorem near_step (q r c : Nat) (hq : q ≤ 1000000000000000000) (hr : r < c) (hc : c ≤ 1000000000000000000) (P : Prop) [Decidable P] (hP : ¬ P) :
    (if (wrap64 (2 * (r : Int))) ≥ (c : Int) then (if P then (some (wrap64 (-(wrap64 ((wrap64 (q : Int)) + 1))))) else (some (wrap64 ((wrap64 (q : Int)) + 1)))) else (if P then (some (wrap64 (-(wrap64 (q : Int))))) else (some (wrap64 (q : Int))))) = some ((q + (if 2 * r ≥ c then 1 else 0) : Nat) : Int) := by
  have hw : wrap64 (2 * (r : Int)) = 2 * (r : Int) := wrap64_small (by omega) (by omega)
  have hw2 : wrap64 (q : Int) = (q : Int) := wrap64_small (by omega) (by omega)
  have hw3 : wrap64 ((q : Int) + 1) = (q : Int) + 1 := wrap64_small (by omega) (by omega)
  rw [hw, hw2, hw3, if_neg hP, if_neg hP]
  by_cases h : 2 * r ≥ c
  · rw [if_pos (by omega), if_pos h, Int.natCast_add, Int.natCast_one]
  · rw [if_neg (by omega), if_neg h, Nat.add_zero]
theorem far_nat (p : Nat) : vinculumref01_far.f (p : Int) = some (p : Int) := by unfold vinculumref01_far.f; rw [if_neg (by omega)]
theorem near_form (p c : Int) (hf : vinculumref01_far.f p = some p) (h : c ≠ 0) : vinculumref01_Nearest.f p c = (if (wrap64 (2 * (Int.tmod p c))) ≥ c then (if p < 0 then (some (wrap64 (-(wrap64 ((wrap64 (Int.tdiv p c)) + 1))))) else (some (wrap64 ((wrap64 (Int.tdiv p c)) + 1)))) else (if p < 0 then (some (wrap64 (-(wrap64 (Int.tdiv p c))))) else (some (wrap64 (Int.tdiv p c))))) := by
  unfold vinculumref01_Nearest.f
  rw [hf, Option.bind_some, if_neg h, Option.bind_some]
theorem tmod_nat (p c : Nat) : Int.tmod (p : Int) (c : Int) = ((p % c : Nat) : Int) := by rw [Int.tmod_eq_emod_of_nonneg (by omega)]; exact (Int.natCast_emod _ _).symm
theorem tdiv_nat (p c : Nat) : Int.tdiv (p : Int) (c : Int) = ((p / c : Nat) : Int) := by rw [Int.tdiv_eq_ediv_of_nonneg (by omega)]; exact (Int.natCast_ediv _ _).symm
theorem not_neg (p : Nat) : ¬ (p : Int) < 0 := by omega
theorem ref_near (p c : Nat) (hp : p ≤ 1000000000000000000) (hc : c ≤ 1000000000000000000) (h0 : 0 < c) : vinculumref01_Nearest.f (p : Int) (c : Int) = some ((nr p c : Nat) : Int) := by
  rw [near_form _ _ (far_nat p) (by omega), tmod_nat, tdiv_nat, nr_parts p c h0]
  exact near_step (p / c) (p % c) c (Nat.le_trans (Nat.div_le_self _ _) hp) (Nat.mod_lt _ h0) hc _ (not_neg p)
theorem digit_text (n : Nat) (hn : n ≤ 1000000000000000000) : strOfNums [(wrap64 (48 + Int.tmod (n : Int) 10)) % 256] = bOf [UInt8.ofNat (48 + n % 10)] := by
  have hm : Int.tmod (n : Int) 10 = ((n % 10 : Nat) : Int) := by rw [Int.tmod_eq_emod_of_nonneg (by omega)]; omega
  rw [hm, wrap64_small (by omega) (by omega)]
  have hv : (48 + ((n % 10 : Nat) : Int)) % 256 = ((48 + n % 10 : Nat) : Int) := by omega
  rw [hv]
  show (⟨#[UInt8.ofNat ((48 + n % 10 : Nat) : Int).toNat]⟩ : ByteArray) = _
  rw [Int.toNat_natCast]
  rfl
theorem bOf_join (A B : List UInt8) : bOf A ++ bOf B = bOf (A ++ B) := by
  apply ByteArray.ext
  unfold bOf
  simp [ByteArray.data_append]
theorem bOf_sz (l : List UInt8) : (bOf l).size = l.length := by show l.toArray.size = _; simp
theorem tdiv10 (n : Nat) (hn : n ≤ 1000000000000000000) : wrap64 (Int.tdiv (n : Int) 10) = ((n / 10 : Nat) : Int) := by
  rw [Int.tdiv_eq_ediv_of_nonneg (by omega), wrap64_small (by omega) (by omega)]
  omega
theorem number_pad (least : Nat) (hl : least ≤ 20) : ∀ (j i n : Nat) (out : List UInt8), i + j = least → n < 10 ^ j → n ≤ 1000000000000000000 → out.length ≤ 100 - j → 
    Ev (fun k => vinculumref02_Number.l0 k (n : Int) (least : Int) (bOf out) (i : Int)) (bOf (dig j n ++ out)) := by
  intro j
  induction j with
  | zero =>
    intro i n out hi hn hn2 ho
    obtain rfl : n = 0 := by simpa using hn
    exact Ev.step (f := fun _ => some _) (fun k => by simp only [vinculumref02_Number.l0]; rw [if_neg (by omega), if_neg (by decide)]; rfl) (Ev.now _)
  | succ j ih =>
    intro i n out hi hn hn2 ho
    have h10 : n / 10 < 10 ^ j := by rw [Nat.div_lt_iff_lt_mul (by decide), ← Nat.pow_succ]; exact hn
    have hb : bOf [UInt8.ofNat (48 + n % 10)] ++ bOf out = bOf (UInt8.ofNat (48 + n % 10) :: out) := bOf_join _ _
    have := ih (i + 1) (n / 10) (UInt8.ofNat (48 + n % 10) :: out) (by omega) h10 (by omega) (by simp only [List.length_cons]; omega)
    rw [show dig j (n / 10) ++ UInt8.ofNat (48 + n % 10) :: out = dig (j + 1) n ++ out by rw [dig]; simp] at this
    refine Ev.step (fun k => ?_) this
    have e2 : wrap64 ((i : Int) + 1) = ((i + 1 : Nat) : Int) := by rw [wrap64_small (by omega) (by omega)]; omega
    simp only [vinculumref02_Number.l0, Option.bind_some]
    rw [if_pos (by omega), digit_text n hn2, if_pos (by rw [bOf_sz, bOf_sz]; simp only [List.length_cons, List.length_nil]; omega), hb, e2, tdiv10 n hn2]
theorem number_rest : ∀ (m n i : Nat) (out : List UInt8), n < 10 ^ m → m ≤ 10 → 1 ≤ i → i + m ≤ 100 → out.length ≤ 20 - m → 
    Ev (fun k => vinculumref02_Number.l0 k (n : Int) 1 (bOf out) (i : Int)) (bOf ((if n = 0 then [] else Lib.decDigits n) ++ out)) := by
  intro m
  induction m with
  | zero =>
    intro n i out hn _ hi hi2 ho
    obtain rfl : n = 0 := by simpa using hn
    exact Ev.step (f := fun _ => some _) (fun k => by simp only [vinculumref02_Number.l0]; rw [if_neg (by omega), if_neg (by decide)]; rfl) (Ev.now _)
  | succ m ih =>
    intro n i out hn hm hi hi2 ho
    by_cases h0 : n = 0
    · subst h0
      exact Ev.step (f := fun _ => some _) (fun k => by simp only [vinculumref02_Number.l0]; rw [if_neg (by omega), if_neg (by decide)]; rfl) (Ev.now _)
    · have h10 : n / 10 < 10 ^ m := by rw [Nat.div_lt_iff_lt_mul (by decide), ← Nat.pow_succ]; exact hn
      have hp : 10 ^ (m + 1) ≤ 10 ^ 10 := Nat.pow_le_pow_right (by decide) hm
      have hn2 : n ≤ 1000000000000000000 := by omega
      have hb : bOf [UInt8.ofNat (48 + n % 10)] ++ bOf out = bOf (UInt8.ofNat (48 + n % 10) :: out) := bOf_join _ _
      have := ih (n / 10) (i + 1) (UInt8.ofNat (48 + n % 10) :: out) h10 (by omega) (by omega) (by omega) (by simp only [List.length_cons]; omega)
      have hd : (if n / 10 = 0 then [] else Lib.decDigits (n / 10)) ++ UInt8.ofNat (48 + n % 10) :: out = (if n = 0 then [] else Lib.decDigits n) ++ out := by
        rw [if_neg h0, Lib.decDigits.eq_1 n]
        by_cases h9 : n < 10
        · rw [dif_pos h9, if_pos (by omega), show n % 10 = n by omega]; rfl
        · rw [dif_neg h9, if_neg (by omega)]; simp
      rw [hd] at this
      refine Ev.step (fun k => ?_) this
      have e2 : wrap64 ((i : Int) + 1) = ((i + 1 : Nat) : Int) := by rw [wrap64_small (by omega) (by omega)]; omega
      simp only [vinculumref02_Number.l0, Option.bind_some]
      rw [if_neg (by omega), if_pos (by omega), digit_text n hn2, if_pos (by rw [bOf_sz, bOf_sz]; simp only [List.length_cons, List.length_nil]; omega), hb, e2, tdiv10 n hn2]
/-- A number's digits. -/
theorem number_dec (q : Nat) (hq : q < 1000000) : Ev (fun k => vinculumref02_Number.f k (q : Int) 1) (bOf (Lib.decDigits q)) := by
  have := number_rest 6 (q / 10) 1 [UInt8.ofNat (48 + q % 10)] (by omega) (by decide) (by decide) (by decide) (by simp)
  have hd : (if q / 10 = 0 then [] else Lib.decDigits (q / 10)) ++ [UInt8.ofNat (48 + q % 10)] = Lib.decDigits q := by
    rw [Lib.decDigits.eq_1 q]
    by_cases h9 : q < 10
    · rw [dif_pos h9, if_pos (by omega), show q % 10 = q by omega]; rfl
    · rw [dif_neg h9, if_neg (by omega)]
  rw [hd] at this
  refine Ev.step (fun k => ?_) this
  have hb : bOf [UInt8.ofNat (48 + q % 10)] ++ (⟨#[]⟩ : ByteArray) = bOf [UInt8.ofNat (48 + q % 10)] := bOf_join _ []
  unfold vinculumref02_Number.f
  simp only [vinculumref02_Number.l0, Option.bind_some]
  rw [if_pos (by decide), digit_text q (by omega), if_pos (by rw [bOf_sz]; show 1 + 0 ≤ _; omega), hb, tdiv10 q (by omega), show wrap64 (0 + 1) = ((1 : Nat) : Int) from wrap64_small (by decide) (by decide)]
/-- So many digits. -/
theorem number_dig (d j : Nat) (hj : j ≤ 20) (hd : d < 10 ^ j) (hd2 : d ≤ 1000000000000000000) : Ev (fun k => vinculumref02_Number.f k (d : Int) (j : Int)) (bOf (dig j d)) := by
  have := number_pad j hj j 0 d [] (by omega) hd hd2 (by simp)
  rw [List.append_nil] at this
  exact this
theorem textj_ev (q rest : Nat) (neg : Bool) (hq : q < 100000) (hr : rest < 65536) : ∀ (f k : Nat), f + k = 5 → 1 ≤ k → (∀ j, 1 ≤ j → j < k → okK rest j = false) → kf rest f k = kf rest 4 1 →
    Ev (fun n => vinculumref02_Text.l0 n ((65536 * q + rest : Nat) : Int) (bOf (if neg then [45] else [])) (rest : Int) (k : Int)) (bOf (txt neg q (kf rest 4 1) (nr (rest * 10 ^ (kf rest 4 1)) 65536)), 0) := by
  have hfront : (bOf (if neg then [(45 : UInt8)] else [])).size ≤ 1 := by rw [bOf_sz]; cases neg <;> simp
  have hdl := (decDigits_from 4 q hq).2.2.1
  have last : ∀ k, 1 ≤ k → k ≤ 5 → kf rest 4 1 = k → Ev (fun n => vinculumref02_Text.j2 n ((65536 * q + rest : Nat) : Int) (bOf (if neg then [45] else [])) (rest : Int) (k : Int) ((nr (rest * 10 ^ k) 65536 : Nat) : Int) true) (bOf (txt neg q (kf rest 4 1) (nr (rest * 10 ^ (kf rest 4 1)) 65536)), 0) := by
    intro k h1 h5 hkf
    have hlt := kf_lt rest hr
    rw [hkf] at hlt ⊢
    have hp : 10 ^ k ≤ 10 ^ 5 := Nat.pow_le_pow_right (by decide) h5
    generalize nr (rest * 10 ^ k) 65536 = d at *
    have hq2 : wrap64 (Int.tdiv ((65536 * q + rest : Nat) : Int) 65536) = (q : Int) := by
      rw [Int.tdiv_eq_ediv_of_nonneg (by omega), wrap64_small (by omega) (by omega)]
      omega
    refine Ev.step (f := fun n => (vinculumref02_Number.f n (q : Int) 1).bind fun t149 => (if (bOf (if neg then [45] else [])).size + t149.size ≤ 9223372036854775807 then (if ((bOf (if neg then [45] else [])) ++ t149).size + 1 ≤ 9223372036854775807 then ((vinculumref02_Number.f n (d : Int) (k : Int)).bind fun t150 => (if (((bOf (if neg then [45] else [])) ++ t149) ++ (⟨#[46]⟩ : ByteArray)).size + t150.size ≤ 9223372036854775807 then (if ((((bOf (if neg then [45] else [])) ++ t149) ++ (⟨#[46]⟩ : ByteArray)) ++ t150).size + 2 ≤ 9223372036854775807 then (some (((((bOf (if neg then [45] else [])) ++ t149) ++ (⟨#[46]⟩ : ByteArray)) ++ t150) ++ (⟨#[112, 116]⟩ : ByteArray), 0)) else (none)) else (none))) else (none)) else (none))) (fun n => ?_) ?_
    · simp only [vinculumref02_Text.j2]
      rw [if_pos trivial, hq2]
    · refine Ev.bind (number_dec q (by omega)) ?_
      have e1 : (bOf (if neg then [(45 : UInt8)] else []) ++ bOf (Lib.decDigits q)).size ≤ 10 := by rw [ByteArray.size_append, bOf_sz (Lib.decDigits q)]; omega
      have e2 : ((bOf (if neg then [(45 : UInt8)] else []) ++ bOf (Lib.decDigits q)) ++ (⟨#[46]⟩ : ByteArray)).size ≤ 11 := by rw [ByteArray.size_append, show (⟨#[46]⟩ : ByteArray).size = 1 from rfl]; omega
      have e3 : (bOf (dig k d)).size ≤ 5 := by rw [bOf_sz, dig_len]; exact h5
      refine Ev.congr (f := fun n => (vinculumref02_Number.f n (d : Int) (k : Int)).bind fun t150 => (if (((bOf (if neg then [45] else [])) ++ bOf (Lib.decDigits q)) ++ (⟨#[46]⟩ : ByteArray)).size + t150.size ≤ 9223372036854775807 then (if ((((bOf (if neg then [45] else [])) ++ bOf (Lib.decDigits q)) ++ (⟨#[46]⟩ : ByteArray)) ++ t150).size + 2 ≤ 9223372036854775807 then (some (((((bOf (if neg then [45] else [])) ++ bOf (Lib.decDigits q)) ++ (⟨#[46]⟩ : ByteArray)) ++ t150) ++ (⟨#[112, 116]⟩ : ByteArray), 0)) else (none)) else (none))) (fun n => ?_) ?_
      · rw [if_pos (by rw [ByteArray.size_append] at e1; omega), if_pos (by omega)]
      · refine Ev.bind (number_dig d k (by omega) hlt (by omega)) ?_
        refine Ev.congr (f := fun _ => some (bOf (txt neg q k d), 0)) (fun n => ?_) (Ev.now _)
        rw [if_pos (by omega), if_pos (by rw [ByteArray.size_append]; omega)]
        have hj : (((bOf (if neg then [(45 : UInt8)] else []) ++ bOf (Lib.decDigits q)) ++ (⟨#[46]⟩ : ByteArray)) ++ bOf (dig k d)) ++ (⟨#[112, 116]⟩ : ByteArray) = bOf (txt neg q k d) := by
          show (((bOf _ ++ bOf _) ++ bOf [46]) ++ bOf _) ++ bOf [112, 116] = _
          rw [bOf_join, bOf_join, bOf_join, bOf_join]
          unfold txt
          congr 1
          simp
        rw [hj]
  have step : ∀ (k : Nat) (b : Bool) (R : ByteArray × Int), 1 ≤ k → k ≤ 5 → okK rest k = b → Ev (fun n => vinculumref02_Text.j2 n ((65536 * q + rest : Nat) : Int) (bOf (if neg then [45] else [])) (rest : Int) (k : Int) ((nr (rest * 10 ^ k) 65536 : Nat) : Int) b) R → Ev (fun n => vinculumref02_Text.l0 n ((65536 * q + rest : Nat) : Int) (bOf (if neg then [45] else [])) (rest : Int) (k : Int)) R := by
    intro k b R h1 h5 hok hR
    have hp5 : 10 ^ k ≤ 10 ^ 5 := Nat.pow_le_pow_right (by decide) h5
    have hp0 : 0 < 10 ^ k := Nat.pow_pos (by decide)
    have hmulk : rest * 10 ^ k ≤ 65535 * 100000 := Nat.mul_le_mul (by omega) hp5
    have hDk := nr_le (rest * 10 ^ k) 65536 (by decide)
    have hw1 := mul_wrap rest (10 ^ k) (by omega)
    have hn1 : vinculumref01_Nearest.f ((rest * 10 ^ k : Nat) : Int) (65536 : Int) = some ((nr (rest * 10 ^ k) 65536 : Nat) : Int) := ref_near (rest * 10 ^ k) 65536 (by omega) (by decide) (by decide)
    have hw2 := mul_wrap (nr (rest * 10 ^ k) 65536) 65536 (by omega)
    have hn2 := ref_near (nr (rest * 10 ^ k) 65536 * 65536) (10 ^ k) (by omega) (by omega) hp0
    have hokd : okK rest k = (decide (nr (rest * 10 ^ k) 65536 < 10 ^ k) && (nr (nr (rest * 10 ^ k) 65536 * 65536) (10 ^ k) == rest)) := rfl
    rw [hok] at hokd
    have hten := ten_ev k (by omega)
    generalize nr (nr (rest * 10 ^ k) 65536 * 65536) (10 ^ k) = E at *
    generalize nr (rest * 10 ^ k) 65536 = D at *
    generalize rest * 10 ^ k = M at *
    generalize 10 ^ k = P at *
    refine Ev.step (f := fun n => (vinculumref02_ten.f n (k : Int)).bind fun t144 => ((vinculumref01_Nearest.f (wrap64 ((rest : Int) * t144)) 65536).bind fun t145 => ((vinculumref02_ten.f n (k : Int)).bind fun t146 => (if t145 < t146 then ((vinculumref02_ten.f n (k : Int)).bind fun t147 => ((vinculumref01_Nearest.f (wrap64 (t145 * 65536)) t147).bind fun t148 => (vinculumref02_Text.j2 n ((65536 * q + rest : Nat) : Int) (bOf (if neg then [45] else [])) (rest : Int) (k : Int) t145 (t148 == (rest : Int))))) else (vinculumref02_Text.j2 n ((65536 * q + rest : Nat) : Int) (bOf (if neg then [45] else [])) (rest : Int) (k : Int) t145 false))))) (fun n => ?_) ?_
    · simp only [vinculumref02_Text.l0]
      rw [if_pos (by omega)]
    refine Ev.bind hten ?_
    rw [hw1, hn1]
    simp only [Option.bind_some]
    refine Ev.bind hten ?_
    by_cases hd : D < P
    · rw [decide_eq_true hd, Bool.true_and] at hokd
      simp only [eq_true (show (D : Int) < (P : Int) by omega), if_true]
      refine Ev.bind hten ?_
      rw [show wrap64 ((D : Int) * 65536) = ((D * 65536 : Nat) : Int) from hw2, hn2]
      simp only [Option.bind_some]
      have hb : ((E : Int) == (rest : Int)) = b := by
        rw [hokd]
        by_cases he : E = rest
        · rw [he]; simp
        · have h1 : ((E : Int) == (rest : Int)) = false := by rw [beq_eq_false_iff_ne]; omega
          have h2 : (E == rest) = false := by rw [beq_eq_false_iff_ne]; exact he
          rw [h1, h2]
      rw [hb]
      exact hR
    · rw [decide_eq_false hd, Bool.false_and] at hokd
      simp only [eq_false (show ¬ (D : Int) < (P : Int) by omega), if_false]
      rw [hokd] at hR
      exact hR
  intro f
  induction f with
  | zero =>
    intro k hk h1 hno hkf
    obtain rfl : k = 5 := by omega
    have hk5 : kf rest 4 1 = 5 := by rw [← hkf]; rfl
    have hok : okK rest 5 = true := by
      have h1 := kf_lt rest hr
      have h2 := five_do rest hr
      rw [hk5] at h1
      unfold okK
      rw [decide_eq_true h1, Nat.mul_comm _ 65536, h2]
      simp
    exact step 5 true _ (by decide) (by decide) hok (last 5 (by decide) (by decide) hk5)
  | succ f ih =>
    intro k hk h1 hno hkf
    cases hok : okK rest k with
    | true =>
      have : kf rest 4 1 = k := by rw [← hkf]; unfold kf; rw [hok, if_pos rfl]
      exact step k true _ h1 (by omega) hok (last k h1 (by omega) this)
    | false =>
      have hkf2 : kf rest f (k + 1) = kf rest 4 1 := by rw [← hkf, kf.eq_2, hok, if_neg (by decide)]
      refine step k false _ h1 (by omega) hok ?_
      refine Ev.step (fun n => ?_) (ih (k + 1) (by omega) (by omega) (fun j h1 h2 => by
        rcases (by omega : j < k ∨ j = k) with h | h
        · exact hno j h1 h
        · rw [h]; exact hok) hkf2)
      have e2 : wrap64 ((k : Int) + 1) = ((k + 1 : Nat) : Int) := by rw [wrap64_small (by omega) (by omega)]; omega
      simp only [vinculumref02_Text.j2]
      rw [if_neg (by decide), e2]
/-- The reference's Text answers as the code's. -/
theorem ref_text (a : Int) : Ev (fun n => vinculumref02_Text.f n a) (textE a) := by
  cases hl : lenB a
  · refine Ev.congr (f := fun _ => some (⟨#[]⟩, 1)) (fun n => ?_) (by unfold textE; rw [hl, if_neg (by decide)]; exact Ev.now _)
    unfold vinculumref02_Text.f
    rw [ref_len, hl]
    rfl
  · have hr : -1073741823 ≤ a ∧ a ≤ 1073741823 := by unfold lenB at hl; simpa using hl
    rw [textE_bytes a hr]
    have hrest : a.natAbs % 65536 < 65536 := Nat.mod_lt _ (by decide)
    have key := textj_ev (a.natAbs / 65536) (a.natAbs % 65536) (decide (a < 0)) (by omega) hrest 4 1 rfl (by decide) (fun j h1 h2 => by omega) rfl
    rw [show 65536 * (a.natAbs / 65536) + a.natAbs % 65536 = a.natAbs by omega] at key
    have hmod : Int.tmod ((a.natAbs : Nat) : Int) 65536 = ((a.natAbs % 65536 : Nat) : Int) := tmod_nat _ 65536
    have j0 : Ev (fun n => vinculumref02_Text.j0 n ((a.natAbs : Nat) : Int) (bOf (if decide (a < 0) then [45] else []))) (bOf (txt (decide (a < 0)) (a.natAbs / 65536) (kf (a.natAbs % 65536) 4 1) (nr (a.natAbs % 65536 * 10 ^ (kf (a.natAbs % 65536) 4 1)) 65536)), 0) := by
      refine Ev.step (fun n => ?_) key
      simp only [vinculumref02_Text.j0]
      rw [hmod]
      rfl
    refine Ev.congr (fun n => ?_) j0
    unfold vinculumref02_Text.f
    rw [ref_len, hl, Option.bind_some, if_pos rfl]
    by_cases h0 : a < 0
    · rw [if_pos h0, decide_eq_true h0, if_pos rfl, wrap64_small (by omega) (by omega), show -a = ((a.natAbs : Nat) : Int) by omega]
      rfl
    · rw [if_neg h0, decide_eq_false h0, if_neg (by decide), show ((a.natAbs : Nat) : Int) = a by omega]
      rfl
section
open Go.Lib
def isDg (b : UInt8) : Bool := decide (48 ≤ b.toNat) && decide (b.toNat ≤ 57)
/-- How many digits stand ahead. -/
def dl (l : List UInt8) : Nat := (l.takeWhile isDg).length
theorem dl_le (l : List UInt8) : dl l ≤ l.length := by
  unfold dl
  exact (List.takeWhile_sublist _).length_le
theorem dl_cons (b : UInt8) (l : List UInt8) : dl (b :: l) = if isDg b then dl l + 1 else 0 := by
  unfold dl
  rw [List.takeWhile_cons]
  split <;> simp
theorem bt_list (l : List UInt8) (i : Nat) (h : i < l.length) : bt (bOf l) (i : Int) = (l[i].toNat : Int) := by
  have hs : i < (bOf l).size := by rw [bOf_sz]; exact h
  unfold bt
  rw [Int.toNat_natCast, dif_pos hs]
  rfl
theorem digits_ev (l : List UInt8) (hl : l.length ≤ 1000) (at_ : Nat) (ha : at_ ≤ l.length) : Ev (fun k => vinculumref02_Digits.f k (bOf l) (at_ : Int)) ((dl (l.drop at_) : Nat) : Int) := by
  have key : ∀ d i, at_ + i + d = l.length → Ev (fun k => vinculumref02_Digits.l0 k (bOf l) (at_ : Int) (i : Int)) ((i + dl (l.drop (at_ + i)) : Nat) : Int) := by
    intro d
    induction d with
    | zero =>
      intro i hd
      have hw : wrap64 ((at_ : Int) + (i : Int)) = ((at_ + i : Nat) : Int) := wrap_add at_ i (by omega)
      rw [List.drop_of_length_le (by omega)]
      exact Ev.step (f := fun _ => some _) (fun k => by simp only [vinculumref02_Digits.l0]; rw [hw, bOf_sz, if_neg (by omega)]; rfl) (Ev.now _)
    | succ d ih =>
      intro i hd
      have hw : wrap64 ((at_ : Int) + (i : Int)) = ((at_ + i : Nat) : Int) := wrap_add at_ i (by omega)
      have hlt : at_ + i < l.length := by omega
      have hb := bt_list l (at_ + i) hlt
      rw [List.drop_eq_getElem_cons hlt, dl_cons]
      by_cases h1 : 48 ≤ (l[at_ + i]).toNat
      · by_cases h2 : (l[at_ + i]).toNat ≤ 57
        · have hg : isDg l[at_ + i] = true := by unfold isDg; rw [decide_eq_true h1, decide_eq_true h2]; rfl
          rw [hg, if_pos rfl]
          have := ih (i + 1) (by omega)
          rw [show i + (dl (l.drop (at_ + i + 1)) + 1) = i + 1 + dl (l.drop (at_ + (i + 1))) by rw [← Nat.add_assoc at_ i 1]; omega]
          refine Ev.step (fun k => ?_) this
          simp only [vinculumref02_Digits.l0]
          rw [hw, bOf_sz, if_pos (by omega), if_pos (by omega), hb, if_pos (by omega), if_pos (by omega), wrap_succ i (by omega)]
        · have hg : isDg l[at_ + i] = false := by unfold isDg; rw [decide_eq_false h2, Bool.and_false]
          rw [hg, if_neg (by decide), Nat.add_zero]
          exact Ev.step (f := fun _ => some _) (fun k => by simp only [vinculumref02_Digits.l0]; rw [hw, bOf_sz, if_pos (by omega), if_pos (by omega), hb, if_pos (by omega), if_neg (by omega)]) (Ev.now _)
      · have hg : isDg l[at_ + i] = false := by unfold isDg; rw [decide_eq_false h1, Bool.false_and]
        rw [hg, if_neg (by decide), Nat.add_zero]
        exact Ev.step (f := fun _ => some _) (fun k => by simp only [vinculumref02_Digits.l0]; rw [hw, bOf_sz, if_pos (by omega), if_pos (by omega), hb, if_neg (by omega)]) (Ev.now _)
  have := key (l.length - at_) 0 (by omega)
  rw [Nat.add_zero, Nat.zero_add] at this
  exact this
theorem value_step (acc y x : Nat) (ha : acc < 10000000000) (h1 : 48 ≤ y) (h2 : y ≤ 57) (hx : x = y - 48) : wrap64 (wrap64 (wrap64 (10 * (acc : Int)) + wrap64 (y : Int)) - 48) = ((acc * 10 + x : Nat) : Int) := by
  rw [wrap64_small (x := 10 * (acc : Int)) (by omega) (by omega), wrap64_small (x := (y : Int)) (by omega) (by omega), wrap64_small (x := 10 * (acc : Int) + (y : Int)) (by omega) (by omega), wrap64_small (by omega) (by omega)]
  omega
theorem pow_next (acc x i : Nat) (h : acc < 10 ^ i) (hx : x ≤ 9) : acc * 10 + x < 10 ^ (i + 1) := by
  rw [Nat.pow_succ]
  omega
theorem value_ev (l : List UInt8) (hl : l.length ≤ 10) (v : Nat) (hv : decFrom 0 l = some v) : Ev (fun k => vinculumref02_Value.f k (bOf l)) (v : Int) := by
  have key : ∀ d i acc, i + d = l.length → acc < 10 ^ i → decFrom acc (l.drop i) = some v → Ev (fun k => vinculumref02_Value.l0 k (bOf l) (acc : Int) (i : Int)) (v : Int) := by
    intro d
    induction d with
    | zero =>
      intro i acc hd ha h
      rw [List.drop_of_length_le (by omega)] at h
      obtain rfl : acc = v := by simpa [decFrom] using h
      exact Ev.step (f := fun _ => some _) (fun k => by simp only [vinculumref02_Value.l0]; rw [bOf_sz, if_neg (by omega)]) (Ev.now _)
    | succ d ih =>
      intro i acc hd ha h
      have hlt : i < l.length := by omega
      have hb := bt_list l i hlt
      have c1 : (i : Int) < ((bOf l).size : Int) := by rw [bOf_sz]; omega
      have c2 : (0 : Int) ≤ (i : Int) := by omega
      rw [List.drop_eq_getElem_cons hlt] at h
      unfold decFrom at h
      have hacc : acc < 10000000000 := Nat.lt_of_lt_of_le ha (Nat.pow_le_pow_right (by decide) (show i ≤ 10 by omega))
      cases hc : digitVal l[i] with
      | none => rw [hc] at h; cases h
      | some x =>
        rw [hc] at h
        have hx : 48 ≤ (l[i]).toNat ∧ (l[i]).toNat ≤ 57 ∧ x = (l[i]).toNat - 48 := by
          unfold digitVal at hc
          split at hc
          · rename_i h9
            exact ⟨h9.1, h9.2, (Option.some.inj hc).symm⟩
          · cases hc
        have := ih (i + 1) (acc * 10 + x) (by omega) (pow_next acc x i ha (by omega)) h
        have e4 := value_step acc _ x hacc hx.1 hx.2.1 hx.2.2
        have e5 := wrap_succ i (by omega)
        refine Ev.step (fun k => ?_) this
        simp only [vinculumref02_Value.l0]
        rw [if_pos c1, if_pos c2, hb, e4, e5]
  have := key l.length 0 0 (by omega) (by decide) (by rw [List.drop_zero]; exact hv)
  refine Ev.congr (fun k => ?_) this
  unfold vinculumref02_Value.f
  rfl
theorem value_lt (l : List UInt8) (v : Nat) (hv : decFrom 0 l = some v) : v < 10 ^ l.length := by
  have key : ∀ (l : List UInt8) acc v, decFrom acc l = some v → v < (acc + 1) * 10 ^ l.length := by
    intro l
    induction l with
    | nil => intro acc v h; obtain rfl : acc = v := by simpa [decFrom] using h
             simp
    | cons b l ih =>
      intro acc v h
      unfold decFrom at h
      cases hc : digitVal b with
      | none => rw [hc] at h; cases h
      | some x =>
        rw [hc] at h
        have hx : x ≤ 9 := by
          unfold digitVal at hc
          split at hc
          · have := Option.some.inj hc; omega
          · cases hc
        have h2 := ih _ _ h
        have h3 : (acc * 10 + x + 1) * 10 ^ l.length ≤ ((acc + 1) * 10) * 10 ^ l.length := Nat.mul_le_mul_right _ (by omega)
        rw [List.length_cons, Nat.pow_succ, Nat.mul_comm (10 ^ l.length) 10, ← Nat.mul_assoc]
        omega
  have := key l 0 v hv
  simpa using this
theorem take_dec (l : List UInt8) : ∃ v, decFrom 0 (l.take (dl l)) = some v := by
  have h : l.take (dl l) = l.takeWhile isDg := by
    unfold dl
    exact (List.prefix_iff_eq_take.1 (List.takeWhile_prefix _)).symm
  rw [h]
  refine decFrom_some _ 0 (fun b hb => ?_)
  have := List.all_takeWhile (l := l) (p := isDg)
  have := List.all_eq_true.1 this b hb
  unfold isDg at this
  unfold TR.isDig
  simpa using this
def valL (l : List UInt8) : Nat := (decFrom 0 l).getD 0
theorem valL_of {l : List UInt8} {v : Nat} (h : decFrom 0 l = some v) : valL l = v := by unfold valL; rw [h]; rfl
theorem bOf_extract (l : List UInt8) (a b : Nat) : (bOf l).extract a b = bOf ((l.take b).drop a) := by
  apply ByteArray.ext
  unfold bOf
  simp [List.drop_take]
def finL (neg : Bool) (v : Nat) (r : List UInt8) : Int × Int := if r = [112, 116] then readN neg v else (0, 5)
def refL (neg : Bool) (l : List UInt8) : Int × Int :=
  if dl l < 1 ∨ 5 < dl l then (0, 5) else
  (if (l.drop (dl l)).head? = some 46 then
    (if dl ((l.drop (dl l)).drop 1) < 1 ∨ 10 < dl ((l.drop (dl l)).drop 1) then (0, 5)
     else finL neg (65536 * valL (l.take (dl l)) + nr (65536 * valL (((l.drop (dl l)).drop 1).take (dl ((l.drop (dl l)).drop 1)))) (10 ^ dl ((l.drop (dl l)).drop 1))) (((l.drop (dl l)).drop 1).drop (dl ((l.drop (dl l)).drop 1))))
   else finL neg (65536 * valL (l.take (dl l))) (l.drop (dl l)))
theorem j5_ev (neg : Bool) (v : Nat) (hv : v ≤ 1000000000000000) (r : List UInt8) : Ev (fun k => vinculumref02_Parse.j5 k (bOf r) neg (v : Int)) (finL neg v r) := by
  have hto : (bOf r).toList = r := by rw [ByteArray.toList_eq]; rfl
  refine Ev.step (f := fun _ => some (finL neg v r)) (fun k => ?_) (Ev.now _)
  simp only [vinculumref02_Parse.j5]
  rw [hto]
  unfold finL readN
  by_cases h : r = [112, 116]
  · rw [if_pos h, if_pos h]
    cases neg
    · rw [if_neg (by decide), ref_len, Option.bind_some]
      by_cases hb : v ≤ 1073741823
      · have : lenB (v : Int) = true := by unfold lenB; rw [decide_eq_true (by omega), decide_eq_true (by omega)]; rfl
        rw [this, if_pos rfl, if_pos hb, if_neg (by decide)]
      · have : lenB (v : Int) = false := by unfold lenB; rw [decide_eq_false (p := (v : Int) ≤ 1073741823) (by omega), Bool.and_false]
        rw [this, if_neg (by decide), if_neg hb]
    · rw [if_pos rfl, wrap64_small (by omega) (by omega), ref_len, Option.bind_some]
      by_cases hb : v ≤ 1073741823
      · have : lenB (-(v : Int)) = true := by unfold lenB; rw [decide_eq_true (by omega), decide_eq_true (by omega)]; rfl
        rw [this, if_pos rfl, if_pos hb, if_pos rfl]
      · have : lenB (-(v : Int)) = false := by unfold lenB; rw [decide_eq_false (p := -1073741823 ≤ -(v : Int)) (by omega), Bool.false_and]
        rw [this, if_neg (by decide), if_neg hb]
  · rw [if_neg h, if_neg h]
theorem ex_mid (r : List UInt8) (n : Nat) : (bOf (46 :: r)).extract 1 (n + 1) = bOf (r.take n) := by
  rw [bOf_extract]; simp
theorem ex_end (r : List UInt8) (n : Nat) : (bOf (46 :: r)).extract (n + 1) (bOf (46 :: r)).size = bOf (r.drop n) := by
  rw [bOf_extract, bOf_sz, List.take_length]; simp
theorem ex_take (l : List UInt8) (n : Nat) : (bOf l).extract 0 n = bOf (l.take n) := by
  rw [bOf_extract, List.drop_zero]
theorem ex_drop (l : List UInt8) (n : Nat) : (bOf l).extract n (bOf l).size = bOf (l.drop n) := by
  rw [bOf_extract, bOf_sz, List.take_length]
theorem nr_bound (p c v : Nat) (hc : 0 < c) (hp : p ≤ 65536 * 10000000000) (hv : v ≤ 100000000000) : v + nr p c ≤ 1000000000000000 := by
  have := nr_le p c hc
  omega
theorem j4_ok (neg : Bool) (v : Nat) (hv : v ≤ 100000000000) (r : List UInt8) (hl : r.length ≤ 300) (n : Nat) (hn : dl r = n) (h1 : 1 ≤ n) (h2 : n ≤ 10) :
    Ev (fun k => vinculumref02_Parse.j4 k (bOf (46 :: r)) neg (v : Int) (n : Int) false) (finL neg (v + nr (65536 * valL (r.take n)) (10 ^ n)) (r.drop n)) := by
  obtain ⟨x, hx⟩ := take_dec r
  rw [hn] at hx
  have hnl : n ≤ r.length := hn ▸ dl_le r
  have hlen : (r.take n).length = n := by rw [List.length_take]; omega
  have hlt := value_lt _ x hx
  rw [hlen] at hlt
  have hp10 : 10 ^ n ≤ 10 ^ 10 := Nat.pow_le_pow_right (by decide) h2
  have hp0 : 0 < 10 ^ n := Nat.pow_pos (by decide)
  have hx10 : x ≤ 10000000000 := by omega
  have h65 : wrap64 (65536 * (x : Int)) = ((65536 * x : Nat) : Int) := by rw [wrap64_small (by omega) (by omega)]; omega
  have hw : wrap64 (1 + (n : Int)) = ((n + 1 : Nat) : Int) := by rw [wrap64_small (by omega) (by omega)]; omega
  have hnear := ref_near (65536 * x) (10 ^ n) (by omega) (by omega) hp0
  have hb := nr_bound (65536 * x) (10 ^ n) v hp0 (by omega) hv
  have hsz : ((bOf (46 :: r)).size : Int) = r.length + 1 := by rw [bOf_sz]; simp
  obtain ⟨K1, e1⟩ := value_ev (r.take n) (by omega) x hx
  obtain ⟨K2, e2⟩ := ten_ev n (by omega)
  rw [valL_of hx]
  generalize nr (65536 * x) (10 ^ n) = y at *
  have hadd : wrap64 ((v : Int) + (y : Int)) = ((v + y : Nat) : Int) := by rw [wrap64_small (by omega) (by omega)]; omega
  obtain ⟨K3, e3⟩ := j5_ev neg (v + y) hb (r.drop n)
  have c1 : (1 : Int) ≤ ((n + 1 : Nat) : Int) := by omega
  have c2 : ((n + 1 : Nat) : Int) ≤ ((bOf (46 :: r)).size : Int) := by rw [hsz]; omega
  have c3 : (0 : Int) ≤ ((n + 1 : Nat) : Int) := by omega
  refine ⟨K1 + K2 + K3 + 1, fun k hk => ?_⟩
  obtain ⟨k, rfl⟩ : ∃ k', k = k' + 1 := ⟨k - 1, by omega⟩
  have f1 := e1 k (by omega)
  dsimp only at f1
  have f2 := e2 k (by omega)
  dsimp only at f2
  have f3 := e3 k (by omega)
  dsimp only at f3
  show vinculumref02_Parse.j4 (k + 1) _ _ _ _ _ = _
  simp only [vinculumref02_Parse.j4]
  rw [if_neg (by decide), hw, if_pos c1, if_pos c2, Int.toNat_natCast, ex_mid, f1, Option.bind_some, f2, Option.bind_some, h65, hnear, Option.bind_some, if_pos c3, ex_end, hadd]
  exact f3
theorem j4_no (X : ByteArray) (neg : Bool) (v n : Int) : Ev (fun k => vinculumref02_Parse.j4 k X neg v n true) (0, 5) :=
  ⟨1, fun k hk => by
    obtain ⟨k, rfl⟩ : ∃ k', k = k' + 1 := ⟨k - 1, by omega⟩
    show vinculumref02_Parse.j4 (k + 1) _ _ _ _ _ = _
    simp only [vinculumref02_Parse.j4]
    rw [if_pos trivial]⟩
theorem j3_dot (neg : Bool) (v : Nat) (hv : v ≤ 100000000000) (r : List UInt8) (hl : r.length ≤ 300) :
    Ev (fun k => vinculumref02_Parse.j3 k (bOf (46 :: r)) neg (v : Int) true) (if dl r < 1 ∨ 10 < dl r then (0, 5) else finL neg (v + nr (65536 * valL (r.take (dl r))) (10 ^ dl r)) (r.drop (dl r))) := by
  obtain ⟨K1, e1⟩ := digits_ev (46 :: r) (by simp only [List.length_cons]; omega) 1 (by simp)
  rw [show (46 :: r).drop 1 = r from rfl] at e1
  have hle := dl_le r
  by_cases h1 : dl r < 1
  · rw [if_pos (Or.inl h1)]
    obtain ⟨K2, e2⟩ := j4_no (bOf (46 :: r)) neg (v : Int) ((dl r : Nat) : Int)
    have c1 : ((dl r : Nat) : Int) < 1 := by omega
    refine ⟨K1 + K2 + 1, fun k hk => ?_⟩
    obtain ⟨k, rfl⟩ : ∃ k', k = k' + 1 := ⟨k - 1, by omega⟩
    have f1 : vinculumref02_Digits.f k (bOf (46 :: r)) 1 = some ((dl r : Nat) : Int) := e1 k (by omega)
    have f2 := e2 k (by omega)
    dsimp only at f2
    show vinculumref02_Parse.j3 (k + 1) _ _ _ _ = _
    simp only [vinculumref02_Parse.j3]
    rw [if_pos trivial, f1, Option.bind_some, if_pos c1]
    exact f2
  · by_cases h2 : 10 < dl r
    · rw [if_pos (Or.inr h2)]
      obtain ⟨K2, e2⟩ := j4_no (bOf (46 :: r)) neg (v : Int) ((dl r : Nat) : Int)
      have c1 : ¬ ((dl r : Nat) : Int) < 1 := by omega
      have c2 : decide (((dl r : Nat) : Int) > 10) = true := decide_eq_true (by omega)
      refine ⟨K1 + K2 + 1, fun k hk => ?_⟩
      obtain ⟨k, rfl⟩ : ∃ k', k = k' + 1 := ⟨k - 1, by omega⟩
      have f1 : vinculumref02_Digits.f k (bOf (46 :: r)) 1 = some ((dl r : Nat) : Int) := e1 k (by omega)
      have f2 := e2 k (by omega)
      dsimp only at f2
      show vinculumref02_Parse.j3 (k + 1) _ _ _ _ = _
      simp only [vinculumref02_Parse.j3]
      rw [if_pos trivial, f1, Option.bind_some, if_neg c1, c2]
      exact f2
    · rw [if_neg (by omega)]
      obtain ⟨K2, e2⟩ := j4_ok neg v hv r hl (dl r) rfl (by omega) (by omega)
      have c1 : ¬ ((dl r : Nat) : Int) < 1 := by omega
      have c2 : decide (((dl r : Nat) : Int) > 10) = false := decide_eq_false (by omega)
      refine ⟨K1 + K2 + 1, fun k hk => ?_⟩
      obtain ⟨k, rfl⟩ : ∃ k', k = k' + 1 := ⟨k - 1, by omega⟩
      have f1 : vinculumref02_Digits.f k (bOf (46 :: r)) 1 = some ((dl r : Nat) : Int) := e1 k (by omega)
      have f2 := e2 k (by omega)
      dsimp only at f2
      show vinculumref02_Parse.j3 (k + 1) _ _ _ _ = _
      simp only [vinculumref02_Parse.j3]
      rw [if_pos trivial, f1, Option.bind_some, if_neg c1, c2]
      exact f2
theorem j3_no (neg : Bool) (v : Nat) (hv : v ≤ 100000000000) (r : List UInt8) : Ev (fun k => vinculumref02_Parse.j3 k (bOf r) neg (v : Int) false) (finL neg v r) := by
  obtain ⟨K1, e1⟩ := j5_ev neg v (by omega) r
  refine ⟨K1 + 1, fun k hk => ?_⟩
  obtain ⟨k, rfl⟩ : ∃ k', k = k' + 1 := ⟨k - 1, by omega⟩
  have f1 := e1 k (by omega)
  dsimp only at f1
  show vinculumref02_Parse.j3 (k + 1) _ _ _ _ = _
  simp only [vinculumref02_Parse.j3]
  rw [if_neg (by decide)]
  exact f1
/-- What stands behind the whole points. -/
def restL (neg : Bool) (v : Nat) (r : List UInt8) : Int × Int :=
  if r.head? = some 46 then
    (if dl (r.drop 1) < 1 ∨ 10 < dl (r.drop 1) then (0, 5) else finL neg (v + nr (65536 * valL ((r.drop 1).take (dl (r.drop 1)))) (10 ^ dl (r.drop 1))) ((r.drop 1).drop (dl (r.drop 1))))
  else finL neg v r
theorem refL_eq (neg : Bool) (l : List UInt8) : refL neg l = if dl l < 1 ∨ 5 < dl l then (0, 5) else restL neg (65536 * valL (l.take (dl l))) (l.drop (dl l)) := rfl
theorem j2_ok (neg : Bool) (l : List UInt8) (hl : l.length ≤ 300) (h1 : 1 ≤ dl l) (h2 : dl l ≤ 5) :
    Ev (fun k => vinculumref02_Parse.j2 k (bOf l) neg ((dl l : Nat) : Int) false) (restL neg (65536 * valL (l.take (dl l))) (l.drop (dl l))) := by
  obtain ⟨x, hx⟩ := take_dec l
  have hle := dl_le l
  generalize hn : dl l = n at *
  have hlen : (l.take n).length = n := by rw [List.length_take]; omega
  have hlt := value_lt _ x hx
  rw [hlen] at hlt
  have hp5 : 10 ^ n ≤ 10 ^ 5 := Nat.pow_le_pow_right (by decide) h2
  have h65 : wrap64 (65536 * (x : Int)) = ((65536 * x : Nat) : Int) := by rw [wrap64_small (by omega) (by omega)]; omega
  have hv : 65536 * x ≤ 100000000000 := by omega
  rw [valL_of hx]
  obtain ⟨K1, e1⟩ := value_ev (l.take n) (by omega) x hx
  have c0 : (0 : Int) ≤ (n : Int) := by omega
  have c1 : (n : Int) ≤ ((bOf l).size : Int) := by rw [bOf_sz]; omega
  have hrl : (l.drop n).length ≤ 300 := by rw [List.length_drop]; omega
  generalize hr : l.drop n = r at *
  cases r with
  | nil =>
    obtain ⟨K2, e2⟩ := j3_no neg (65536 * x) hv []
    have c3 : ¬ ((bOf ([] : List UInt8)).size : Int) > 0 := by decide
    refine ⟨K1 + K2 + 1, fun k hk => ?_⟩
    obtain ⟨k, rfl⟩ : ∃ k', k = k' + 1 := ⟨k - 1, by omega⟩
    have f1 := e1 k (by omega)
    dsimp only at f1
    have f2 := e2 k (by omega)
    dsimp only at f2
    show vinculumref02_Parse.j2 (k + 1) _ _ _ _ = _
    simp only [vinculumref02_Parse.j2]
    rw [if_neg (by decide), if_pos c0, if_pos c1, Int.toNat_natCast, ex_take, f1, Option.bind_some, ex_drop, hr, if_neg c3, h65]
    exact f2
  | cons b r =>
    have c3 : ((bOf (b :: r)).size : Int) > 0 := by rw [bOf_sz]; simp
    have hb := bt_list (b :: r) 0 (by simp)
    have hb' : bt (bOf (b :: r)) 0 = (b.toNat : Int) := hb
    by_cases h46 : b = 46
    · subst h46
      obtain ⟨K2, e2⟩ := j3_dot neg (65536 * x) hv r (by simp only [List.length_cons] at hrl; omega)
      have hbe : (bt (bOf (46 :: r)) 0 == 46) = true := by rw [hb']; rfl
      refine ⟨K1 + K2 + 1, fun k hk => ?_⟩
      obtain ⟨k, rfl⟩ : ∃ k', k = k' + 1 := ⟨k - 1, by omega⟩
      have f1 := e1 k (by omega)
      dsimp only at f1
      have f2 := e2 k (by omega)
      dsimp only at f2
      show vinculumref02_Parse.j2 (k + 1) _ _ _ _ = _
      simp only [vinculumref02_Parse.j2]
      rw [if_neg (by decide), if_pos c0, if_pos c1, Int.toNat_natCast, ex_take, f1, Option.bind_some, ex_drop, hr, if_pos c3, if_pos c3, h65, hbe]
      exact f2
    · obtain ⟨K2, e2⟩ := j3_no neg (65536 * x) hv (b :: r)
      have hbe : (bt (bOf (b :: r)) 0 == 46) = false := by
        rw [hb', beq_eq_false_iff_ne]
        intro h
        exact h46 (UInt8.toNat_inj.1 (by have e : (46 : UInt8).toNat = 46 := rfl; omega))
      have hrest : restL neg (65536 * x) (b :: r) = finL neg (65536 * x) (b :: r) := by
        unfold restL
        rw [if_neg]
        intro h
        exact h46 (Option.some.inj h)
      rw [hrest]
      refine ⟨K1 + K2 + 1, fun k hk => ?_⟩
      obtain ⟨k, rfl⟩ : ∃ k', k = k' + 1 := ⟨k - 1, by omega⟩
      have f1 := e1 k (by omega)
      dsimp only at f1
      have f2 := e2 k (by omega)
      dsimp only at f2
      show vinculumref02_Parse.j2 (k + 1) _ _ _ _ = _
      simp only [vinculumref02_Parse.j2]
      rw [if_neg (by decide), if_pos c0, if_pos c1, Int.toNat_natCast, ex_take, f1, Option.bind_some, ex_drop, hr, if_pos c3, if_pos c3, h65, hbe]
      exact f2
theorem j2_no (X : ByteArray) (neg : Bool) (n : Int) : Ev (fun k => vinculumref02_Parse.j2 k X neg n true) (0, 5) :=
  ⟨1, fun k hk => by
    obtain ⟨k, rfl⟩ : ∃ k', k = k' + 1 := ⟨k - 1, by omega⟩
    show vinculumref02_Parse.j2 (k + 1) _ _ _ _ = _
    simp only [vinculumref02_Parse.j2]
    rw [if_pos trivial]⟩
theorem j1_ev (neg : Bool) (l : List UInt8) (hl : l.length ≤ 300) : Ev (fun k => vinculumref02_Parse.j1 k (bOf l) neg) (refL neg l) := by
  obtain ⟨K1, e1⟩ := digits_ev l (by omega) 0 (by omega)
  rw [List.drop_zero] at e1
  rw [refL_eq]
  by_cases h1 : dl l < 1
  · rw [if_pos (Or.inl h1)]
    obtain ⟨K2, e2⟩ := j2_no (bOf l) neg ((dl l : Nat) : Int)
    have c1 : ((dl l : Nat) : Int) < 1 := by omega
    refine ⟨K1 + K2 + 1, fun k hk => ?_⟩
    obtain ⟨k, rfl⟩ : ∃ k', k = k' + 1 := ⟨k - 1, by omega⟩
    have f1 : vinculumref02_Digits.f k (bOf l) 0 = some ((dl l : Nat) : Int) := e1 k (by omega)
    have f2 := e2 k (by omega)
    dsimp only at f2
    show vinculumref02_Parse.j1 (k + 1) _ _ = _
    simp only [vinculumref02_Parse.j1]
    rw [f1, Option.bind_some, if_pos c1]
    exact f2
  · have c1 : ¬ ((dl l : Nat) : Int) < 1 := by omega
    by_cases h2 : 5 < dl l
    · rw [if_pos (Or.inr h2)]
      obtain ⟨K2, e2⟩ := j2_no (bOf l) neg ((dl l : Nat) : Int)
      have c2 : decide (((dl l : Nat) : Int) > 5) = true := decide_eq_true (by omega)
      refine ⟨K1 + K2 + 1, fun k hk => ?_⟩
      obtain ⟨k, rfl⟩ : ∃ k', k = k' + 1 := ⟨k - 1, by omega⟩
      have f1 : vinculumref02_Digits.f k (bOf l) 0 = some ((dl l : Nat) : Int) := e1 k (by omega)
      have f2 := e2 k (by omega)
      dsimp only at f2
      show vinculumref02_Parse.j1 (k + 1) _ _ = _
      simp only [vinculumref02_Parse.j1]
      rw [f1, Option.bind_some, if_neg c1, c2]
      exact f2
    · rw [if_neg (by omega)]
      obtain ⟨K2, e2⟩ := j2_ok neg l hl (by omega) (by omega)
      have c2 : decide (((dl l : Nat) : Int) > 5) = false := decide_eq_false (by omega)
      refine ⟨K1 + K2 + 1, fun k hk => ?_⟩
      obtain ⟨k, rfl⟩ : ∃ k', k = k' + 1 := ⟨k - 1, by omega⟩
      have f1 : vinculumref02_Digits.f k (bOf l) 0 = some ((dl l : Nat) : Int) := e1 k (by omega)
      have f2 := e2 k (by omega)
      dsimp only at f2
      show vinculumref02_Parse.j1 (k + 1) _ _ = _
      simp only [vinculumref02_Parse.j1]
      rw [f1, Option.bind_some, if_neg c1, c2]
      exact f2
/-- A sign ahead, or none. -/
theorem parse_ev (neg : Bool) (l : List UInt8) (hl : l.length ≤ 300) (hh : l.head? ≠ some 45 ∨ neg = true) : Ev (fun k => vinculumref02_Parse.f k (bOf ((if neg then [45] else []) ++ l))) (refL neg l) := by
  obtain ⟨K1, e1⟩ := j1_ev neg l hl
  cases neg
  · have hh' : l.head? ≠ some 45 := by rcases hh with h | h; exact h; cases h
    refine ⟨K1 + 1, fun k hk => ?_⟩
    have f1 := e1 (k - 1) (by omega)
    dsimp only at f1
    obtain ⟨k, rfl⟩ : ∃ k', k = k' + 1 := ⟨k - 1, by omega⟩
    rw [Nat.add_sub_cancel] at f1
    show vinculumref02_Parse.f (k + 1) (bOf l) = _
    unfold vinculumref02_Parse.f
    have j0 : vinculumref02_Parse.j0 (k + 1) (bOf l) false = some (refL false l) := by
      simp only [vinculumref02_Parse.j0]
      rw [if_neg (by decide)]
      exact f1
    cases l with
    | nil => rw [if_neg (show ¬ ((bOf ([] : List UInt8)).size : Int) > 0 by decide)]; exact j0
    | cons b l =>
      have c3 : ((bOf (b :: l)).size : Int) > 0 := by rw [bOf_sz]; simp
      have hb : bt (bOf (b :: l)) 0 = (b.toNat : Int) := bt_list (b :: l) 0 (by simp)
      have hbe : (bt (bOf (b :: l)) 0 == 45) = false := by
        rw [hb, beq_eq_false_iff_ne]
        intro h
        exact hh' (by rw [show b = 45 from UInt8.toNat_inj.1 (by have e : (45 : UInt8).toNat = 45 := rfl; omega)]; rfl)
      rw [if_pos c3, if_pos c3, hbe]
      exact j0
  · refine ⟨K1 + 1, fun k hk => ?_⟩
    have f1 := e1 (k - 1) (by omega)
    dsimp only at f1
    obtain ⟨k, rfl⟩ : ∃ k', k = k' + 1 := ⟨k - 1, by omega⟩
    rw [Nat.add_sub_cancel] at f1
    show vinculumref02_Parse.f (k + 1) (bOf (45 :: l)) = _
    unfold vinculumref02_Parse.f
    have c3 : ((bOf (45 :: l)).size : Int) > 0 := by rw [bOf_sz]; simp
    have c4 : (1 : Int) ≤ ((bOf (45 :: l)).size : Int) := by omega
    have hb : bt (bOf (45 :: l)) 0 = ((45 : UInt8).toNat : Int) := bt_list (45 :: l) 0 (by simp)
    have hbe : (bt (bOf (45 :: l)) 0 == 45) = true := by rw [hb]; rfl
    rw [if_pos c3, if_pos c3, hbe]
    simp only [vinculumref02_Parse.j0]
    rw [if_pos trivial, if_pos c4, ex_drop]
    exact f1
theorem isDg_iff (b : UInt8) : isDg b = true ↔ TR.isDig b.toNat = true := by
  unfold isDg TR.isDig
  simp
theorem dl_all : ∀ (l r : List UInt8), (∀ b ∈ l, isDg b = true) → dl (l ++ r) = l.length + dl r
  | [], r, _ => by simp
  | b :: l, r, h => by
    rw [List.cons_append, dl_cons, h b (by simp), if_pos rfl, dl_all l r (fun c hc => h c (by simp [hc])), List.length_cons]
    omega
theorem dl_not : ∀ (l r : List UInt8), (¬ ∀ b ∈ l, isDg b = true) → ∃ b l', b ∈ l ∧ isDg b = false ∧ dl (l ++ r) < l.length ∧ (l ++ r).drop (dl (l ++ r)) = b :: (l' ++ r)
  | [], r, h => absurd (fun b hb => by cases hb) h
  | b :: l, r, h => by
    rw [List.cons_append, dl_cons]
    cases hb : isDg b
    · rw [if_neg (by decide)]
      exact ⟨b, l, by simp, hb, by simp, rfl⟩
    · rw [if_pos rfl]
      obtain ⟨c, l', h1, h2, h3, h4⟩ := dl_not l r (fun hall => h (fun x hx => by
        rcases List.mem_cons.1 hx with rfl | hx
        · exact hb
        · exact hall x hx))
      exact ⟨c, l', by simp [h1], h2, by simp only [List.length_cons]; omega, by rw [List.drop_succ_cons]; exact h4⟩
theorem dl_end (c : UInt8) (r : List UInt8) (h : isDg c = false) : dl (c :: r) = 0 := by rw [dl_cons, h, if_neg (by decide)]
theorem dec_all (l : List UInt8) (h : ∀ b ∈ l, isDg b = true) (h0 : 1 ≤ l.length) : decNat l = some (valL l) := by
  obtain ⟨v, hv⟩ := decFrom_some l 0 (fun b hb => (isDg_iff b).1 (h b hb))
  unfold decNat
  have : l.isEmpty = false := by cases l with | nil => simp at h0 | cons _ _ => rfl
  rw [this, if_neg (by decide), hv, valL_of hv]
theorem dec_not (l : List UInt8) (h : (¬ ∀ b ∈ l, isDg b = true) ∨ l.length < 1) : decNat l = none := by
  unfold decNat
  by_cases he : l.isEmpty = true
  · rw [if_pos he]
  · rw [if_neg he]
    rcases h with h | h
    · exact decFrom_none l 0 (fun hall => h (fun b hb => (isDg_iff b).2 (hall b hb)))
    · exfalso
      apply he
      cases l with
      | nil => rfl
      | cons _ _ => simp at h
theorem num_ok (l : List UInt8) (m : Nat) (h : ∀ b ∈ l, isDg b = true) (h0 : 1 ≤ l.length) (hm : l.length ≤ m) : numE (bOf l) m = ((valL l : Int), 0) := by
  unfold numE
  rw [if_pos (by rw [bOf_sz]; exact hm)]
  show (match decNat l with | some n => ((n : Int), (0 : Int)) | none => (0, 5)) = _
  rw [dec_all l h h0]
theorem num_no (l : List UInt8) (m : Nat) (h : (¬ ∀ b ∈ l, isDg b = true) ∨ l.length < 1 ∨ m < l.length) : numE (bOf l) m = (0, 5) := by
  unfold numE
  by_cases hm : (bOf l).size ≤ m
  · rw [if_pos hm]
    rw [bOf_sz] at hm
    show (match decNat l with | some n => ((n : Int), (0 : Int)) | none => (0, 5)) = _
    rw [dec_not l (by rcases h with h | h | h; exact .inl h; exact .inr h; omega)]
  · rw [if_neg hm]
theorem readN_lenB (neg : Bool) (n : Nat) : (if lenB (n : Int) then (if neg then -(n : Int) else (n : Int), (0 : Int)) else (0, 2)) = readN neg n := by
  unfold readN lenB
  by_cases h : n ≤ 1073741823
  · rw [if_pos h, decide_eq_true (by omega), decide_eq_true (by omega), if_pos (by decide)]
  · rw [if_neg h, decide_eq_false (p := (n : Int) ≤ 1073741823) (by omega), Bool.and_false, if_neg (by decide)]
def bodyL (neg : Bool) (l : List UInt8) : Int × Int :=
  if hasSuffix l [112, 116] then
    (let c := cut (trimSuffix l [112, 116]) [46]
     let r := sumE (bOf c.1) (bOf c.2.1) c.2.2
     if r.2 = 0 then (if lenB r.1 then (if neg then -r.1 else r.1, 0) else (0, 2)) else (0, 5))
  else (0, 5)
theorem parse_body (neg : Bool) (l : List UInt8) (hh : l.head? ≠ some 45 ∨ neg = true) : parseE (bOf ((if neg then [45] else []) ++ l)) = bodyL neg l := by
  have ht : trimPrefix ((if neg then [45] else []) ++ l) [45] = l ∧ hasPrefix ((if neg then [45] else []) ++ l) [45] = neg := by
    cases neg
    · exact trim_pre false l (by rcases hh with h | h; exact h; cases h)
    · unfold trimPrefix hasPrefix
      simp [List.isPrefixOf]
  have hd : (bOf ((if neg then [45] else []) ++ l)).data.toList = (if neg then [45] else []) ++ l := rfl
  unfold parseE bodyL
  rw [hd, ht.1, ht.2]
theorem cut_none (l : List UInt8) (h : 46 ∉ l) : cut l [46] = (l, [], false) := by
  unfold cut
  have : index l [46] = -1 := by
    refine index_none (fun j hj => ?_)
    cases ho : occAt l [46] j with
    | false => rfl
    | true =>
      have := occAt_head rfl ho
      exact absurd (List.mem_of_getElem? this) h
  rw [this, if_neg (by decide)]
theorem split_dot : ∀ (l : List UInt8), 46 ∈ l → ∃ w p, l = w ++ 46 :: p ∧ 46 ∉ w
  | [], h => by cases h
  | b :: l, h => by
    by_cases hb : b = 46
    · exact ⟨[], l, by rw [hb]; rfl, by simp⟩
    · obtain ⟨w, p, h1, h2⟩ := split_dot l (by
        rcases List.mem_cons.1 h with h | h
        · exact absurd h.symm hb
        · exact h)
      exact ⟨b :: w, p, by rw [h1]; rfl, by simp [h2, Ne.symm hb]⟩
theorem fin_long (neg : Bool) (v : Nat) (b : UInt8) (l : List UInt8) : finL neg v (b :: (l ++ [112, 116])) = (0, 5) := by
  unfold finL
  rw [if_neg]
  intro h
  have := congrArg List.length h
  simp at this
theorem fin_pt (neg : Bool) (v : Nat) : finL neg v [112, 116] = readN neg v := by unfold finL; rw [if_pos rfl]
theorem rest_other (neg : Bool) (v : Nat) (b : UInt8) (l : List UInt8) (h : b ≠ 46) : restL neg v (b :: l) = finL neg v (b :: l) := by
  unfold restL
  rw [if_neg (show ¬ (b :: l).head? = some 46 from fun he => h (Option.some.inj he))]
theorem dl_pt : dl [112, 116] = 0 := by decide
/-- The two readings of what stands behind the sign are one. -/
theorem ref_body (neg : Bool) (l : List UInt8) : refL neg l = bodyL neg l := by
  unfold bodyL
  by_cases hs : hasSuffix l [112, 116] = true
  · rw [if_pos hs]
    obtain ⟨l2, rfl⟩ : ∃ l2, l2 ++ [112, 116] = l := List.isSuffixOf_iff_suffix.1 hs
    rw [(trim_suf l2 [112, 116]).2]
    rw [refL_eq]
    by_cases hdot : 46 ∈ l2
    · obtain ⟨w, p, rfl, hw⟩ := split_dot l2 hdot
      rw [cut_at w p 46 (fun b hb he => hw (he ▸ hb))]
      dsimp only
      have e : (w ++ 46 :: p) ++ [112, 116] = w ++ 46 :: (p ++ [112, 116]) := by simp
      rw [e]
      by_cases hall : ∀ b ∈ w, isDg b = true
      · have hd : dl (w ++ 46 :: (p ++ [112, 116])) = w.length := by rw [dl_all w _ hall, dl_end 46 _ (by decide), Nat.add_zero]
        rw [hd, List.take_left, List.drop_left]
        by_cases hlen : w.length < 1 ∨ 5 < w.length
        · rw [if_pos hlen]
          unfold sumE
          rw [num_no w 5 (.inr hlen)]
          rfl
        · rw [if_neg hlen]
          have hnw := num_ok w 5 hall (by omega) (by omega)
          unfold restL
          rw [if_pos (show (46 :: (p ++ [112, 116])).head? = some 46 from rfl)]
          show (if dl (p ++ [112, 116]) < 1 ∨ 10 < dl (p ++ [112, 116]) then (0, 5) else finL neg (65536 * valL w + nr (65536 * valL ((p ++ [112, 116]).take (dl (p ++ [112, 116])))) (10 ^ dl (p ++ [112, 116]))) ((p ++ [112, 116]).drop (dl (p ++ [112, 116])))) = _
          by_cases hp : ∀ b ∈ p, isDg b = true
          · have hdp : dl (p ++ [112, 116]) = p.length := by rw [dl_all p _ hp, dl_pt, Nat.add_zero]
            rw [hdp, List.take_left, List.drop_left, fin_pt]
            by_cases hl2 : p.length < 1 ∨ 10 < p.length
            · rw [if_pos hl2]
              unfold sumE
              rw [hnw, num_no p 10 (.inr hl2)]
              rfl
            · rw [if_neg hl2]
              have hnp := num_ok p 10 hp (by omega) (by omega)
              unfold sumE
              rw [hnw, hnp, bOf_sz]
              simp only [if_true, Int.toNat_natCast]
              rw [show (65536 * (valL w : Int) + ((nr (65536 * valL p) (10 ^ p.length) : Nat) : Int)) = ((65536 * valL w + nr (65536 * valL p) (10 ^ p.length) : Nat) : Int) by omega]
              exact (readN_lenB neg _).symm
          · obtain ⟨b, l', h1, h2, h3, h4⟩ := dl_not p [112, 116] hp
            rw [h4, fin_long]
            unfold sumE
            rw [hnw, num_no p 10 (.inl hp)]
            split <;> rfl
      · obtain ⟨b, l', h1, h2, h3, h4⟩ := dl_not w (46 :: (p ++ [112, 116])) hall
        have hb : b ≠ 46 := fun he => hw (he ▸ h1)
        rw [h4, rest_other _ _ b _ hb]
        rw [show l' ++ 46 :: (p ++ [112, 116]) = (l' ++ 46 :: p) ++ [112, 116] by simp, fin_long]
        unfold sumE
        rw [num_no w 5 (.inl hall)]
        split <;> rfl
    · rw [cut_none l2 hdot]
      dsimp only
      by_cases hall : ∀ b ∈ l2, isDg b = true
      · have hd : dl (l2 ++ [112, 116]) = l2.length := by rw [dl_all l2 _ hall, dl_pt, Nat.add_zero]
        rw [hd, List.take_left, List.drop_left]
        by_cases hlen : l2.length < 1 ∨ 5 < l2.length
        · rw [if_pos hlen]
          unfold sumE
          rw [num_no l2 5 (.inr hlen)]
          rfl
        · rw [if_neg hlen, rest_other neg _ 112 [116] (by decide), fin_pt]
          unfold sumE
          rw [num_ok l2 5 hall (by omega) (by omega)]
          simp only [if_true, Bool.false_eq_true, if_false]
          rw [show (65536 * (valL l2 : Int)) = ((65536 * valL l2 : Nat) : Int) by omega]
          exact (readN_lenB neg _).symm
      · obtain ⟨b, l', h1, h2, h3, h4⟩ := dl_not l2 [112, 116] hall
        have hb : b ≠ 46 := fun he => hdot (he ▸ h1)
        rw [h4, rest_other _ _ b _ hb, fin_long]
        unfold sumE
        rw [num_no l2 5 (.inl hall)]
        split <;> rfl
  · rw [if_neg hs]
    have hsuf : ∀ r, r <:+ l → ∀ v, finL neg v r = (0, 5) := fun r hr v => by
      unfold finL
      rw [if_neg]
      intro h
      subst h
      exact hs (List.isSuffixOf_iff_suffix.2 hr)
    rw [refL_eq]
    split
    · rfl
    · unfold restL
      split
      · split
        · rfl
        · exact hsuf _ (((List.drop_suffix _ _).trans (List.drop_suffix _ _)).trans (List.drop_suffix _ _)) _
      · exact hsuf _ (List.drop_suffix _ _) _
/-- The reference's Parse answers as the code's. -/
theorem ref_parse (s : ByteArray) (hs : s.size ≤ 200) : Ev (fun k => vinculumref02_Parse.f k s) (parseE s) := by
  have hl : s.data.toList.length = s.size := by simp only [Array.length_toList]; rfl
  have hb : s = bOf s.data.toList := by apply ByteArray.ext; unfold bOf; simp
  rw [hb]
  generalize s.data.toList = l at *
  have key : ∀ (neg : Bool) (l : List UInt8), l.length ≤ 300 → (l.head? ≠ some 45 ∨ neg = true) → Ev (fun k => vinculumref02_Parse.f k (bOf ((if neg then [45] else []) ++ l))) (parseE (bOf ((if neg then [45] else []) ++ l))) := fun neg l hl hh => by
    rw [parse_body neg l hh, ← ref_body]
    exact parse_ev neg l hl hh
  by_cases h : l.head? = some 45
  · obtain ⟨l', rfl⟩ : ∃ l', l = 45 :: l' := by
      cases l with
      | nil => cases h
      | cons b l' => exact ⟨l', by rw [Option.some.inj h]⟩
    exact key true l' (by simp only [List.length_cons] at hl; omega) (.inr rfl)
  · exact key false l (by omega) (.inl h)
end
end Go.Proofs.YtkkadhhmdgbpiaaGreatDoor.P
