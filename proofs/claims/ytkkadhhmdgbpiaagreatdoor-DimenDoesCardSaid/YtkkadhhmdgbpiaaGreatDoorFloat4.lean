/- What Of tells is near: how far off, on which side, and that more tells no less. Plain. -/
import Derived.Test.YtkkadhhmdgbpiaaGreatDoorFloat3
namespace Go.Proofs.YtkkadhhmdgbpiaaGreatDoor.FL
open Ieee Go.Proofs.YtkkadhhmdgbpiaaGreatDoor.P
theorem V_half : V 4602678819172646912 = (H : Int) := by
  rw [V_pos _ (by decide)]
  exact congrArg Nat.cast (mg_1022.trans H_eq.symm)
theorem V_nhalf : V 13826050856027422720 = -(H : Int) := by
  rw [V_is, show (13826050856027422720 / 2 ^ 63 % 2 == 1) = true by decide, if_pos rfl, show 13826050856027422720 % 2 ^ 63 = 1022 * 2 ^ 52 by decide]
  exact congrArg (fun z : Nat => -(z : Int)) (mg_1022.trans H_eq.symm)
theorem V_zero : V 0 = 0 := by decide
theorem max_aux (m u l k : Nat) (hm : m = 1073741823 * 2 ^ 23 * 2 ^ l) (hu : u = 2 ^ k) (hk : k = 23 + l) : m = 1073741823 * u := by
  subst hm hu hk
  rw [Nat.mul_assoc, ← Nat.pow_add]
theorem max_mg : mg 4742290407612743680 = 1073741823 * U := by
  have h := mg_big (r := 4742290407612743680) (by decide)
  rw [show 2 ^ 52 + 4742290407612743680 % 2 ^ 52 = 1073741823 * 2 ^ 23 by decide, show 4742290407612743680 / 2 ^ 52 - 1 = 1051 by decide] at h
  exact max_aux _ U 1051 1074 h U_eq rfl
theorem V_max : V 4742290407612743680 = ((1073741823 * U : Nat) : Int) := by
  rw [V_pos _ (by decide), max_mg]
theorem V_nmax : V 13965662444467519488 = -((1073741823 * U : Nat) : Int) := by
  rw [V_is, show (13965662444467519488 / 2 ^ 63 % 2 == 1) = true by decide, if_pos rfl, show 13965662444467519488 % 2 ^ 63 = 4742290407612743680 by decide, max_mg]
theorem order_lt (x y : Nat) (hx : x % 2 ^ 63 < INF) (hy : y % 2 ^ 63 < INF) (h : V x < V y) : FloatKind.f64.format.order x y = some .lt := by
  rw [f64_double, order_V x y hx hy]
  simp only [compare, compareOfLessAndEq]
  rw [if_pos h]
theorem order_gt (x y : Nat) (hx : x % 2 ^ 63 < INF) (hy : y % 2 ^ 63 < INF) (h : V y < V x) : FloatKind.f64.format.order x y = some .gt := by
  rw [f64_double, order_V x y hx hy]
  simp only [compare, compareOfLessAndEq]
  rw [if_neg (by omega), if_neg (by omega)]
theorem order_eq (x y : Nat) (hx : x % 2 ^ 63 < INF) (hy : y % 2 ^ 63 < INF) (h : V x = V y) : FloatKind.f64.format.order x y = some .eq := by
  rw [f64_double, order_V x y hx hy]
  simp only [compare, compareOfLessAndEq]
  rw [if_neg (by omega), if_pos h]
theorem order_inf (x y : Nat) (hx : x % 2 ^ 63 = INF) (hy : y % 2 ^ 63 < INF) : FloatKind.f64.format.order x y = some (if (x / 2 ^ 63 % 2 == 1) then .lt else .gt) := by
  obtain ⟨m, i, ry, _, _⟩ := read_fin y hy
  rw [f64_double]
  unfold Format.order
  rw [read_inf x hx, ry]
  rfl
theorem order_same (b : Nat) (h : b % 2 ^ 63 < INF ∨ b % 2 ^ 63 = INF) : FloatKind.f64.format.order b b = some .eq := by
  rcases h with h | h
  · exact order_self b h
  · rw [f64_double]
    unfold Format.order
    rw [read_inf b h]
    show some (compare _ _) = _
    cases (b / 2 ^ 63 % 2 == 1) <;> rfl
theorem order_nan (b : Nat) (h : INF < b % 2 ^ 63) : FloatKind.f64.format.order b b = none := by
  obtain ⟨s, f, rn⟩ := read_nan b h
  rw [f64_double]
  unfold Format.order
  rw [rn]
  rfl
def sgn (s : Bool) (q : Nat) : Int := if s then -(q : Int) else q
theorem nearQ_ok (s : Bool) (q : Nat) (h : q ≤ 1073741823) : nearQ s q = (sgn s q, 0) := by
  unfold nearQ sgn
  rw [if_pos h]
theorem nearQ_no (s : Bool) (q : Nat) (h : ¬ q ≤ 1073741823) : nearQ s q = (0, 2) := by
  unfold nearQ
  rw [if_neg h]
theorem lt_inf_of_half (r : Nat) (h : half (mg r) ≤ 1073741823) : r < INF := by
  rcases Nat.lt_or_ge r INF with h1 | h1
  · exact h1
  · have h2 := half_mono (mg_le h1)
    have h3 := half_inf
    omega
theorem V_sgn (s : Bool) (q : Nat) (h : q ≤ 1073741823) : floatOfInt .f64 (sgn s q) % 2 ^ 63 < INF ∧ V (floatOfInt .f64 (sgn s q)) = if s then -((q * U : Nat) : Int) else ((q * U : Nat) : Int) := by
  have hb : (sgn s q).natAbs = q := by unfold sgn; cases s <;> simp
  obtain ⟨h1, h2, h3, h4⟩ := ofInt_parts (sgn s q) (by omega)
  refine ⟨h2, ?_⟩
  rw [V_is, h3, h4, hb]
  cases s
  · have : ¬ sgn false q < 0 := by unfold sgn; rw [if_neg (by decide)]; omega
    rw [decide_eq_false this]
  · rw [if_pos rfl]
    by_cases h0 : q = 0
    · subst h0
      rw [Nat.zero_mul]
      cases decide (sgn true 0 < 0) <;> rfl
    · have : sgn true q < 0 := by unfold sgn; rw [if_pos rfl]; omega
      rw [decide_eq_true this, if_pos rfl]
/-- Not too great: how far off. -/
theorem off_facts (f : Nat) (hf : f % 2 ^ 63 < INF) (hq : half (mg (f % 2 ^ 63) * 2 ^ 16) ≤ 1073741823) :
    ∃ P D, double.mul f 4679240012837945344 = some P ∧ double.sub (floatOfInt .f64 (sgn (f / 2 ^ 63 % 2 == 1) (half (mg (f % 2 ^ 63) * 2 ^ 16)))) P = some D ∧
      ((FloatKind.f64.format.order D 4602678819172646912 = some .lt ∧ FloatKind.f64.format.order D 13826050856027422720 = some .gt ∧ True) ∨
       (FloatKind.f64.format.order D 4602678819172646912 = some .eq ∧ FloatKind.f64.format.order D 13826050856027422720 = some .gt ∧ FloatKind.f64.format.order P 0 = some .gt) ∨
       (FloatKind.f64.format.order D 4602678819172646912 = some .lt ∧ FloatKind.f64.format.order D 13826050856027422720 = some .eq ∧ FloatKind.f64.format.order P 0 = some .lt)) := by
  obtain ⟨r, hr, hm⟩ := mul_point f hf
  rw [← hr] at hq ⊢
  have hrI := lt_inf_of_half r hq
  rw [Nat.min_eq_left (Nat.le_of_lt hrI)] at hm
  generalize (f / 2 ^ 63 % 2 == 1) = s at *
  generalize hqe : half (mg r) = q at *
  obtain ⟨o1, o2, o3⟩ := off_bound (mg r) q hqe.symm
  obtain ⟨d, hd⟩ := off_rung r q hqe.symm
  have hu := U_H
  obtain ⟨hF, hVF⟩ := V_sgn s q hq
  obtain ⟨p1, p2, p3⟩ := word_parts s r (Nat.lt_trans hrI inf_lt)
  have hVP := V_word s r (Nat.lt_trans hrI inf_lt)
  have hP : double.word s r % 2 ^ 63 < INF := by rw [p2]; exact hrI
  have hdiff : V (floatOfInt .f64 (sgn s q)) - V (double.word s r) = if s then -(((q * U : Nat) : Int) - mg r) else ((q * U : Nat) : Int) - mg r := by
    rw [hVF, hVP]
    cases s
    · rfl
    · rw [if_pos rfl, if_pos rfl, if_pos rfl]; omega
  have hdI : d < INF := by
    rcases Nat.lt_or_ge d INF with h1 | h1
    · exact h1
    · have h2 := mg_le h1
      have h3 := mg_big_inf 1 (by decide)
      rw [Nat.one_mul] at h3
      omega
  obtain ⟨s', hD, hVD⟩ := sub_fin _ _ d hF hP (by rw [hdiff, hd]; cases s <;> simp <;> omega) hdI
  obtain ⟨_, w2, _⟩ := word_parts s' d (Nat.lt_trans hdI inf_lt)
  have hDI : double.word s' d % 2 ^ 63 < INF := by rw [w2]; exact hdI
  refine ⟨_, _, hm, hD, ?_⟩
  rw [hdiff] at hVD
  have c1 : 4602678819172646912 % 2 ^ 63 < INF := by decide
  have c2 : 13826050856027422720 % 2 ^ 63 < INF := by decide
  have c0 : 0 % 2 ^ 63 < INF := by decide
  generalize double.word s' d = D at *
  generalize double.word s r = P at *
  generalize ((q * U : Nat) : Int) - mg r = x at *
  have e1 := V_half
  have e2 := V_nhalf
  have e0 := V_zero
  cases s
  · rw [if_neg (by decide)] at hVD hVP
    by_cases hx : x = H
    · exact .inr (.inl ⟨order_eq _ _ hDI c1 (by omega), order_gt _ _ hDI c2 (by omega), order_gt _ _ hP c0 (by have := o3 hx; omega)⟩)
    · exact .inl ⟨order_lt _ _ hDI c1 (by omega), order_gt _ _ hDI c2 (by omega), trivial⟩
  · rw [if_pos rfl] at hVD hVP
    by_cases hx : x = H
    · exact .inr (.inr ⟨order_lt _ _ hDI c1 (by omega), order_eq _ _ hDI c2 (by omega), order_lt _ _ hP c0 (by have := o3 hx; omega)⟩)
    · exact .inl ⟨order_lt _ _ hDI c1 (by omega), order_gt _ _ hDI c2 (by omega), trivial⟩
/-- Too great: where the product lies. -/
theorem inf_side (s : Bool) : (FloatKind.f64.format.order (double.word s INF) 4742290407612743680 = some .gt) ∨ (FloatKind.f64.format.order (double.word s INF) 4742290407612743680 = some .lt ∧ FloatKind.f64.format.order (double.word s INF) 13965662444467519488 = some .lt) := by
  obtain ⟨p1, p2, p3⟩ := word_parts s INF inf_lt
  rw [order_inf _ _ p2 (by decide), order_inf _ _ p2 (by decide), p3]
  cases s
  · exact .inl rfl
  · exact .inr ⟨rfl, rfl⟩
theorem over_facts (f : Nat) (hk : (f % 2 ^ 63 < INF ∧ ¬ half (mg (f % 2 ^ 63) * 2 ^ 16) ≤ 1073741823) ∨ f % 2 ^ 63 = INF) :
    ∃ P, double.mul f 4679240012837945344 = some P ∧
      ((FloatKind.f64.format.order P 4742290407612743680 = some .gt ∨ FloatKind.f64.format.order P 4742290407612743680 = some .eq) ∨
       (FloatKind.f64.format.order P 4742290407612743680 = some .lt ∧ (FloatKind.f64.format.order P 13965662444467519488 = some .lt ∨ FloatKind.f64.format.order P 13965662444467519488 = some .eq))) := by
  rcases hk with ⟨hf, hq⟩ | hi
  · obtain ⟨r, hr, hm⟩ := mul_point f hf
    rw [← hr] at hq
    refine ⟨_, hm, ?_⟩
    generalize (f / 2 ^ 63 % 2 == 1) = s at *
    by_cases hrI : r < INF
    · rw [Nat.min_eq_left (Nat.le_of_lt hrI)]
      obtain ⟨p1, p2, p3⟩ := word_parts s r (Nat.lt_trans hrI inf_lt)
      have hVP := V_word s r (Nat.lt_trans hrI inf_lt)
      have hP : double.word s r % 2 ^ 63 < INF := by rw [p2]; exact hrI
      generalize double.word s r = P at *
      have hu := U_H
      have hge : 1073741823 * U ≤ mg r := by
        rw [half_eq] at hq
        have h1 := (Nat.le_div_iff_mul_le U_pos (x := 1073741824) (y := mg r + H)).1 (by omega)
        omega
      have c1 : 4742290407612743680 % 2 ^ 63 < INF := by decide
      have c2 : 13965662444467519488 % 2 ^ 63 < INF := by decide
      have e1 := V_max
      have e2 := V_nmax
      cases s
      · rw [if_neg (by decide)] at hVP
        by_cases he : mg r = 1073741823 * U
        · exact .inl (.inr (order_eq _ _ hP c1 (by omega)))
        · exact .inl (.inl (order_gt _ _ hP c1 (by omega)))
      · rw [if_pos rfl] at hVP
        refine .inr ⟨order_lt _ _ hP c1 (by omega), ?_⟩
        by_cases he : mg r = 1073741823 * U
        · exact .inr (order_eq _ _ hP c2 (by omega))
        · exact .inl (order_lt _ _ hP c2 (by omega))
    · rw [Nat.min_eq_right (by omega)]
      rcases inf_side s with h | ⟨h1, h2⟩
      · exact .inl (.inl h)
      · exact .inr ⟨h1, .inl h2⟩
  · refine ⟨_, mul_inf f _ hi pt_fin (by rw [pt_mg]; exact Nat.ne_of_gt (Nat.mul_pos (Nat.two_pow_pos 16) U_pos)), ?_⟩
    rcases inf_side _ with h | ⟨h1, h2⟩
    · exact .inl (.inl h)
    · exact .inr ⟨h1, .inl h2⟩
/-- More tells no less. -/
theorem more_no_less (f g : Nat) (h : V f ≤ V g) :
    sgn (f / 2 ^ 63 % 2 == 1) (half (mg (f % 2 ^ 63) * 2 ^ 16)) ≤ sgn (g / 2 ^ 63 % 2 == 1) (half (mg (g % 2 ^ 63) * 2 ^ 16)) := by
  rw [V_is, V_is] at h
  generalize (f / 2 ^ 63 % 2 == 1) = s at *
  generalize (g / 2 ^ 63 % 2 == 1) = t at *
  generalize mg (f % 2 ^ 63) = m at *
  generalize mg (g % 2 ^ 63) = n at *
  have hmono : ∀ a b : Nat, a ≤ b → half (a * 2 ^ 16) ≤ half (b * 2 ^ 16) := fun a b h => half_mono (Nat.mul_le_mul_right _ h)
  have hz : half (0 * 2 ^ 16) = 0 := by rw [Nat.zero_mul]; exact half_zero
  unfold sgn
  cases s <;> cases t
  · simp at h ⊢; exact hmono _ _ h
  · simp at h
    have h1 : m = 0 := by omega
    have h2 : n = 0 := by omega
    subst h1 h2
    rw [hz]
    decide
  · simp only [if_true, Bool.false_eq_true, if_false]; omega
  · simp at h
    have := hmono _ _ h
    simp only [if_true]
    omega
/-- What two floats' order says. -/
theorem leq_V (f g : Nat) (hf : f % 2 ^ 63 < INF) (hg : g % 2 ^ 63 < INF) (h : FloatKind.f64.format.order f g = some .lt ∨ FloatKind.f64.format.order f g = some .eq) : V f ≤ V g := by
  rcases Int.lt_or_le (V g) (V f) with h1 | h1
  · rw [order_gt f g hf hg h1] at h
    rcases h with h | h <;> cases h
  · exact h1
end Go.Proofs.YtkkadhhmdgbpiaaGreatDoor.FL
