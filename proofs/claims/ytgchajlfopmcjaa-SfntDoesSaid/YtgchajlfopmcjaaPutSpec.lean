/- What bin.Put and the reference's Put answer: both the same. Conditions: rows of at most 10^6 numbers. -/
import Derived.Test.YtgchajlfopmcjaaBinPut
import Derived.Test.YtgchajlfopmcjaaRef03a
import Derived.Test.YtgchajlfopmcjaaPx6
namespace Go.Proofs.Ytgchajlfopmcjaa.P
open Go.RowKit Go.Proofs.YtgchajlfopmcjaaW.PrintWords Go.Proofs.YtgchajlfopmcjaaW.PrintLast Go.Proofs.YtgchajlfopmcjaaW.PrintMore Go.Proofs.Ytgchajlfopmcjaa.BN
set_option linter.unusedVariables false
set_option linter.unusedSimpArgs false

theorem pow_facts (m : Nat) (h1 : 1 ≤ m) (h4 : m ≤ 4) : ∃ P : Int, (256 : Int) ^ m = 2 * P ∧ (2 : Int) ^ (8 * m - 1) = P ∧ (2 : Int) ^ (8 * m) = 2 * P ∧ 0 < P ∧ P ≤ 2147483648 := by
  refine ⟨2 ^ (8 * m - 1), by rw [← pow256', pow_half _ h1], rfl, pow_half _ h1, ?_⟩
  obtain rfl | rfl | rfl | rfl : m = 1 ∨ m = 2 ∨ m = 3 ∨ m = 4 := by omega
  all_goals decide
theorem putB_add (v : Int) (m : Nat) : ∀ j, j ≤ m → putB (v + 256 ^ m) j = putB v j
  | 0, _ => rfl
  | j + 1, h => by
    simp only [putB]
    rw [putB_add v m j (by omega)]
    have : (v + 256 ^ m) / 256 ^ j % 256 = v / 256 ^ j % 256 := by
      obtain ⟨q, rfl⟩ : ∃ q, m = j + (q + 1) := ⟨m - j - 1, by omega⟩
      have hne : (256 : Int) ^ j ≠ 0 := Int.ne_of_gt (Int.pow_pos (by decide))
      rw [Int.pow_add, Int.add_mul_ediv_left _ _ hne, Int.pow_succ, Int.add_mul_emod_self_right]
    rw [this]
theorem bytes_cons (x : Int) (l : List UInt8) (h0 : 0 ≤ x) : strOfNums [(Int.tmod x 256) % 256] ++ (⟨l.toArray⟩ : ByteArray) = ⟨(UInt8.ofNat (x % 256).toNat :: l).toArray⟩ := by
  rw [Int.tmod_eq_emod_of_nonneg h0, Int.emod_emod_of_dvd _ (Int.dvd_refl 256)]
  apply ByteArray.ext
  simp [strOfNums, ByteArray.data_append]
theorem ref_bytes (v n : Int) (hn : sizeB n = true) (hf : fitsB v n = true) : Ev (fun k => vinculumref03_Bytes.f k v (n.natAbs : Int)) ⟨(putB v n.natAbs).toArray⟩ := by
  obtain ⟨m, hm, h1, h4, hna⟩ := sizeB_abs' hn
  obtain ⟨P, hP1, hP2, hP3, hP4, hP5⟩ := pow_facts m h1 h4
  have hp := ref_power m h4
  rw [hP1] at hp
  rw [hna]
  have hfb : (v < 0 → -P ≤ v) ∧ v < 2 * P := by
    unfold fitsB at hf
    rw [hna, hP2, hP3] at hf
    split at hf <;> simp at hf <;> omega
  have key : ∀ (u : Int), 0 ≤ u → u < 2 * P → ∀ (d i : Nat), i ≤ m → m - i = d → Ev (fun k => vinculumref03_Bytes.l0 k (u / 256 ^ i) (m : Int) ⟨(putB u i).toArray⟩ (i : Int)) ⟨(putB u m).toArray⟩ := by
    intro u hu0 hu1 d
    induction d with
    | zero =>
      intro i hi hd
      obtain rfl : i = m := by omega
      exact Ev.step (f := fun k => some ⟨(putB u i).toArray⟩) (fun k => by simp only [vinculumref03_Bytes.l0]; rw [if_neg (by omega)]) (Ev.now _)
    | succ d ih =>
      intro i hi hd
      have hpos : (0 : Int) < 256 ^ i := Int.pow_pos (by decide)
      have hq0 : 0 ≤ u / 256 ^ i := Int.ediv_nonneg hu0 (Int.le_of_lt hpos)
      have hq1 : u / 256 ^ i ≤ u := Int.ediv_le_self _ hu0
      have hq2 : u / 256 ^ i / 256 ≤ u / 256 ^ i := Int.ediv_le_self _ hq0
      have hq3 : 0 ≤ u / 256 ^ i / 256 := Int.ediv_nonneg hq0 (by decide)
      have hlen : (strOfNums [(Int.tmod (u / 256 ^ i) 256) % 256]).size + (⟨(putB u i).toArray⟩ : ByteArray).size ≤ 9223372036854775807 := by
        rw [strOfNums_size]
        have : (⟨(putB u i).toArray⟩ : ByteArray).size = i := by show (putB u i).toArray.size = i; rw [List.size_toArray, putB_length]
        rw [this]; simp; omega
      have g1 : (i : Int) < (m : Int) := by omega
      have e2 : u / 256 ^ i / 256 = u / 256 ^ (i + 1) := by rw [Int.pow_succ, Int.ediv_ediv_of_nonneg (Int.le_of_lt hpos)]
      have hih := ih (i + 1) (by omega) (by omega)
      have g2 : i < 4611686018427387904 := by omega
      have e3 : wrap64 (Int.tdiv (u / 256 ^ i) 256) = u / 256 ^ (i + 1) := by rw [Int.tdiv_eq_ediv_of_nonneg hq0, wrap64_small (by omega) (by omega), e2]
      refine Ev.step (f := fun k => vinculumref03_Bytes.l0 k (u / 256 ^ (i + 1)) (m : Int) ⟨(putB u (i + 1)).toArray⟩ ((i + 1 : Nat) : Int)) (fun k => ?_) hih
      simp only [vinculumref03_Bytes.l0]
      rw [if_pos g1, Option.bind_some, if_pos hlen, e3, wrap_succ i g2, bytes_cons _ _ hq0]
      rfl
  have start : ∀ (u : Int), 0 ≤ u → u < 2 * P → Ev (fun k => vinculumref03_Bytes.j0 k u (m : Int)) ⟨(putB u m).toArray⟩ := by
    intro u hu0 hu1
    refine Ev.step (f := fun k => vinculumref03_Bytes.l0 k u (m : Int) ⟨#[]⟩ 0) (fun k => by simp only [vinculumref03_Bytes.j0]) ?_
    have := key u hu0 hu1 m 0 (by omega) (by omega)
    simpa [putB] using this
  by_cases hv : v < 0
  · have hv2 := hfb.1 hv
    have := start (v + 2 * P) (by omega) (by omega)
    rw [← hP1, putB_add v m m (Nat.le_refl _), hP1] at this
    have ew : wrap64 (v + 2 * P) = v + 2 * P := wrap64_small (by omega) (by omega)
    refine Ev.congr (f := fun k => (vinculumref03_Power.f k (m : Int)).bind fun t120 => (vinculumref03_Bytes.j0 k (wrap64 (v + t120)) (m : Int))) (fun k => by unfold vinculumref03_Bytes.f; rw [if_pos hv]) ?_
    refine Ev.bind hp ?_
    simp only [ew]
    exact this
  · refine Ev.congr (f := fun k => vinculumref03_Bytes.j0 k v (m : Int)) (fun k => by unfold vinculumref03_Bytes.f; rw [if_neg hv]) ?_
    exact start v (by omega) hfb.2

/-- What Put answers. -/
def pspec (l m : List Int) : ByteArray × Int :=
  if rightB l = false ∨ l.length ≠ m.length then (⟨#[]⟩, 1) else if fitsAll l m = false then (⟨#[]⟩, 2) else (⟨(putAll l m).toArray⟩, 0)
theorem put_spec (l m : List Int) (hl : l.length ≤ 1000000000) (hm : m.length ≤ 1000000000) : bin_Put.f l m = some (pspec l m) := by
  unfold bin_Put.f pspec
  rw [if_pos ⟨hl, hm⟩]
  split
  · rfl
  · split <;> rfl
theorem bytes_append (a b : List UInt8) : (⟨a.toArray⟩ : ByteArray) ++ ⟨b.toArray⟩ = ⟨(a ++ b).toArray⟩ := by
  apply ByteArray.ext
  simp [ByteArray.data_append]
theorem bytes_size (a : List UInt8) : (⟨a.toArray⟩ : ByteArray).size = a.length := by show a.toArray.size = _; simp
end Go.Proofs.Ytgchajlfopmcjaa.P
