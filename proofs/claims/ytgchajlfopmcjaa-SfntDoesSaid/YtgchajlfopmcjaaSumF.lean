/- What the sums of layer 3 answer: one plain sum over the bytes, without what is too great. Conditions: texts of at most 2^40 bytes. -/
import Derived.Test.YtgchajlfopmcjaaBackSpec
import Derived.Test.YtgchajlfopmcjaaBinPad
import Derived.Test.YtgchajlfopmcjaaPx2
import Derived.Test.YtgchajlfopmcjaaPx3
import Derived.Test.YtgchajlfopmcjaaPx4
namespace Go.Proofs.Ytgchajlfopmcjaa.P
open Go.RowKit Go.Proofs.YtgchajlfopmcjaaW.PrintWords Go.Proofs.YtgchajlfopmcjaaW.PrintLast Go.Proofs.YtgchajlfopmcjaaW.PrintMore Go.Proofs.Ytgchajlfopmcjaa.BN
set_option linter.unusedVariables false
set_option linter.unusedSimpArgs false
def sumF : List UInt8 → Nat → Int
  | [], _ => 0
  | c :: l, i => (c.toNat : Int) * 256 ^ (3 - i % 4) + sumF l (i + 1)
theorem sumF_append : ∀ (a b : List UInt8) (i : Nat), sumF (a ++ b) i = sumF a i + sumF b (i + a.length)
  | [], b, i => by simp [sumF]
  | c :: a, b, i => by
    simp only [List.cons_append, sumF, List.length_cons]
    rw [sumF_append a b (i + 1), show i + 1 + a.length = i + (a.length + 1) by omega]
    omega
theorem sumF_four : ∀ (a : List UInt8) (i j : Nat), i % 4 = j % 4 → sumF a i = sumF a j
  | [], _, _, _ => rfl
  | c :: a, i, j, h => by
    simp only [sumF]
    rw [h, sumF_four a (i + 1) (j + 1) (by omega)]
theorem sumF_zeros : ∀ (n i : Nat), sumF (List.replicate n 0) i = 0
  | 0, _ => rfl
  | n + 1, i => by
    rw [List.replicate_succ, sumF, sumF_zeros n]
    simp
theorem shl_part (c : UInt8) (i : Nat) : shl .u32 ((c.toNat : Int) % 4294967296) (wrap64 (8 * (wrap64 (3 - (Int.tmod (i : Int) 4))))) = (c.toNat : Int) * 256 ^ (3 - i % 4) ∧ 0 ≤ wrap64 (8 * (wrap64 (3 - (Int.tmod (i : Int) 4)))) := by
  have hc := c.toNat_lt
  have e1 : Int.tmod (i : Int) 4 = ((i % 4 : Nat) : Int) := by rw [Int.tmod_eq_emod_of_nonneg (by omega)]; omega
  have e2 : (c.toNat : Int) % 4294967296 = (c.toNat : Int) := by omega
  rw [e1, e2]
  have h4 : i % 4 < 4 := Nat.mod_lt _ (by decide)
  generalize i % 4 = r at *
  obtain rfl | rfl | rfl | rfl : r = 0 ∨ r = 1 ∨ r = 2 ∨ r = 3 := by omega
  · refine ⟨?_, by decide +kernel⟩
    rw [show (wrap64 (8 * (wrap64 (3 - ((0 : Nat) : Int))))) = 24 by decide +kernel]
    show IntKind.u32.wrap ((c.toNat : Int) * 16777216) = (c.toNat : Int) * 16777216
    rw [IntKind.wrap_u32]; omega
  · refine ⟨?_, by decide +kernel⟩
    rw [show (wrap64 (8 * (wrap64 (3 - ((1 : Nat) : Int))))) = 16 by decide +kernel]
    show IntKind.u32.wrap ((c.toNat : Int) * 65536) = (c.toNat : Int) * 65536
    rw [IntKind.wrap_u32]; omega
  · refine ⟨?_, by decide +kernel⟩
    rw [show (wrap64 (8 * (wrap64 (3 - ((2 : Nat) : Int))))) = 8 by decide +kernel]
    show IntKind.u32.wrap ((c.toNat : Int) * 256) = (c.toNat : Int) * 256
    rw [IntKind.wrap_u32]; omega
  · refine ⟨?_, by decide +kernel⟩
    rw [show (wrap64 (8 * (wrap64 (3 - ((3 : Nat) : Int))))) = 0 by decide +kernel]
    show IntKind.u32.wrap ((c.toNat : Int) * 1) = (c.toNat : Int) * 1
    rw [IntKind.wrap_u32]; omega
theorem drop_byte (s : ByteArray) (i : Nat) (h : i < s.size) : (bytesl s).drop i = s[i] :: (bytesl s).drop (i + 1) := by
  unfold bytesl
  rw [List.drop_eq_getElem_cons (by simpa using h)]; rfl
theorem sum_spec (s : ByteArray) (hs : s.size ≤ 1000000000) : Ev (fun k => bin_Sum.f k s) (sumF (bytesl s) 0 % 4294967296) := by
  have key : ∀ (d i : Nat) (v : Int), i ≤ s.size → s.size - i = d → 0 ≤ v → v < 4294967296 → Ev (fun k => bin_Sum.l0 k s v (s.size : Int) (i : Int)) ((v + sumF ((bytesl s).drop i) i) % 4294967296) := by
    intro d
    induction d with
    | zero =>
      intro i v hi hd h0 h1
      have g1 : ¬ (i : Int) < (s.size : Int) := by omega
      have g2 : wrap64 v = v := wrap64_small (by omega) (by omega)
      rw [show (bytesl s).drop i = [] from List.drop_of_length_le (by rw [bytesl_length]; omega), sumF, Int.add_zero, Int.emod_eq_of_lt h0 h1]
      exact Ev.step (f := fun k => some v) (fun k => by simp only [bin_Sum.l0]; rw [if_neg g1, g2]) (Ev.now _)
    | succ d ih =>
      intro i v hi hd h0 h1
      have hlt : i < s.size := by omega
      have g1 : (i : Int) < (s.size : Int) := by omega
      have g2 : 0 ≤ (i : Int) := by omega
      have g3 : i < 4611686018427387904 := by omega
      have hih := ih (i + 1) ((v + (s[i].toNat : Int) * 256 ^ (3 - i % 4)) % 4294967296) (by omega) (by omega) (Int.emod_nonneg _ (by decide)) (Int.emod_lt_of_pos _ (by decide))
      obtain ⟨p1, p2⟩ := shl_part s[i] i
      refine Ev.step (f := fun k => bin_Sum.l0 k s ((v + (s[i].toNat : Int) * 256 ^ (3 - i % 4)) % 4294967296) (s.size : Int) ((i + 1 : Nat) : Int)) (fun k => ?_) ?_
      · simp only [bin_Sum.l0]
        rw [if_pos g1, if_pos g2, if_pos g1, if_pos p2, bt_get s i hlt, p1, wrap_succ i g3]
      · rw [drop_byte s i hlt, sumF]
        rw [Int.emod_add_emod, Int.add_assoc] at hih
        exact hih
  have := key s.size 0 0 (by omega) (by omega) (by decide) (by decide)
  simpa [bin_Sum.f] using this
theorem up_spec (n : Nat) (hn : 1 ≤ n) (hn64 : n ≤ 64) (d : Nat) : ∀ (s : ByteArray), s.size + d ≤ 2000000000 → (n - s.size % n) % n = d → Ev (fun k => vinculumref03_Up.l0 k s (n : Int)) (s ++ noughts d) := by
  have hne : ¬ (n : Int) = 0 := by omega
  induction d with
  | zero =>
    intro s hs hd
    have hm : s.size % n = 0 := by
      have := Nat.mod_lt s.size (show 0 < n by omega)
      rcases Nat.eq_zero_or_pos (s.size % n) with h | h
      · exact h
      · rw [Nat.mod_eq_of_lt (by omega)] at hd; omega
    have g2 : (s.size : Int) % (n : Int) = 0 := by omega
    have : s ++ noughts 0 = s := by apply ByteArray.ext; rw [ByteArray.data_append]; simp [noughts]
    rw [this]
    exact Ev.step (f := fun k => some s) (fun k => by simp only [vinculumref03_Up.l0]; rw [if_neg hne, if_pos g2]) (Ev.now _)
  | succ d ih =>
    intro s hs hd
    have hlt := Nat.mod_lt s.size (show 0 < n by omega)
    have hm : s.size % n ≠ 0 := by
      intro h
      rw [h, Nat.sub_zero, Nat.mod_self] at hd
      omega
    have hd2 : n - s.size % n = d + 1 := by rwa [Nat.mod_eq_of_lt (by omega)] at hd
    have g2 : ¬ (s.size : Int) % (n : Int) = 0 := by omega
    have g3 : s.size + 1 ≤ 9223372036854775807 := by omega
    have hs1 : (s ++ (⟨#[0]⟩ : ByteArray)).size = s.size + 1 := by rw [ByteArray.size_append]; rfl
    have hnext : (n - (s ++ (⟨#[0]⟩ : ByteArray)).size % n) % n = d := by
      rw [hs1]
      rcases Nat.eq_zero_or_pos d with h | h
      · subst h
        have : (s.size + 1) % n = 0 := by
          rw [Nat.add_mod]
          rcases Nat.eq_or_lt_of_le hn with h1 | h1
          · subst h1; omega
          · rw [Nat.mod_eq_of_lt (show 1 < n by omega), show s.size % n + 1 = n by omega, Nat.mod_self]
        rw [this, Nat.sub_zero, Nat.mod_self]
      · have : (s.size + 1) % n = s.size % n + 1 := by
          rw [Nat.add_mod, Nat.mod_eq_of_lt (show 1 < n by omega), Nat.mod_eq_of_lt (by omega)]
        rw [this, Nat.mod_eq_of_lt (by omega)]
        omega
    have hcat : s ++ noughts (d + 1) = (s ++ (⟨#[0]⟩ : ByteArray)) ++ noughts d := by
      apply ByteArray.ext
      simp only [ByteArray.data_append, noughts, Array.append_assoc]
      congr 1
      apply Array.toList_inj.1
      simp [List.replicate_succ]
    rw [hcat]
    refine Ev.step (f := fun k => vinculumref03_Up.l0 k (s ++ (⟨#[0]⟩ : ByteArray)) (n : Int)) (fun k => ?_) (ih _ (by rw [hs1]; omega) hnext)
    simp only [vinculumref03_Up.l0]
    rw [if_neg hne, if_neg g2, if_pos g3]
theorem bytesl_noughts (n : Nat) : bytesl (noughts n) = List.replicate n 0 := by unfold bytesl noughts; simp
theorem bytesl_app (a b : ByteArray) : bytesl (a ++ b) = bytesl a ++ bytesl b := by
  unfold bytesl; rw [ByteArray.data_append, Array.toList_append]
theorem noughts_size (n : Nat) : (noughts n).size = n := by unfold noughts; rw [bytes_size]; simp
theorem be_four (l : List UInt8) (h : l.length = 4) (i : Nat) (hi : i % 4 = 0) : be l = sumF l i := by
  match l, h with
  | [a, b, c, d], _ =>
    rw [sumF_four _ i 0 (by omega)]
    simp only [be_cons, sumF, be_nil, List.length_cons, List.length_nil]
    try omega
theorem up_mod (n : Nat) (s : ByteArray) (hn : 1 ≤ n) : (s.size + (n - s.size % n) % n) % n = 0 := by
  have hlt := Nat.mod_lt s.size (show 0 < n by omega)
  rcases Nat.eq_zero_or_pos (s.size % n) with h | h
  · rw [h, Nat.sub_zero, Nat.mod_self, Nat.add_zero]; exact h
  · rw [Nat.mod_eq_of_lt (show n - s.size % n < n by omega), Nat.add_mod, Nat.mod_eq_of_lt (show n - s.size % n < n by omega), show s.size % n + (n - s.size % n) = n by omega, Nat.mod_self]
theorem ref_sum (s : ByteArray) (hs : s.size ≤ 1000000000) : Ev (fun k => vinculumref03_Sum.f k s) (sumF (bytesl s) 0 % 4294967296) := by
  have hlt := Nat.mod_lt (4 - s.size % 4) (show 0 < 4 by decide)
  have hup := up_spec 4 (by decide) (by decide) _ s (by omega) rfl
  have hmod := up_mod 4 s (by decide)
  generalize (4 - s.size % 4) % 4 = q at *
  have hsum : sumF (bytesl (s ++ noughts q)) 0 = sumF (bytesl s) 0 := by rw [bytesl_app, bytesl_noughts, sumF_append, sumF_zeros, Int.add_zero]
  have hsz : (s ++ noughts q).size = s.size + q := by rw [ByteArray.size_append, noughts_size]
  unfold vinculumref03_Sum.f
  refine Ev.bind hup ?_
  rw [← hsum]
  generalize s ++ noughts q = t at *
  have key : ∀ (d i : Nat) (v : Int), i ≤ t.size → i % 4 = 0 → t.size - i = d → 0 ≤ v → v < 4294967296 → Ev (fun k => vinculumref03_Sum.l0 k t v (i : Int)) ((v + sumF ((bytesl t).drop i) i) % 4294967296) := by
    intro d
    induction d using Nat.strongRecOn with
    | ind d ih =>
      intro i v hi hi4 hd h0 h1
      by_cases hlti : i < t.size
      · have h4 : i + 4 ≤ t.size := by omega
        have g1 : (i : Int) < (t.size : Int) := by omega
        have g2 : 0 ≤ (i : Int) := by omega
        have g3 : (i : Int) ≤ ((i + 4 : Nat) : Int) := by omega
        have g4 : ((i + 4 : Nat) : Int) ≤ (t.size : Int) := by omega
        have g5 : i + 4 < 4611686018427387904 := by omega
        have e1 : (t.extract i (i + 4)).size = 4 := by rw [ByteArray.size_extract, Nat.min_eq_left h4, Nat.add_sub_cancel_left]
        have ho := ref_one (t.extract i (i + 4)) 4 (by rw [e1]; decide) (by rw [e1]; decide)
        have e2 : takeV (t.extract i (i + 4)) (t.extract i (i + 4)).size 4 = be (((bytesl t).drop i).take 4) := by
          rw [takeV_pos _ _ _ (by omega), e1, bytesl_extract, List.drop_take, Nat.add_sub_cancel_left, List.take_take, Nat.min_self]
        have hl4 : (((bytesl t).drop i).take 4).length = 4 := by rw [List.length_take, List.length_drop, bytesl_length]; omega
        have hb := be_small (((bytesl t).drop i).take 4) (by omega)
        rw [e2] at ho
        have hih := ih (d - 4) (by omega) (i + 4) ((v + be (((bytesl t).drop i).take 4)) % 4294967296) (by omega) (by omega) (by omega) (Int.emod_nonneg _ (by decide)) (Int.emod_lt_of_pos _ (by decide))
        have e3 : Int.tmod (wrap64 (v + be (((bytesl t).drop i).take 4))) 4294967296 = (v + be (((bytesl t).drop i).take 4)) % 4294967296 := by
          rw [wrap64_small (by omega) (by omega), Int.tmod_eq_emod_of_nonneg (by omega)]
        have e4 : (v + sumF ((bytesl t).drop i) i) % 4294967296 = ((v + be (((bytesl t).drop i).take 4)) % 4294967296 + sumF ((bytesl t).drop (i + 4)) (i + 4)) % 4294967296 := by
          have hsplit : (bytesl t).drop i = ((bytesl t).drop i).take 4 ++ (bytesl t).drop (i + 4) := by
            rw [← List.drop_drop, List.take_append_drop]
          conv => lhs; rw [hsplit]
          rw [sumF_append, hl4, ← be_four _ hl4 i hi4, Int.emod_add_emod, Int.add_assoc]
        rw [e4]
        refine Ev.step (f := fun k => (vinculumref03_One.f k (t.extract i (i + 4)) 4).bind fun t137 => (vinculumref03_Sum.l0 k t (Int.tmod (wrap64 (v + t137)) 4294967296) ((i + 4 : Nat) : Int))) (fun k => ?_) ?_
        · simp only [vinculumref03_Sum.l0]
          rw [show ((4 : Int)) = ((4 : Nat) : Int) from rfl, wrap_add i 4 g5, if_pos g1, if_pos g2, if_pos g3, if_pos g4, Int.toNat_natCast, Int.toNat_natCast]
        · refine Ev.bind ho ?_
          simp only [e3]
          exact hih
      · have g1 : ¬ (i : Int) < (t.size : Int) := by omega
        rw [show (bytesl t).drop i = [] from List.drop_of_length_le (by rw [bytesl_length]; omega), sumF, Int.add_zero, Int.emod_eq_of_lt h0 h1]
        exact Ev.step (f := fun k => some v) (fun k => by simp only [vinculumref03_Sum.l0]; rw [if_neg g1]) (Ev.now _)
  have := key t.size 0 0 (by omega) rfl (by omega) (by decide) (by decide)
  simpa using this
/-- What Pad answers. -/
def padspec (s : ByteArray) (n : Int) : ByteArray × Int := if n < 1 ∨ n > 64 then (⟨#[]⟩, 1) else (s ++ noughts ((n.toNat - s.size % n.toNat) % n.toNat), 0)
theorem pad_spec (s : ByteArray) (n : Int) (hs : s.size ≤ 140737488351232) : bin_Pad.f s n = some (padspec s n) := by
  unfold bin_Pad.f padspec
  rw [if_pos hs]
  split <;> rfl
end Go.Proofs.Ytgchajlfopmcjaa.P
