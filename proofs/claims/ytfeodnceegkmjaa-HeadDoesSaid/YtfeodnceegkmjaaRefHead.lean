/- Layer 5: the reference's Get and Put answer what the program answers. -/
import Derived.Test.YtfeodnceegkmjaaHeadSpec
import Derived.Test.YtfeodnceegkmjaaUnits05
import Derived.Test.YtfeodnceegkmjaaPx3
import Derived.Test.YtfeodnceegkmjaaPx5
namespace Go.Proofs.Ytfeodnceegkmjaa.P
open Go.RowKit Go.Proofs.YtfeodnceegkmjaaW.PrintWords Go.Proofs.YtfeodnceegkmjaaW.PrintLast Go.Proofs.YtfeodnceegkmjaaW.PrintMore Go.Proofs.Ytfeodnceegkmjaa.BN
set_option linter.unusedVariables false
set_option linter.unusedSimpArgs false
theorem one_ff (s : ByteArray) (a m : Nat) (n : Int) (h1 : 1 ≤ m) (h4 : m ≤ 4) (hle : a + m ≤ s.size) : Ev (fun k => vinculumref03_One.f k (s.extract a (a + m)) n) (ff s a m n) := by
  have e1 : (s.extract a (a + m)).size = m := by rw [ByteArray.size_extract, Nat.min_eq_left hle, Nat.add_sub_cancel_left]
  have ho := ref_one (s.extract a (a + m)) n (by rw [e1]; exact h1) (by rw [e1]; exact h4)
  rw [e1, takeV_tvl, bytesl_extract, List.drop_take, Nat.add_sub_cancel_left, tvl_take] at ho
  exact ho
theorem ref_get05 (a b c : ByteArray) : Ev (fun k => vinculumref05_Get.f k a b c) (getS a b c) := by
  have hT : Ev (fun k => vinculumref05_Get.j0 k a b c true) ((0 : Int), (0 : Int), (0 : Int), (0 : Int), (0 : Int), false, (4 : Int)) := Ev.step (f := fun k => some (0, 0, 0, 0, 0, false, 4)) (fun k => by simp only [vinculumref05_Get.j0, if_true]) (Ev.now _)
  have hT1 : ∀ x : Int, Ev (fun k => vinculumref05_Get.j1 k a b c x true) ((0 : Int), (0 : Int), (0 : Int), (0 : Int), (0 : Int), false, (5 : Int)) := fun x => Ev.step (f := fun k => some (0, 0, 0, 0, 0, false, 5)) (fun k => by simp only [vinculumref05_Get.j1, if_true]) (Ev.now _)
  unfold vinculumref05_Get.f getS
  by_cases h1 : (a.size : Int) < 54
  · simp only [if_pos h1]; rw [if_pos (.inl (by omega))]; exact hT
  simp only [if_neg h1]
  by_cases h2 : (b.size : Int) < 6
  · simp only [if_pos h2]; rw [if_pos (.inr (.inl (by omega)))]; exact hT
  simp only [if_neg h2]
  by_cases h3 : (c.size : Int) < 36
  · simp only [decide_eq_true h3]; rw [if_pos (.inr (.inr (by omega)))]; exact hT
  rw [if_neg (show ¬ (a.size < 54 ∨ b.size < 6 ∨ c.size < 36) by omega)]
  simp only [decide_eq_false h3]
  have o50 := one_ff a 50 2 (-2) (by omega) (by omega) (by omega)
  have o12 := one_ff a 12 4 4 (by omega) (by omega) (by omega)
  have o18 := one_ff a 18 2 2 (by omega) (by omega) (by omega)
  have p4 := one_ff b 4 2 2 (by omega) (by omega) (by omega)
  have q34 := one_ff c 34 2 2 (by omega) (by omega) (by omega)
  have q4 := one_ff c 4 2 (-2) (by omega) (by omega) (by omega)
  have q6 := one_ff c 6 2 (-2) (by omega) (by omega) (by omega)
  generalize ff a 50 2 (-2) = lo at *
  generalize ff a 12 4 4 = m at *
  generalize ff a 18 2 2 = u at *
  generalize ff b 4 2 2 = g at *
  generalize ff c 34 2 2 = me at *
  generalize ff c 4 2 (-2) = az at *
  generalize ff c 6 2 (-2) = de at *
  have hmain : Ev (fun k => vinculumref05_Get.j1 k a b c lo false) (if headB u g me az de = true then (u, g, me, az, de, decide (lo = 1), 0) else noHead 5) := by
    refine Ev.step (f := fun k => (vinculumref03_One.f k (a.extract 18 20) 2).bind fun t110 => (vinculumref03_One.f k (b.extract 4 6) 2).bind fun t111 => (vinculumref03_One.f k (c.extract 34 36) 2).bind fun t112 => (vinculumref03_One.f k (c.extract 4 6) (-2)).bind fun t113 => (vinculumref03_One.f k (c.extract 6 8) (-2)).bind fun t114 => ((vinculumref05_Is.f t110 t111 t112 t113 t114 (lo == 1)).bind fun t116 => (if t116 = true then (some (t110, t111, t112, t113, t114, (lo == 1), 0)) else (some (0, 0, 0, 0, 0, false, 5))))) (fun k => ?_) ?_
    · simp only [vinculumref05_Get.j1, Bool.false_eq_true, if_false]
      rw [if_pos (by decide), if_pos (by omega)]
      refine congrArg (Option.bind _) (funext fun t => ?_)
      rw [if_pos (by decide), if_pos (by omega)]
      refine congrArg (Option.bind _) (funext fun t => ?_)
      rw [if_pos (by decide), if_pos (by omega)]
      refine congrArg (Option.bind _) (funext fun t => ?_)
      rw [if_pos (by omega)]
      refine congrArg (Option.bind _) (funext fun t => ?_)
      rw [if_pos (by decide), if_pos (by omega)]
    · refine Ev.bind o18 (Ev.bind p4 (Ev.bind q34 (Ev.bind q4 (Ev.bind q6 ?_))))
      simp only [ref_head, Option.bind_some]
      cases headB u g me az de
      · exact Ev.now _
      · exact Ev.now _
  refine Ev.step (f := fun k => (vinculumref03_One.f k (a.extract 50 52) (-2)).bind fun t108 => (vinculumref03_One.f k (a.extract 12 16) 4).bind fun t109 => (if t109 = 1594834165 then (if t108 < 0 then (vinculumref05_Get.j1 k a b c t108 true) else (vinculumref05_Get.j1 k a b c t108 (decide (t108 > 1)))) else (vinculumref05_Get.j1 k a b c t108 true))) (fun k => ?_) ?_
  · simp only [vinculumref05_Get.j0, Bool.false_eq_true, if_false]
    rw [if_pos (by decide), if_pos (by omega)]
    refine congrArg (Option.bind _) (funext fun t => ?_)
    rw [if_pos (by decide), if_pos (by omega)]
  · refine Ev.bind o50 (Ev.bind o12 ?_)
    by_cases hm : m = 1594834165
    · simp only [if_pos hm]
      by_cases h0 : lo < 0
      · simp only [if_pos h0]; rw [if_pos (.inr (.inl h0))]; exact hT1 lo
      · simp only [if_neg h0]
        by_cases hl : lo > 1
        · simp only [decide_eq_true hl]; rw [if_pos (.inr (.inr hl))]; exact hT1 lo
        · simp only [decide_eq_false hl]; rw [if_neg (by rintro (h | h | h) <;> contradiction)]; exact hmain
    · simp only [if_neg hm]; rw [if_pos (.inl hm)]; exact hT1 lo

theorem ba_of {s : ByteArray} {l : List UInt8} (h : bytesl s = l) : s = ⟨l.toArray⟩ := by
  apply ByteArray.ext
  rw [← h]
  unfold bytesl
  simp
theorem ref_put05 (a0 a1 a2 a3 a4 : Int) (a5 : Bool) : Ev (fun k => vinculumref05_Put.f k a0 a1 a2 a3 a4 a5) (putS a0 a1 a2 a3 a4 a5) := by
  unfold vinculumref05_Put.f putS
  simp only [ref_head, Option.bind_some]
  cases hh : headB a0 a1 a2 a3 a4
  · exact Ev.now _
  have hb := hh
  unfold headB at hb
  simp only [Bool.and_eq_true, decide_eq_true_eq] at hb
  obtain ⟨⟨⟨h0, h1⟩, h2⟩, h3, h4⟩ := hb
  simp only [if_true]
  have key : ∀ lo : Int, lo = (if a5 then 1 else 0) → Ev (fun k => vinculumref05_Put.j0 k lo a0 a1 a2 a3 a4 a5) ((⟨(hdA a0 a5).toArray⟩ : ByteArray), (⟨(hdB a1).toArray⟩ : ByteArray), (⟨(hdC a2 a3 a4).toArray⟩ : ByteArray), (0 : Int)) := by
    intro lo hlo
    have hlb : 0 ≤ lo ∧ lo ≤ 1 := by subst hlo; cases a5 <;> decide
    obtain ⟨K1, n12⟩ : Ev (fun k => vinculumref03_Noughts.f k 12) ⟨(List.replicate 12 0).toArray⟩ := Ev.of (fun k => vinculumref03_Noughts.mono 12 k) (k := 40) (by decide +kernel)
    obtain ⟨K2, n2⟩ : Ev (fun k => vinculumref03_Noughts.f k 2) ⟨(List.replicate 2 0).toArray⟩ := Ev.of (fun k => vinculumref03_Noughts.mono 2 k) (k := 40) (by decide +kernel)
    obtain ⟨K3, n30⟩ : Ev (fun k => vinculumref03_Noughts.f k 30) ⟨(List.replicate 30 0).toArray⟩ := Ev.of (fun k => vinculumref03_Noughts.mono 30 k) (k := 40) (by decide +kernel)
    obtain ⟨K4, n4⟩ : Ev (fun k => vinculumref03_Noughts.f k 4) ⟨(List.replicate 4 0).toArray⟩ := Ev.of (fun k => vinculumref03_Noughts.mono 4 k) (k := 40) (by decide +kernel)
    obtain ⟨K5, n26⟩ : Ev (fun k => vinculumref03_Noughts.f k 26) ⟨(List.replicate 26 0).toArray⟩ := Ev.of (fun k => vinculumref03_Noughts.mono 26 k) (k := 40) (by decide +kernel)
    obtain ⟨L1, m1⟩ := ref_bytes 1594834165 4 (by decide) (by decide)
    obtain ⟨L2, m2⟩ := ref_bytes a0 2 (by decide) (fits_u2 (by omega))
    obtain ⟨L3, m3⟩ := ref_bytes lo (-2) (by decide) (fits_s2 (by omega))
    obtain ⟨L4, m4⟩ := ref_bytes a3 (-2) (by decide) (fits_s2 h3)
    obtain ⟨L5, m5⟩ := ref_bytes a4 (-2) (by decide) (fits_s2 h4)
    obtain ⟨L6, m6⟩ := ref_bytes a2 2 (by decide) (fits_u2 (by omega))
    obtain ⟨L7, m7⟩ := ref_bytes a1 2 (by decide) (fits_u2 (by omega))
    refine ⟨K1 + K2 + K3 + K4 + K5 + L1 + L2 + L3 + L4 + L5 + L6 + L7 + 1, fun n hn => ?_⟩
    obtain ⟨k, rfl⟩ : ∃ m, n = m + 1 := ⟨n - 1, by omega⟩
    have e1 := n12 k (by omega)
    have e2 := n2 k (by omega)
    have e3 := n30 k (by omega)
    have e4 := n4 k (by omega)
    have e5 := n26 k (by omega)
    have f1 : vinculumref03_Bytes.f k 1594834165 4 = some ⟨(putB 1594834165 4).toArray⟩ := m1 k (by omega)
    have f2 : vinculumref03_Bytes.f k a0 2 = some ⟨(putB a0 2).toArray⟩ := m2 k (by omega)
    have f3 : vinculumref03_Bytes.f k lo 2 = some ⟨(putB lo 2).toArray⟩ := m3 k (by omega)
    have f4 : vinculumref03_Bytes.f k a3 2 = some ⟨(putB a3 2).toArray⟩ := m4 k (by omega)
    have f5 : vinculumref03_Bytes.f k a4 2 = some ⟨(putB a4 2).toArray⟩ := m5 k (by omega)
    have f6 : vinculumref03_Bytes.f k a2 2 = some ⟨(putB a2 2).toArray⟩ := m6 k (by omega)
    have f7 : vinculumref03_Bytes.f k a1 2 = some ⟨(putB a1 2).toArray⟩ := m7 k (by omega)
    have hz : ∀ c : Nat, (⟨(List.replicate c (0 : UInt8)).toArray⟩ : ByteArray).size = c := fun c => by rw [size_eq, bytesl_mk, List.length_replicate]
    have hp : ∀ (v : Int) (c : Nat), (⟨(putB v c).toArray⟩ : ByteArray).size = c := fun v c => by rw [size_eq, bytesl_mk, putB_length]
    simp only [vinculumref05_Put.j0, e1, e2, e3, e4, e5, f1, f2, f3, f4, f5, f6, f7, Option.bind_some, ByteArray.size_append, hz, hp]
    rw [if_pos (by decide), if_pos (by decide), if_pos (by decide), if_pos (by decide), if_pos (by decide), if_pos (by decide), if_pos (by decide), if_pos (by decide), if_pos (by decide), if_pos (by decide), if_pos (by decide)]
    have p4 : putB 0 4 = List.replicate 4 0 := by decide
    have rA : ∀ l : List UInt8, List.replicate 12 (0 : UInt8) ++ l = putB 0 4 ++ (List.replicate 8 0 ++ l) := fun l => by rw [p4]; rfl
    congr 1
    refine Prod.ext ?_ (Prod.ext ?_ (Prod.ext ?_ rfl))
    · refine ba_of ?_
      simp only [bytesl_append, bytesl_mk, hdA, fldL, List.append_assoc, List.nil_append, show (4 : Int).natAbs = 4 from rfl, show (2 : Int).natAbs = 2 from rfl, show (-2 : Int).natAbs = 2 from rfl, rA, ← hlo]
    · refine ba_of ?_
      simp only [bytesl_append, bytesl_mk, hdB, fldL, List.append_assoc, List.nil_append, show (4 : Int).natAbs = 4 from rfl, show (2 : Int).natAbs = 2 from rfl, p4, List.replicate_zero, List.append_nil]
    · refine ba_of ?_
      simp only [bytesl_append, bytesl_mk, hdC, fldL, List.append_assoc, List.nil_append, show (4 : Int).natAbs = 4 from rfl, show (2 : Int).natAbs = 2 from rfl, show (-2 : Int).natAbs = 2 from rfl, p4, List.replicate_zero, List.append_nil]
  cases a5
  · simp only [Bool.false_eq_true, if_false]; exact key 0 rfl
  · simp only [if_true]; exact key 1 rfl
end Go.Proofs.Ytfeodnceegkmjaa.P
