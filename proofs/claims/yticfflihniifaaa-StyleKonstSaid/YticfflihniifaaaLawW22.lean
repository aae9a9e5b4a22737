/- Layer 22: the laws StyleKonst and StyleDoes, of whatever font, walked: they return true. -/
import Derived.Test.YticfflihniifaaaStyled
import Derived.Test.YticfflihniifaaaPx7
namespace Go.Proofs.Yticfflihniifaaa.P
open Go.RowKit Go.Proofs.YticfflihniifaaaW.PrintWords Go.Proofs.YticfflihniifaaaW.PrintLast Go.Proofs.YticfflihniifaaaW.PrintMore
set_option linter.unusedVariables false
set_option linter.unusedSimpArgs false
theorem koV_err {a0 a1 a2 a3 a4 : Int} {l : List Int} {k c z : Int} (h : ¬ (koV a0 a1 a2 a3 a4 l k c z).2 = 0) : (koV a0 a1 a2 a3 a4 l k c z).1 = 0 := by
  revert h; unfold koV unV
  split
  · intro _; rfl
  · split
    · split
      · intro h; exact mdF_err _ _ _ h
      · intro _; rfl
    · intro _; rfl
theorem koV_ok {a0 a1 a2 a3 a4 : Int} {l : List Int} {k c z : Int} (h : (koV a0 a1 a2 a3 a4 l k c z).2 = 0) :
    (0 ≤ k ∧ k < 56) ∧ (szV l c z).2 = 0 ∧ koV a0 a1 a2 a3 a4 l k c z = unV a0 a1 a2 a3 a4 (rd l k) (szV l c z).1 ∧ lenB (koV a0 a1 a2 a3 a4 l k c z).1 = true := by
  unfold koV at h ⊢
  by_cases hk : k < 0 ∨ k ≥ 56
  · rw [if_pos hk] at h; exact absurd h (by decide)
  rw [if_neg hk] at h ⊢
  by_cases hs : (szV l c z).2 = 0
  · rw [if_pos hs] at h ⊢
    refine ⟨by omega, hs, rfl, ?_⟩
    unfold unV at h ⊢
    split at h
    · rename_i hh
      rw [if_pos hh]
      unfold mdF at h ⊢
      split at h
      · rename_i h1
        rw [if_pos h1]
        split at h
        · rename_i h2; rw [if_pos h2]; exact h2
        · exact absurd h (by decide)
      · exact absurd h (by decide)
    · exact absurd h (by decide)
  · rw [if_neg hs] at h; exact absurd h hs
theorem szV_isK {l : List Int} {c z : Int} (h : (szV l c z).2 = 0) : isK l = true := by
  have := (szV_len h).1
  unfold szOk at this; simp only [Bool.and_eq_true] at this; exact this.2
theorem one_is (a : Int) (h : lenB a = true) (W : World) : Calls Try.prog 12 #[.slice (some ⟨W.heap.size, 0, none⟩) 1 1] (W.alloc (.cells #[.int .i64 a] 3)) fun e w' => e = .returned (.bool true) ∧ Below W.heap.size W w' := by
  obtain ⟨k, hk⟩ := Ev.rounds (fixed_is_ev [a] (by simp))
  have hb : ([a] : List Int).all lenB = true := by simp [h]
  rw [hb] at hk
  have hr : Kd.C (Kd.int .i64) (W.alloc (.cells #[.int .i64 a] 3)) (some ⟨W.heap.size, 0, none⟩) ([a] : List Int).length [a] := K_row [a] _ _ (by simp) (by
    intro j hj
    have : j < 1 := hj
    obtain rfl : j = 0 := by omega
    simp only [World.cell?, heap_alloc_new]; rfl)
  exact (fixed_Is.calls k _ 1 [a] _ _ hr (by simp) hk).mono fun _ _ ⟨h1, h2⟩ => ⟨h1, ((Below.refl W.heap.size W).alloc (Nat.le_refl _) _).trans (h2.below.mono (by simp))⟩
set_option maxHeartbeats 4000000 in
theorem styleKonst_true (a0 a1 a2 a3 a4 : Int) (a5 : Bool) (v6 v7 v8 v10 v11 v12 v13 v14 v15 v16 : Value) (A : Option Addr) (cp : Nat) (l : List Int) (k c z : Int) (w : World) (hr : Kd.C (Kd.int .i64) w A l.length l) (hc : l.length ≤ cp) :
    Calls Try.prog 3 #[.agg #[.int .i64 a0, .int .i64 a1, .int .i64 a2, .int .i64 a3, .int .i64 a4, .bool a5, v6, v7, v8, .slice A l.length cp, v10, v11, v12, v13, v14, v15, v16], .int .i64 k, .int .i64 c, .int .i64 z] w
      fun e w' => e = .returned (.bool true) ∧ Below w.heap.size w w' := by
  by_cases hl : (100 : Int) < (l.length : Int)
  · clear hr
    go_enter Try.func3, Try.ntmps3
    go_wp2_with fail
    go_ret
    exact ⟨rfl, (Below.refl w.heap.size w).alloc (Nat.le_refl _) _⟩
  have hko := fun W hW => konst_calls a0 a1 a2 a3 a4 a5 v6 v7 v8 v10 v11 v12 v13 v14 v15 v16 A cp l k c z W hW hc (by omega)
  have hsz := fun W hW => size_calls A cp l c z W hW hc (by omega)
  have hke := koV_err (a0 := a0) (a1 := a1) (a2 := a2) (a3 := a3) (a4 := a4) (l := l) (k := k) (c := c) (z := z)
  have hkk := koV_ok (a0 := a0) (a1 := a1) (a2 := a2) (a3 := a3) (a4 := a4) (l := l) (k := k) (c := c) (z := z)
  have hik := szV_isK (l := l) (c := c) (z := z)
  generalize koV a0 a1 a2 a3 a4 l k c z = kv at hko hke hkk
  generalize szV l c z = sv at hsz hkk hik
  obtain ⟨kn, ke⟩ := kv
  obtain ⟨sn, se⟩ := sv
  simp only at hko hsz hke hkk hik
  have HR := Lib.hid hr
  have HKO := Lib.hid hko
  have HSZ := Lib.hid hsz
  clear hko hsz
  by_cases he : ke = 0
  · subst he
    obtain ⟨hk, hs0, hu, hlen⟩ := hkk rfl
    subst hs0
    obtain ⟨k, rfl⟩ : ∃ n : Nat, k = n := ⟨k.toNat, by omega⟩
    have h56 := isK_length (hik rfl)
    have hkl : (k : Int) < (l.length : Int) := by omega
    have k0 : (0 : Int) ≤ (k : Int) := by omega
    obtain ⟨ad, rfl, hcell⟩ := Kd.at_int hr (k : Int) (by omega) hkl
    rw [Int.toNat_natCast] at hcell
    have hun := fun W => units_calls a0 a1 a2 a3 a4 a5 (rd l k) sn W
    rw [← hu] at hun
    have HUN := Lib.hid hun
    have hisk := is_k l (by omega)
    rw [hik rfl] at hisk
    have hki := fun W hW => konst_Is.calls (some ad) cp l true W hW hc hisk
    have HKI := Lib.hid hki
    have HLEN := Lib.hid (one_is kn hlen)
    have HC := Lib.hid hcell
    clear hke hkk hik hr hu hun hki hisk hcell hlen hk h56
    go_enter Try.func3, Try.ntmps3
    go_wp2_with fail
    refine (HKO.out _ (Kd.C_alloc HR.out _)).mono ?_
    rintro e w1 ⟨rfl, hb⟩
    have hblk := (hb.block w.heap.size (by simp)).trans (heap_alloc_new w _)
    have HB1 := Lib.hid (((Below.refl w.heap.size w).alloc (Nat.le_refl _) _).trans (hb.mono (by simp)))
    have q0 : w1.cell? ⟨w.heap.size, 0, none⟩ = some (.int .i64 a0) := Joins.cell_of_block hblk 0
    have q1 : w1.cell? ⟨w.heap.size, 1, none⟩ = some (.int .i64 a1) := Joins.cell_of_block hblk 1
    have q2 : w1.cell? ⟨w.heap.size, 2, none⟩ = some (.int .i64 a2) := Joins.cell_of_block hblk 2
    have q3 : w1.cell? ⟨w.heap.size, 3, none⟩ = some (.int .i64 a3) := Joins.cell_of_block hblk 3
    have q4 : w1.cell? ⟨w.heap.size, 4, none⟩ = some (.int .i64 a4) := Joins.cell_of_block hblk 4
    have q5 : w1.cell? ⟨w.heap.size, 5, none⟩ = some (.bool a5) := Joins.cell_of_block hblk 5
    have q9 : w1.cell? ⟨w.heap.size, 9, none⟩ = some (.slice (some ad) l.length cp) := Joins.cell_of_block hblk 9
    have qe : w1.cell? (ad.add k) = some (.int .i64 (rd l k)) := (HB1.out.cell (World.block_lt_of_cell? _ _ HC.out)).trans HC.out
    have hkeep : ∀ w', Below w1.heap.size w1 w' → w'.cell? ⟨w.heap.size, 0, none⟩ = some (.int .i64 a0) ∧ w'.cell? ⟨w.heap.size, 1, none⟩ = some (.int .i64 a1) ∧ w'.cell? ⟨w.heap.size, 2, none⟩ = some (.int .i64 a2) ∧ w'.cell? ⟨w.heap.size, 3, none⟩ = some (.int .i64 a3) ∧ w'.cell? ⟨w.heap.size, 4, none⟩ = some (.int .i64 a4) ∧ w'.cell? ⟨w.heap.size, 5, none⟩ = some (.bool a5) ∧ w'.cell? ⟨w.heap.size, 9, none⟩ = some (.slice (some ad) l.length cp) ∧ w'.cell? (ad.add k) = some (.int .i64 (rd l k)) := fun w' h => by
      have hlt : w.heap.size < w1.heap.size := World.block_lt_of_cell? _ _ q0
      exact ⟨(h.cell hlt).trans q0, (h.cell hlt).trans q1, (h.cell hlt).trans q2, (h.cell hlt).trans q3, (h.cell hlt).trans q4, (h.cell hlt).trans q5, (h.cell hlt).trans q9, (h.cell (World.block_lt_of_cell? _ _ qe)).trans qe⟩
    have HKEEP := Lib.hid hkeep
    have HC1 := Lib.hid (Kd.C_below (Kd.C_alloc HR.out _) hb)
    clear hblk hb HKO HR HC hkeep q0 q1 q2 q3 q4 q5 qe
    go_wp2_with fail
    refine (HSZ.out _ HC1.out).mono ?_
    rintro e w2 ⟨rfl, hb⟩
    have q9 := (HKEEP.out _ hb).2.2.2.2.2.2.1
    have HB2 := Lib.hid (HB1.out.trans (hb.mono HB1.out.size))
    have HB12 := Lib.hid hb
    have HC2 := Lib.hid (Kd.C_below HC1.out hb)
    clear hb HC1 HSZ
    go_wp2_with fail
    refine (HKI.out _ HC2.out).mono ?_
    rintro e w3 ⟨rfl, hb⟩
    have HB13 := Lib.hid (HB12.out.trans (hb.mono HB12.out.size))
    have HB3 := Lib.hid (HB2.out.trans (hb.mono HB2.out.size))
    have hk2 := HKEEP.out _ HB13.out
    have hkeep3 : ∀ w', Below w3.drew.heap.size w3.drew w' → w'.cell? ⟨w.heap.size, 0, none⟩ = some (.int .i64 a0) ∧ w'.cell? ⟨w.heap.size, 1, none⟩ = some (.int .i64 a1) ∧ w'.cell? ⟨w.heap.size, 2, none⟩ = some (.int .i64 a2) ∧ w'.cell? ⟨w.heap.size, 3, none⟩ = some (.int .i64 a3) ∧ w'.cell? ⟨w.heap.size, 4, none⟩ = some (.int .i64 a4) ∧ w'.cell? ⟨w.heap.size, 5, none⟩ = some (.bool a5) ∧ w'.cell? ⟨w.heap.size, 9, none⟩ = some (.slice (some ad) l.length cp) ∧ w'.cell? (ad.add k) = some (.int .i64 (rd l k)) := fun w' h => HKEEP.out _ (HB13.out.trans (((below_drew (Below.refl w3.heap.size w3)).trans h).mono HB13.out.size))
    have HKEEP3 := Lib.hid hkeep3
    clear hb HB12 HKI q9 HC2 hkeep3
    obtain ⟨p0, p1, p2, p3, p4, p5, p9, pe⟩ := hk2
    go_wp2_with fail
    go_region_held3 (fun w' => w'.cell? ⟨w.heap.size, 0, none⟩ = some (.int .i64 a0) ∧ w'.cell? ⟨w.heap.size, 1, none⟩ = some (.int .i64 a1) ∧ w'.cell? ⟨w.heap.size, 2, none⟩ = some (.int .i64 a2) ∧ w'.cell? ⟨w.heap.size, 3, none⟩ = some (.int .i64 a3) ∧ w'.cell? ⟨w.heap.size, 4, none⟩ = some (.int .i64 a4) ∧ w'.cell? ⟨w.heap.size, 5, none⟩ = some (.bool a5) ∧ w'.cell? ⟨w.heap.size, 9, none⟩ = some (.slice (some ad) l.length cp) ∧ w'.cell? (ad.add k) = some (.int .i64 (rd l k))) (go_keep)
      (first
        | (go_at_call 11; refine (HUN.out _).mono ?_; rintro e w4 ⟨rfl, hb4⟩; have hk4 := HKEEP3.out _ hb4; have HB4 := Lib.hid ((below_drew HB3.out).trans (hb4.mono HB3.out.size)); clear hb4; obtain ⟨r0, r1, r2, r3, r4, r5, r9, re⟩ := hk4))
    clear r0 r1 r2 r3 r4 r5 r9 re p0 p1 p2 p3 p4 p5 p9 pe
    go_wp2_with (first
      | (go_at_call 9; refine (styled_true _).mono ?_; rintro e w5 ⟨rfl, hb⟩; have HB5 := Lib.hid (HB4.out.trans (hb.mono HB4.out.size)); clear hb HB4)
      | (go_at_call 12; refine (HLEN.out _).mono ?_; rintro e w6 ⟨rfl, hb⟩; have HB6 := Lib.hid (HB5.out.trans (hb.mono HB5.out.size)); clear hb HB5))
    go_ret
    exact ⟨rfl, HB6.out⟩
  · have hk0 := hke he
    subst hk0
    have h1 : (ke == 0) = false := by simpa using he
    have h2 : (ke != 0) = true := by simpa using he
    clear hke hkk hik he hr
    go_enter Try.func3, Try.ntmps3
    go_wp2_with fail
    refine (HKO.out _ (Kd.C_alloc HR.out _)).mono ?_
    rintro e w1 ⟨rfl, hb⟩
    have hblk := (hb.block w.heap.size (by simp)).trans (heap_alloc_new w _)
    have HB1 := Lib.hid (((Below.refl w.heap.size w).alloc (Nat.le_refl _) _).trans (hb.mono (by simp)))
    have q9 : w1.cell? ⟨w.heap.size, 9, none⟩ = some (.slice A l.length cp) := Joins.cell_of_block hblk 9
    have HC1 := Lib.hid (Kd.C_below (Kd.C_alloc HR.out _) hb)
    clear hblk hb HKO HR
    go_wp2_with fail
    refine (HSZ.out _ HC1.out).mono ?_
    rintro e w2 ⟨rfl, hb⟩
    have HB2 := Lib.hid (HB1.out.trans (hb.mono HB1.out.size))
    clear hb HB1 HC1 q9 HSZ
    go_wp2_with fail
    refine (styled_true _).mono ?_
    rintro e w3 ⟨rfl, hb⟩
    have HB3 := Lib.hid (HB2.out.trans (hb.mono HB2.out.size))
    clear hb HB2
    go_wp2_with fail
    go_ret
    exact ⟨rfl, HB3.out⟩
end Go.Proofs.Yticfflihniifaaa.P
