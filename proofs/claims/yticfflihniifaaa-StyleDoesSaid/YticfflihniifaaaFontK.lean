/- style.Konst and the reference's Konst, of whatever font, walked. -/
import Derived.Test.YticfflihniifaaaSpec22
import Derived.Lib.Hide
import Derived.Laws.Rows
import Derived.Laws.NewBlocks
import Derived.Deep.WholeRow
import Derived.Shelf.Abstract
import Derived.Deep.RegionHeld3
import Derived.RegionTactic
import Derived.ChangeAlike
import Derived.Tactics2
import Derived.Lib.SmallJoins
namespace Go.Proofs.Yticfflihniifaaa.P
open Go.RowKit Go.Proofs.YticfflihniifaaaW.PrintWords Go.Proofs.YticfflihniifaaaW.PrintLast Go.Proofs.YticfflihniifaaaW.PrintMore
set_option linter.unusedVariables false
set_option linter.unusedSimpArgs false
theorem size_calls (A : Option Addr) (cp : Nat) (l : List Int) (c z : Int) (w : World) (hr : Kd.C (Kd.int .i64) w A l.length l) (hc : l.length ≤ cp) (hl : l.length ≤ 1000000000) :
    Calls Try.prog 8 #[.slice A l.length cp, .int .i64 c, .int .i64 z] w fun e w' => e = .returned (.tuple #[.int .i64 (szV l c z).1, .int .i64 (szV l c z).2]) ∧ Below w.heap.size w w' := by
  obtain ⟨k, hk⟩ := Ev.rounds (size_ev l c z hl)
  exact style_Size.calls k A cp l c z _ _ w hr hc hk
theorem ref_size_calls (A : Option Addr) (cp : Nat) (l : List Int) (c z : Int) (w : World) (hr : Kd.C (Kd.int .i64) w A l.length l) (hc : l.length ≤ cp) (hl : l.length ≤ 1000000000) :
    Calls Try.prog 14 #[.slice A l.length cp, .int .i64 c, .int .i64 z] w fun e w' => e = .returned (.tuple #[.int .i64 (szV l c z).1, .int .i64 (szV l c z).2]) ∧ Below w.heap.size w w' := by
  obtain ⟨k, hk⟩ := Ev.rounds (ref22_size l c z hl)
  exact (vinculumref22_Size.calls k A cp l c z _ _ w hr hc hk).mono fun _ _ ⟨h1, h2⟩ => ⟨h1, h2.below⟩
theorem units_calls (a0 a1 a2 a3 a4 : Int) (a5 : Bool) (n z : Int) (w : World) :
    Calls Try.prog 11 #[.agg #[.int .i64 a0, .int .i64 a1, .int .i64 a2, .int .i64 a3, .int .i64 a4, .bool a5], .int .i64 n, .int .i64 z] w fun e w' => e = .returned (.tuple #[.int .i64 (unV a0 a1 a2 a3 a4 n z).1, .int .i64 (unV a0 a1 a2 a3 a4 n z).2]) ∧ Below w.heap.size w w' :=
  head_Units.calls a0 a1 a2 a3 a4 a5 n z _ _ w (units_f a0 a1 a2 a3 a4 a5 n z)
theorem ref_units_calls (a0 a1 a2 a3 a4 : Int) (a5 : Bool) (n z : Int) (w : World) :
    Calls Try.prog 35 #[.agg #[.int .i64 a0, .int .i64 a1, .int .i64 a2, .int .i64 a3, .int .i64 a4, .bool a5], .int .i64 n, .int .i64 z] w fun e w' => e = .returned (.tuple #[.int .i64 (unV a0 a1 a2 a3 a4 n z).1, .int .i64 (unV a0 a1 a2 a3 a4 n z).2]) ∧ Below w.heap.size w w' := by
  obtain ⟨k, hk⟩ := Ev.rounds (units_ref a0 a1 a2 a3 a4 a5 n z)
  exact vinculumref05_Units.calls k a0 a1 a2 a3 a4 a5 n z _ _ w hk
/-- A constant, as a length. -/
def koV (a0 a1 a2 a3 a4 : Int) (l : List Int) (k c z : Int) : Int × Int :=
  if k < 0 ∨ k ≥ 56 then (0, 1) else if (szV l c z).2 = 0 then unV a0 a1 a2 a3 a4 (rd l k) (szV l c z).1 else (0, (szV l c z).2)
theorem szV_len {l : List Int} {c z : Int} (h : (szV l c z).2 = 0) : szOk l c z = true ∧ l.length = 56 := by
  unfold szV at h
  by_cases ho : szOk l c z = true
  · refine ⟨ho, ?_⟩
    unfold szOk at ho
    simp only [Bool.and_eq_true] at ho
    exact isK_length ho.2
  · rw [if_neg ho] at h; exact absurd h (by decide)
set_option maxHeartbeats 4000000 in
theorem konst_calls (a0 a1 a2 a3 a4 : Int) (a5 : Bool) (v6 v7 v8 v10 v11 v12 v13 v14 v15 v16 : Value) (A : Option Addr) (cp : Nat) (l : List Int) (k c z : Int) (w : World) (hr : Kd.C (Kd.int .i64) w A l.length l) (hc : l.length ≤ cp) (hl : l.length ≤ 1000000000) :
    Calls Try.prog 7 #[.agg #[.int .i64 a0, .int .i64 a1, .int .i64 a2, .int .i64 a3, .int .i64 a4, .bool a5, v6, v7, v8, .slice A l.length cp, v10, v11, v12, v13, v14, v15, v16], .int .i64 k, .int .i64 c, .int .i64 z] w
      fun e w' => e = .returned (.tuple #[.int .i64 (koV a0 a1 a2 a3 a4 l k c z).1, .int .i64 (koV a0 a1 a2 a3 a4 l k c z).2]) ∧ Below w.heap.size w w' := by
  by_cases hk : k < 0 ∨ k ≥ 56
  · have hv : koV a0 a1 a2 a3 a4 l k c z = (0, 1) := by unfold koV; rw [if_pos hk]
    rw [hv]
    clear hr hv
    by_cases h0 : k < 0
    · go_enter Try.func7, Try.ntmps7
      go_wp2_with fail
      go_ret2
      exact ⟨rfl, (Below.refl w.heap.size w).alloc (Nat.le_refl _) _⟩
    · have h1 : 56 ≤ k := by omega
      clear hk
      go_enter Try.func7, Try.ntmps7
      go_wp2_with fail
      go_ret2
      exact ⟨rfl, (Below.refl w.heap.size w).alloc (Nat.le_refl _) _⟩
  · obtain ⟨kn, rfl⟩ : ∃ kn : Nat, k = kn := ⟨k.toNat, by omega⟩
    have k0 : (0 : Int) ≤ (kn : Int) := by omega
    have k1 : (kn : Int) < 56 := by omega
    have hko : koV a0 a1 a2 a3 a4 l kn c z = if (szV l c z).2 = 0 then unV a0 a1 a2 a3 a4 (rd l kn) (szV l c z).1 else (0, (szV l c z).2) := by unfold koV; rw [if_neg hk]
    have h56 : (szV l c z).2 = 0 → l.length = 56 := fun h => (szV_len h).2
    have hsz := fun W hW => size_calls A cp l c z W hW hc hl
    generalize koV a0 a1 a2 a3 a4 l kn c z = kv at hko ⊢
    generalize szV l c z = sv at hko h56 hsz
    obtain ⟨sn, se⟩ := sv
    simp only at hko h56 hsz
    have HSZ := Lib.hid hsz
    by_cases he : se = 0
    · subst he
      have hkl : (kn : Int) < (l.length : Int) := by have := h56 rfl; omega
      rw [if_pos rfl] at hko
      obtain ⟨ad, rfl, hcell⟩ := Kd.at_int hr (kn : Int) (by omega) hkl
      rw [Int.toNat_natCast] at hcell
      have hu := fun W => units_calls a0 a1 a2 a3 a4 a5 (rd l kn) sn W
      rw [← hko] at hu
      have HU := Lib.hid hu
      have HR := Lib.hid hr
      have HC := Lib.hid hcell
      clear hr hk hko h56 hsz hcell hu
      go_enter Try.func7, Try.ntmps7
      go_wp2_with fail
      refine (HSZ.out _ (Kd.C_alloc HR.out _)).mono ?_
      rintro e w1 ⟨rfl, hb⟩
      have hblk := (hb.block w.heap.size (by simp)).trans (heap_alloc_new w _)
      have hB1 : Below w.heap.size w w1 := ((Below.refl w.heap.size w).alloc (Nat.le_refl _) _).trans (hb.mono (by simp))
      have HB1 := Lib.hid hB1
      have q0 : w1.cell? ⟨w.heap.size, 0, none⟩ = some (.int .i64 a0) := Joins.cell_of_block hblk 0
      have q1 : w1.cell? ⟨w.heap.size, 1, none⟩ = some (.int .i64 a1) := Joins.cell_of_block hblk 1
      have q2 : w1.cell? ⟨w.heap.size, 2, none⟩ = some (.int .i64 a2) := Joins.cell_of_block hblk 2
      have q3 : w1.cell? ⟨w.heap.size, 3, none⟩ = some (.int .i64 a3) := Joins.cell_of_block hblk 3
      have q4 : w1.cell? ⟨w.heap.size, 4, none⟩ = some (.int .i64 a4) := Joins.cell_of_block hblk 4
      have q5 : w1.cell? ⟨w.heap.size, 5, none⟩ = some (.bool a5) := Joins.cell_of_block hblk 5
      have q9 : w1.cell? ⟨w.heap.size, 9, none⟩ = some (.slice (some ad) l.length cp) := Joins.cell_of_block hblk 9
      have qe : w1.cell? (ad.add kn) = some (.int .i64 (rd l kn)) := (HB1.out.cell (World.block_lt_of_cell? _ _ HC.out)).trans HC.out
      have hkeep : ∀ w', Below w1.drew.heap.size w1.drew w' → w'.cell? ⟨w.heap.size, 0, none⟩ = some (.int .i64 a0) ∧ w'.cell? ⟨w.heap.size, 1, none⟩ = some (.int .i64 a1) ∧ w'.cell? ⟨w.heap.size, 2, none⟩ = some (.int .i64 a2) ∧ w'.cell? ⟨w.heap.size, 3, none⟩ = some (.int .i64 a3) ∧ w'.cell? ⟨w.heap.size, 4, none⟩ = some (.int .i64 a4) ∧ w'.cell? ⟨w.heap.size, 5, none⟩ = some (.bool a5) ∧ w'.cell? ⟨w.heap.size, 9, none⟩ = some (.slice (some ad) l.length cp) ∧ w'.cell? (ad.add kn) = some (.int .i64 (rd l kn)) := fun w' h => by
        have hlt : w.heap.size < w1.heap.size := World.block_lt_of_cell? _ _ q0
        exact ⟨(h.cell hlt).trans q0, (h.cell hlt).trans q1, (h.cell hlt).trans q2, (h.cell hlt).trans q3, (h.cell hlt).trans q4, (h.cell hlt).trans q5, (h.cell hlt).trans q9, (h.cell (World.block_lt_of_cell? _ _ qe)).trans qe⟩
      have HKEEP := Lib.hid hkeep
      clear hkeep
      clear hblk hB1 hb HR HC HSZ
      go_wp2_with fail
      go_region_held3 (fun w' => w'.cell? ⟨w.heap.size, 0, none⟩ = some (.int .i64 a0) ∧ w'.cell? ⟨w.heap.size, 1, none⟩ = some (.int .i64 a1) ∧ w'.cell? ⟨w.heap.size, 2, none⟩ = some (.int .i64 a2) ∧ w'.cell? ⟨w.heap.size, 3, none⟩ = some (.int .i64 a3) ∧ w'.cell? ⟨w.heap.size, 4, none⟩ = some (.int .i64 a4) ∧ w'.cell? ⟨w.heap.size, 5, none⟩ = some (.bool a5) ∧ w'.cell? ⟨w.heap.size, 9, none⟩ = some (.slice (some ad) l.length cp) ∧ w'.cell? (ad.add kn) = some (.int .i64 (rd l kn))) (go_keep)
        (first
          | (go_at_call 11; refine (HU.out _).mono ?_; rintro e w2 ⟨rfl, hb2⟩; have hk2 := HKEEP.out _ hb2; have HB2 := Lib.hid hb2; clear hb2; obtain ⟨p0, p1, p2, p3, p4, p5, p9, pe⟩ := hk2))
      go_wp2_with fail
      go_ret2
      exact ⟨rfl, (below_drew HB1.out).trans (HB2.out.mono HB1.out.size)⟩
    · have hkv := hko
      rw [if_neg he] at hkv
      subst hkv
      have HR := Lib.hid hr
      have h1 : (se == 0) = false := by simpa using he
      have h2 : (se != 0) = true := by simpa using he
      clear he hr hk hko h56 hsz
      go_enter Try.func7, Try.ntmps7
      go_wp2_with (go_at_call 8; refine (HSZ.out _ (Kd.C_alloc HR.out _)).mono ?_; rintro e w1 ⟨rfl, hb⟩)
      go_ret2
      exact ⟨rfl, ((Below.refl w.heap.size w).alloc (Nat.le_refl _) _).trans (hb.mono (by simp))⟩
set_option maxHeartbeats 4000000 in
theorem ref_konst_calls (a0 a1 a2 a3 a4 : Int) (a5 : Bool) (v6 v7 v8 v10 v11 v12 v13 v14 v15 v16 : Value) (A : Option Addr) (cp : Nat) (l : List Int) (k c z : Int) (w : World) (hr : Kd.C (Kd.int .i64) w A l.length l) (hc : l.length ≤ cp) (hl : l.length ≤ 1000000000) :
    Calls Try.prog 15 #[.agg #[.int .i64 a0, .int .i64 a1, .int .i64 a2, .int .i64 a3, .int .i64 a4, .bool a5, v6, v7, v8, .slice A l.length cp, v10, v11, v12, v13, v14, v15, v16], .int .i64 k, .int .i64 c, .int .i64 z] w
      fun e w' => e = .returned (.tuple #[.int .i64 (koV a0 a1 a2 a3 a4 l k c z).1, .int .i64 (koV a0 a1 a2 a3 a4 l k c z).2]) ∧ Below w.heap.size w w' := by
  by_cases hk : k < 0 ∨ k ≥ 56
  · have hv : koV a0 a1 a2 a3 a4 l k c z = (0, 1) := by unfold koV; rw [if_pos hk]
    rw [hv]
    clear hr hv
    by_cases h0 : k < 0
    · go_enter Try.func15, Try.ntmps15
      go_wp2_with fail
      go_ret2
      exact ⟨rfl, (Below.refl w.heap.size w).alloc (Nat.le_refl _) _⟩
    · have h1 : 55 < k := by omega
      clear hk
      go_enter Try.func15, Try.ntmps15
      go_wp2_with fail
      go_ret2
      exact ⟨rfl, (Below.refl w.heap.size w).alloc (Nat.le_refl _) _⟩
  · obtain ⟨kn, rfl⟩ : ∃ kn : Nat, k = kn := ⟨k.toNat, by omega⟩
    have k0 : (0 : Int) ≤ (kn : Int) := by omega
    have k1 : (kn : Int) ≤ 55 := by omega
    have hko : koV a0 a1 a2 a3 a4 l kn c z = if (szV l c z).2 = 0 then unV a0 a1 a2 a3 a4 (rd l kn) (szV l c z).1 else (0, (szV l c z).2) := by unfold koV; rw [if_neg hk]
    have h56 : (szV l c z).2 = 0 → l.length = 56 := fun h => (szV_len h).2
    have hsz := fun W hW => ref_size_calls A cp l c z W hW hc hl
    generalize koV a0 a1 a2 a3 a4 l kn c z = kv at hko ⊢
    generalize szV l c z = sv at hko h56 hsz
    obtain ⟨sn, se⟩ := sv
    simp only at hko h56 hsz
    have HSZ := Lib.hid hsz
    by_cases he : se = 0
    · subst he
      have hkl : (kn : Int) < (l.length : Int) := by have := h56 rfl; omega
      rw [if_pos rfl] at hko
      obtain ⟨ad, rfl, hcell⟩ := Kd.at_int hr (kn : Int) (by omega) hkl
      rw [Int.toNat_natCast] at hcell
      have hu := fun W => ref_units_calls a0 a1 a2 a3 a4 a5 (rd l kn) sn W
      rw [← hko] at hu
      have HU := Lib.hid hu
      have HR := Lib.hid hr
      have HC := Lib.hid hcell
      clear hr hk hko h56 hsz hcell hu
      go_enter Try.func15, Try.ntmps15
      go_wp2_with fail
      refine (HSZ.out _ (Kd.C_alloc HR.out _)).mono ?_
      rintro e w1 ⟨rfl, hb⟩
      have hblk := (hb.block w.heap.size (by simp)).trans (heap_alloc_new w _)
      have hB1 : Below w.heap.size w w1 := ((Below.refl w.heap.size w).alloc (Nat.le_refl _) _).trans (hb.mono (by simp))
      have HB1 := Lib.hid hB1
      have q0 : w1.cell? ⟨w.heap.size, 0, none⟩ = some (.int .i64 a0) := Joins.cell_of_block hblk 0
      have q1 : w1.cell? ⟨w.heap.size, 1, none⟩ = some (.int .i64 a1) := Joins.cell_of_block hblk 1
      have q2 : w1.cell? ⟨w.heap.size, 2, none⟩ = some (.int .i64 a2) := Joins.cell_of_block hblk 2
      have q3 : w1.cell? ⟨w.heap.size, 3, none⟩ = some (.int .i64 a3) := Joins.cell_of_block hblk 3
      have q4 : w1.cell? ⟨w.heap.size, 4, none⟩ = some (.int .i64 a4) := Joins.cell_of_block hblk 4
      have q5 : w1.cell? ⟨w.heap.size, 5, none⟩ = some (.bool a5) := Joins.cell_of_block hblk 5
      have q9 : w1.cell? ⟨w.heap.size, 9, none⟩ = some (.slice (some ad) l.length cp) := Joins.cell_of_block hblk 9
      have qe : w1.cell? (ad.add kn) = some (.int .i64 (rd l kn)) := (HB1.out.cell (World.block_lt_of_cell? _ _ HC.out)).trans HC.out
      have hkeep : ∀ w', Below w1.drew.heap.size w1.drew w' → w'.cell? ⟨w.heap.size, 0, none⟩ = some (.int .i64 a0) ∧ w'.cell? ⟨w.heap.size, 1, none⟩ = some (.int .i64 a1) ∧ w'.cell? ⟨w.heap.size, 2, none⟩ = some (.int .i64 a2) ∧ w'.cell? ⟨w.heap.size, 3, none⟩ = some (.int .i64 a3) ∧ w'.cell? ⟨w.heap.size, 4, none⟩ = some (.int .i64 a4) ∧ w'.cell? ⟨w.heap.size, 5, none⟩ = some (.bool a5) ∧ w'.cell? ⟨w.heap.size, 9, none⟩ = some (.slice (some ad) l.length cp) ∧ w'.cell? (ad.add kn) = some (.int .i64 (rd l kn)) := fun w' h => by
        have hlt : w.heap.size < w1.heap.size := World.block_lt_of_cell? _ _ q0
        exact ⟨(h.cell hlt).trans q0, (h.cell hlt).trans q1, (h.cell hlt).trans q2, (h.cell hlt).trans q3, (h.cell hlt).trans q4, (h.cell hlt).trans q5, (h.cell hlt).trans q9, (h.cell (World.block_lt_of_cell? _ _ qe)).trans qe⟩
      have HKEEP := Lib.hid hkeep
      clear hkeep
      clear hblk hB1 hb HR HC HSZ
      go_wp2_with fail
      go_region_held3 (fun w' => w'.cell? ⟨w.heap.size, 0, none⟩ = some (.int .i64 a0) ∧ w'.cell? ⟨w.heap.size, 1, none⟩ = some (.int .i64 a1) ∧ w'.cell? ⟨w.heap.size, 2, none⟩ = some (.int .i64 a2) ∧ w'.cell? ⟨w.heap.size, 3, none⟩ = some (.int .i64 a3) ∧ w'.cell? ⟨w.heap.size, 4, none⟩ = some (.int .i64 a4) ∧ w'.cell? ⟨w.heap.size, 5, none⟩ = some (.bool a5) ∧ w'.cell? ⟨w.heap.size, 9, none⟩ = some (.slice (some ad) l.length cp) ∧ w'.cell? (ad.add kn) = some (.int .i64 (rd l kn))) (go_keep)
        (first
          | (go_at_call 35; refine (HU.out _).mono ?_; rintro e w2 ⟨rfl, hb2⟩; have hk2 := HKEEP.out _ hb2; have HB2 := Lib.hid hb2; clear hb2; obtain ⟨p0, p1, p2, p3, p4, p5, p9, pe⟩ := hk2))
      go_wp2_with fail
      go_ret2
      exact ⟨rfl, (below_drew HB1.out).trans (HB2.out.mono HB1.out.size)⟩
    · have hkv := hko
      rw [if_neg he] at hkv
      subst hkv
      have HR := Lib.hid hr
      have h1 : (se == 0) = false := by simpa using he
      have h2 : (se != 0) = true := by simpa using he
      clear he hr hk hko h56 hsz
      go_enter Try.func15, Try.ntmps15
      go_wp2_with (go_at_call 14; refine (HSZ.out _ (Kd.C_alloc HR.out _)).mono ?_; rintro e w1 ⟨rfl, hb⟩)
      go_ret2
      exact ⟨rfl, ((Below.refl w.heap.size w).alloc (Nat.le_refl _) _).trans (hb.mono (by simp))⟩
end Go.Proofs.Yticfflihniifaaa.P
