/- Layer 22: the law StyleDoes, of whatever font, walked: it returns true. -/
import Derived.Test.YticfflihniifaaaStyled
namespace Go.Proofs.Yticfflihniifaaa.P
open Go.RowKit Go.Proofs.YticfflihniifaaaW.PrintWords Go.Proofs.YticfflihniifaaaW.PrintLast Go.Proofs.YticfflihniifaaaW.PrintMore
set_option linter.unusedVariables false
set_option linter.unusedSimpArgs false
theorem ris (c : Int) : vinculumref22_Is.f c = some (decide (0 ≤ c ∧ c < 8)) := by
  unfold vinculumref22_Is.f
  by_cases h : c ≥ 0
  · rw [if_pos h]; congr 1; exact decide_eq_decide.2 (by omega)
  · rw [if_neg h, decide_eq_false (by omega)]
theorem sty8 {P : Int → Prop} (h : ∀ c : Int, 0 ≤ c → c < 8 → P c) (h' : ∀ c : Int, ¬ (0 ≤ c ∧ c < 8) → P c) (c : Int) : P c := by
  by_cases hc : 0 ≤ c ∧ c < 8
  · exact h c hc.1 hc.2
  · exact h' c hc
theorem rcramp (c : Int) : vinculumref22_Cramp.f c = style_Cramp.f c := by
  refine sty8 (P := fun c => vinculumref22_Cramp.f c = style_Cramp.f c) (fun c h0 h8 => ?_) (fun c h => ?_) c
  · obtain rfl | rfl | rfl | rfl | rfl | rfl | rfl | rfl : c = 0 ∨ c = 1 ∨ c = 2 ∨ c = 3 ∨ c = 4 ∨ c = 5 ∨ c = 6 ∨ c = 7 := by omega
    all_goals decide +kernel
  · unfold vinculumref22_Cramp.f style_Cramp.f; rw [ris, decide_eq_false h, if_neg h]; rfl
theorem rsup (c : Int) : vinculumref22_Sup.f c = style_Sup.f c := by
  refine sty8 (P := fun c => vinculumref22_Sup.f c = style_Sup.f c) (fun c h0 h8 => ?_) (fun c h => ?_) c
  · obtain rfl | rfl | rfl | rfl | rfl | rfl | rfl | rfl : c = 0 ∨ c = 1 ∨ c = 2 ∨ c = 3 ∨ c = 4 ∨ c = 5 ∨ c = 6 ∨ c = 7 := by omega
    all_goals decide +kernel
  · unfold vinculumref22_Sup.f style_Sup.f; rw [ris, decide_eq_false h, if_neg h]; rfl
theorem rnum (c : Int) : vinculumref22_Num.f c = style_Num.f c := by
  refine sty8 (P := fun c => vinculumref22_Num.f c = style_Num.f c) (fun c h0 h8 => ?_) (fun c h => ?_) c
  · obtain rfl | rfl | rfl | rfl | rfl | rfl | rfl | rfl : c = 0 ∨ c = 1 ∨ c = 2 ∨ c = 3 ∨ c = 4 ∨ c = 5 ∨ c = 6 ∨ c = 7 := by omega
    all_goals decide +kernel
  · unfold vinculumref22_Num.f style_Num.f; rw [ris, decide_eq_false h, if_neg h]; rfl
theorem rsub (c : Int) : vinculumref22_Sub.f c = style_Sub.f c := by
  refine sty8 (P := fun c => vinculumref22_Sub.f c = style_Sub.f c) (fun c h0 h8 => ?_) (fun c h => ?_) c
  · obtain rfl | rfl | rfl | rfl | rfl | rfl | rfl | rfl : c = 0 ∨ c = 1 ∨ c = 2 ∨ c = 3 ∨ c = 4 ∨ c = 5 ∨ c = 6 ∨ c = 7 := by omega
    all_goals decide +kernel
  · unfold vinculumref22_Sub.f; rw [rsup]; unfold style_Sup.f style_Sub.f; rw [if_neg h, if_neg h, Option.bind_some, rcramp]; unfold style_Cramp.f; rw [if_neg h]; rfl
theorem rden (c : Int) : vinculumref22_Den.f c = style_Den.f c := by
  refine sty8 (P := fun c => vinculumref22_Den.f c = style_Den.f c) (fun c h0 h8 => ?_) (fun c h => ?_) c
  · obtain rfl | rfl | rfl | rfl | rfl | rfl | rfl | rfl : c = 0 ∨ c = 1 ∨ c = 2 ∨ c = 3 ∨ c = 4 ∨ c = 5 ∨ c = 6 ∨ c = 7 := by omega
    all_goals decide +kernel
  · unfold vinculumref22_Den.f; rw [rnum]; unfold style_Num.f style_Den.f; rw [if_neg h, if_neg h, Option.bind_some, rcramp]; unfold style_Cramp.f; rw [if_neg h]; rfl
set_option maxHeartbeats 16000000 in
set_option maxRecDepth 100000 in
theorem styleDoes_true (a0 a1 a2 a3 a4 : Int) (a5 : Bool) (v6 v7 v8 v10 v11 v12 v13 v14 v15 v16 : Value) (A : Option Addr) (cp : Nat) (l : List Int) (k c z : Int) (w : World) (hr : Kd.C (Kd.int .i64) w A l.length l) (hc : l.length ≤ cp) :
    Calls Try.prog 5 #[.agg #[.int .i64 a0, .int .i64 a1, .int .i64 a2, .int .i64 a3, .int .i64 a4, .bool a5, v6, v7, v8, .slice A l.length cp, v10, v11, v12, v13, v14, v15, v16], .int .i64 k, .int .i64 c, .int .i64 z] w
      fun e w' => e = .returned (.bool true) ∧ Below w.heap.size w w' := by
  by_cases hl : (100 : Int) < (l.length : Int)
  · clear hr
    go_enter Try.func5, Try.ntmps5
    go_wp2_with fail
    go_ret
    exact ⟨rfl, (Below.refl w.heap.size w).alloc (Nat.le_refl _) _⟩
  have hko := fun W hW => konst_calls a0 a1 a2 a3 a4 a5 v6 v7 v8 v10 v11 v12 v13 v14 v15 v16 A cp l k c z W hW hc (by omega)
  have hrko := fun W hW => ref_konst_calls a0 a1 a2 a3 a4 a5 v6 v7 v8 v10 v11 v12 v13 v14 v15 v16 A cp l k c z W hW hc (by omega)
  have hsz := fun W hW => size_calls A cp l c z W hW hc (by omega)
  have hrsz := fun W hW => ref_size_calls A cp l c z W hW hc (by omega)
  generalize koV a0 a1 a2 a3 a4 l k c z = kv at hko hrko
  generalize szV l c z = sv at hsz hrsz
  obtain ⟨kn, ke⟩ := kv
  obtain ⟨sn, se⟩ := sv
  simp only at hko hsz hrko hrsz
  have c1 := fun W => style_Is.calls c _ W (is_style c)
  have c2 := fun W => vinculumref22_Is.calls c _ W (ris c)
  generalize decide (0 ≤ c ∧ c < 8) = b at c1 c2
  have c3 := fun W => style_Cramp.calls c _ W rfl
  have c4 := fun W => vinculumref22_Cramp.calls c _ W (rcramp c)
  have c5 := fun W => style_Sup.calls c _ W rfl
  have c6 := fun W => vinculumref22_Sup.calls c _ W (rsup c)
  have c7 := fun W => style_Sub.calls c _ W rfl
  have c8 := fun W => vinculumref22_Sub.calls c _ W (rsub c)
  have c9 := fun W => style_Num.calls c _ W rfl
  have c10 := fun W => vinculumref22_Num.calls c _ W (rnum c)
  have c11 := fun W => style_Den.calls c _ W rfl
  have c12 := fun W => vinculumref22_Den.calls c _ W (rden c)
  generalize (if 0 ≤ c ∧ c < 8 then crampV c else c) = x1 at c3 c4
  generalize (if 0 ≤ c ∧ c < 8 then supV c else c) = x2 at c5 c6
  generalize (if 0 ≤ c ∧ c < 8 then crampV (supV c) else c) = x3 at c7 c8
  generalize (if 0 ≤ c ∧ c < 8 then numV c else c) = x4 at c9 c10
  generalize (if 0 ≤ c ∧ c < 8 then crampV (numV c) else c) = x5 at c11 c12
  have HR := Lib.hid hr
  have HKO := Lib.hid hko
  have HRKO := Lib.hid hrko
  have HSZ := Lib.hid hsz
  have HRSZ := Lib.hid hrsz
  have C1 := Lib.hid c1
  have C2 := Lib.hid c2
  have C3 := Lib.hid c3
  have C4 := Lib.hid c4
  have C5 := Lib.hid c5
  have C6 := Lib.hid c6
  have C7 := Lib.hid c7
  have C8 := Lib.hid c8
  have C9 := Lib.hid c9
  have C10 := Lib.hid c10
  have C11 := Lib.hid c11
  have C12 := Lib.hid c12
  clear hko hsz hrko hrsz hr c1 c2 c3 c4 c5 c6 c7 c8 c9 c10 c11 c12
  go_enter Try.func5, Try.ntmps5
  go_wp2_with fail
  refine (HSZ.out _ (Kd.C_alloc HR.out _)).mono ?_
  rintro e w1 ⟨rfl, hb⟩
  have hblk := (hb.block w.heap.size (by simp)).trans (heap_alloc_new w _)
  have HB1 := Lib.hid (((Below.refl w.heap.size w).alloc (Nat.le_refl _) _).trans (hb.mono (by simp)))
  have hkeep : ∀ w', Below w1.heap.size w1 w' → w'.cell? ⟨w.heap.size, 0, none⟩ = some (.int .i64 a0) ∧ w'.cell? ⟨w.heap.size, 1, none⟩ = some (.int .i64 a1) ∧ w'.cell? ⟨w.heap.size, 2, none⟩ = some (.int .i64 a2) ∧ w'.cell? ⟨w.heap.size, 3, none⟩ = some (.int .i64 a3) ∧ w'.cell? ⟨w.heap.size, 4, none⟩ = some (.int .i64 a4) ∧ w'.cell? ⟨w.heap.size, 5, none⟩ = some (.bool a5) ∧ w'.cell? ⟨w.heap.size, 6, none⟩ = some v6 ∧ w'.cell? ⟨w.heap.size, 7, none⟩ = some v7 ∧ w'.cell? ⟨w.heap.size, 8, none⟩ = some v8 ∧ w'.cell? ⟨w.heap.size, 9, none⟩ = some (.slice A l.length cp) ∧ w'.cell? ⟨w.heap.size, 10, none⟩ = some v10 ∧ w'.cell? ⟨w.heap.size, 11, none⟩ = some v11 ∧ w'.cell? ⟨w.heap.size, 12, none⟩ = some v12 ∧ w'.cell? ⟨w.heap.size, 13, none⟩ = some v13 ∧ w'.cell? ⟨w.heap.size, 14, none⟩ = some v14 ∧ w'.cell? ⟨w.heap.size, 15, none⟩ = some v15 ∧ w'.cell? ⟨w.heap.size, 16, none⟩ = some v16 := fun w' h => by
    have hlt : w.heap.size < w1.heap.size := blk_lt hblk
    have hx := (h.block w.heap.size hlt).trans hblk
    exact ⟨Joins.cell_of_block hx 0, Joins.cell_of_block hx 1, Joins.cell_of_block hx 2, Joins.cell_of_block hx 3, Joins.cell_of_block hx 4, Joins.cell_of_block hx 5, Joins.cell_of_block hx 6, Joins.cell_of_block hx 7, Joins.cell_of_block hx 8, Joins.cell_of_block hx 9, Joins.cell_of_block hx 10, Joins.cell_of_block hx 11, Joins.cell_of_block hx 12, Joins.cell_of_block hx 13, Joins.cell_of_block hx 14, Joins.cell_of_block hx 15, Joins.cell_of_block hx 16⟩
  have HKEEP := Lib.hid hkeep
  obtain ⟨q0, q1, q2, q3, q4, q5, q6, q7, q8, q9, q10, q11, q12, q13, q14, q15, q16⟩ := hkeep w1 (Below.refl _ _)
  have HC1 := Lib.hid (Kd.C_below (Kd.C_alloc HR.out _) hb)
  have HX1 := Lib.hid (Below.refl w1.heap.size w1)
  clear hblk hb HR hkeep HSZ
  go_wp2_with fail
  refine (HRSZ.out _ HC1.out).mono ?_
  rintro e w2 ⟨rfl, hb⟩
  have HB2 := Lib.hid (HB1.out.trans (hb.mono HB1.out.size))
  have HX2 := Lib.hid (HX1.out.trans (hb.mono HX1.out.size))
  have HC2 := Lib.hid (Kd.C_below HC1.out hb)
  clear hb HRSZ HB1 HC1 q0 q1 q2 q3 q4 q5 q6 q7 q8 q9 q10 q11 q12 q13 q14 q15 q16
  obtain ⟨q0, q1, q2, q3, q4, q5, q6, q7, q8, q9, q10, q11, q12, q13, q14, q15, q16⟩ := HKEEP.out _ HX2.out
  clear HX1
  go_wp2_with fail
  refine (HKO.out _ HC2.out).mono ?_
  rintro e w3 ⟨rfl, hb⟩
  have HB3 := Lib.hid (HB2.out.trans (hb.mono HB2.out.size))
  have HX3 := Lib.hid (HX2.out.trans (hb.mono HX2.out.size))
  have HC3 := Lib.hid (Kd.C_below HC2.out hb)
  clear hb HKO HB2 HC2 q0 q1 q2 q3 q4 q5 q6 q7 q8 q9 q10 q11 q12 q13 q14 q15 q16
  obtain ⟨q0, q1, q2, q3, q4, q5, q6, q7, q8, q9, q10, q11, q12, q13, q14, q15, q16⟩ := HKEEP.out _ HX3.out
  clear HX2
  go_wp2_with fail
  refine (HRKO.out _ HC3.out).mono ?_
  rintro e w4 ⟨rfl, hb⟩
  have HB4 := Lib.hid (HB3.out.trans (hb.mono HB3.out.size))
  have HX4 := Lib.hid (HX3.out.trans (hb.mono HX3.out.size))
  have HC4 := Lib.hid (Kd.C_below HC3.out hb)
  clear hb HRKO HB3 HC3 q0 q1 q2 q3 q4 q5 q6 q7 q8 q9 q10 q11 q12 q13 q14 q15 q16
  clear HX3
  clear HKEEP HC4 HX4
  have HB := HB4
  clear HB4
  go_wp2_with (first
    | (go_at_call 16; refine (C1.out _).mono ?_; rintro e wx1 ⟨rfl, hb⟩; have nx := Lib.hid (HB.out.trans (hb.below.mono HB.out.size)); clear HB hb; have HB := nx; clear nx)
    | (go_at_call 17; refine (C2.out _).mono ?_; rintro e wx2 ⟨rfl, hb⟩; have nx := Lib.hid (HB.out.trans (hb.below.mono HB.out.size)); clear HB hb; have HB := nx; clear nx)
    | (go_at_call 13; refine (C3.out _).mono ?_; rintro e wx3 ⟨rfl, hb⟩; have nx := Lib.hid (HB.out.trans (hb.mono HB.out.size)); clear HB hb; have HB := nx; clear nx)
    | (go_at_call 18; refine (C4.out _).mono ?_; rintro e wx4 ⟨rfl, hb⟩; have nx := Lib.hid (HB.out.trans (hb.below.mono HB.out.size)); clear HB hb; have HB := nx; clear nx)
    | (go_at_call 19; refine (C5.out _).mono ?_; rintro e wx5 ⟨rfl, hb⟩; have nx := Lib.hid (HB.out.trans (hb.mono HB.out.size)); clear HB hb; have HB := nx; clear nx)
    | (go_at_call 20; refine (C6.out _).mono ?_; rintro e wx6 ⟨rfl, hb⟩; have nx := Lib.hid (HB.out.trans (hb.below.mono HB.out.size)); clear HB hb; have HB := nx; clear nx)
    | (go_at_call 21; refine (C7.out _).mono ?_; rintro e wx7 ⟨rfl, hb⟩; have nx := Lib.hid (HB.out.trans (hb.mono HB.out.size)); clear HB hb; have HB := nx; clear nx)
    | (go_at_call 22; refine (C8.out _).mono ?_; rintro e wx8 ⟨rfl, hb⟩; have nx := Lib.hid (HB.out.trans (hb.below.mono HB.out.size)); clear HB hb; have HB := nx; clear nx)
    | (go_at_call 23; refine (C9.out _).mono ?_; rintro e wx9 ⟨rfl, hb⟩; have nx := Lib.hid (HB.out.trans (hb.mono HB.out.size)); clear HB hb; have HB := nx; clear nx)
    | (go_at_call 24; refine (C10.out _).mono ?_; rintro e wx10 ⟨rfl, hb⟩; have nx := Lib.hid (HB.out.trans (hb.below.mono HB.out.size)); clear HB hb; have HB := nx; clear nx)
    | (go_at_call 25; refine (C11.out _).mono ?_; rintro e wx11 ⟨rfl, hb⟩; have nx := Lib.hid (HB.out.trans (hb.mono HB.out.size)); clear HB hb; have HB := nx; clear nx)
    | (go_at_call 26; refine (C12.out _).mono ?_; rintro e wx12 ⟨rfl, hb⟩; have nx := Lib.hid (HB.out.trans (hb.below.mono HB.out.size)); clear HB hb; have HB := nx; clear nx)
    | (go_at_call 9; refine (styled_true _).mono ?_; rintro e wx13 ⟨rfl, hb⟩; have nx := Lib.hid (HB.out.trans (hb.mono HB.out.size)); clear HB hb; have HB := nx; clear nx))
  go_ret
  exact ⟨rfl, HB.out⟩
end Go.Proofs.Yticfflihniifaaa.P
