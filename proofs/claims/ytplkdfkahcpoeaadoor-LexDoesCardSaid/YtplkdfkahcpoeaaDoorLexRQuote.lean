/- ref19's hex and Quote, walked. Condition: where it is told by hex, a rune from 1 to 255. -/
import Derived.Test.YtplkdfkahcpoeaaDoorLexLeaf
import Derived.Test.YtplkdfkahcpoeaaDoorLexRNext
namespace Go.Proofs.YtplkdfkahcpoeaaDoor.P
open Go.Shelf Go.RowKit Go.Proofs.YtplkdfkahcpoeaaDoorW.PrintWords Go.Proofs.YtplkdfkahcpoeaaDoorW.PrintLast Go.Proofs.YtplkdfkahcpoeaaDoorW.PrintMore
set_option linter.unusedVariables false
set_option linter.unusedSimpArgs false
set_option maxRecDepth 100000
def d16 : ByteArray := ⟨#[48, 49, 50, 51, 52, 53, 54, 55, 56, 57, 97, 98, 99, 100, 101, 102]⟩
def dX (m : Int) : ByteArray := d16.extract m.toNat (m + 1).toNat
theorem dX_size (m : Int) (h0 : 0 ≤ m) (h1 : m < 16) : (dX m).size = 1 := by
  unfold dX
  rw [ByteArray.size_extract, show d16.size = 16 from rfl]
  omega
theorem dX_run (m : Int) (h0 : 0 ≤ m) (h1 : m < 16) (W : World) : (Instr.slice 9 (.string (⟨#[48, 49, 50, 51, 52, 53, 54, 55, 56, 57, 97, 98, 99, 100, 101, 102]⟩ : ByteArray)) (some (.int .i64 m)) (some (.int .i64 (m + 1))) none).run Tryd.prog W = .ok (.string (dX m)) W := by
  have := run_slice_string (P := Tryd.prog) (w := W) 9 d16 .i64 .i64 m (m + 1) Tryd.underlying9 h0 (by omega) (by show m + 1 ≤ (16 : Int); omega)
  exact this
set_option maxHeartbeats 8000000 in
theorem hex_lo (c : Int) (h1 : 1 ≤ c) (h2 : c < 16) (w : World) : Calls Tryd.prog 30 #[.int .i64 c] w fun e w' => e = .returned (.string (dX c ++ ⟨#[]⟩)) ∧ Below w.heap.size w w' := by
  have hsz := dX_size c (by omega) h2
  have ksl := dX_run c (by omega) h2
  generalize dX c = X at hsz ksl
  have s1 := eq_false (show ¬ 9223372036854775807 < X.size by omega)
  have s2 := eq_false (show ¬ 9223372036854775807 < X.size + 0 by omega)
  have d1 : decide (0 < c) = true := decide_eq_true (by omega)
  have hne : (X ++ ⟨#[]⟩ : ByteArray).toList ≠ [] := by
    rw [ByteArray.toList_eq]
    intro h
    have : (X ++ ⟨#[]⟩ : ByteArray).data.toList.length = 0 := by rw [h]; rfl
    rw [Array.length_toList] at this
    have h3 : (X ++ ⟨#[]⟩ : ByteArray).size = 0 := this
    rw [ByteArray.size_append] at h3
    omega
  obtain ⟨Y, hY⟩ : ∃ Y : ByteArray, X ++ ⟨#[]⟩ = Y := ⟨_, rfl⟩
  rw [hY] at hne
  have e1 : (Y.toList == ([] : List UInt8)) = false := beq_eq_false_iff_ne.mpr hne
  have e2 : Y.toList.isEmpty = false := by cases h : Y.toList with | nil => exact absurd h hne | cons _ _ => rfl
  have md : c % 16 = c := by omega
  have dv : c / 16 = 0 := by omega
  have wr1 : IntKind.i64.wrap (c + 1) = c + 1 := IntWalk.i64_in _ (by omega)
  have HC := Lib.hid (show 1 ≤ c ∧ c < 16 from ⟨h1, h2⟩)
  clear hsz h2 hne
  go_enter Tryd.func30, Tryd.ntmps30
  go_wp2_with fail
  go_loopg [0, 4] 2 (fun gk v0 v4 wr => Hid ((gk = 2 ∧ v0 = .int .i64 c ∧ v4 = .string ⟨#[]⟩) ∨ (gk = 1 ∧ v0 = .int .i64 0 ∧ v4 = .string Y)) ∧ w = wr)
  case atStart => exact ⟨Lib.hid (.inl ⟨rfl, rfl, rfl⟩), rfl⟩
  case round =>
    obtain ⟨HO, rfl⟩ := hrel
    obtain ⟨rfl, rfl, rfl⟩ | ⟨rfl, rfl, rfl⟩ := HO.out
    · go_wp2_with fail
      go_roundg 1
      case measure => omega
      case rel => exact ⟨Lib.hid (.inr ⟨rfl, rfl, by first | rfl | rw [hY]⟩), rfl⟩
    · go_wp2_with fail
      go_ret
      exact ⟨by first | rfl | (rw [hY]; rfl), Below.refl _ _⟩
set_option maxHeartbeats 8000000 in
theorem hex_hi (c : Int) (h1 : 16 ≤ c) (h2 : c < 256) (w : World) : Calls Tryd.prog 30 #[.int .i64 c] w fun e w' => e = .returned (.string (dX (c / 16) ++ (dX (c % 16) ++ ⟨#[]⟩))) ∧ Below w.heap.size w w' := by
  obtain ⟨m, hm⟩ : ∃ m, c % 16 = m := ⟨_, rfl⟩
  obtain ⟨q, hq⟩ : ∃ q, c / 16 = q := ⟨_, rfl⟩
  rw [hm, hq]
  have hsz := dX_size m (by omega) (by omega)
  have ksl := dX_run m (by omega) (by omega)
  have hsz2 := dX_size q (by omega) (by omega)
  have ksl2 := dX_run q (by omega) (by omega)
  generalize dX m = X at hsz ksl
  generalize dX q = Z at hsz2 ksl2
  have s1 := eq_false (show ¬ 9223372036854775807 < X.size by omega)
  have s2 := eq_false (show ¬ 9223372036854775807 < X.size + 0 by omega)
  have hYs : (X ++ ⟨#[]⟩ : ByteArray).size = 1 := by rw [ByteArray.size_append, hsz]; rfl
  have d1 : decide (0 < c) = true := decide_eq_true (by omega)
  have d2 : decide (0 < q) = true := decide_eq_true (by omega)
  have ne : ∀ W : ByteArray, W.size ≠ 0 → W.toList ≠ [] := fun W hW h => by
    rw [ByteArray.toList_eq] at h
    have : W.data.toList.length = 0 := by rw [h]; rfl
    rw [Array.length_toList] at this
    exact hW this
  obtain ⟨Y, hY⟩ : ∃ Y : ByteArray, X ++ ⟨#[]⟩ = Y := ⟨_, rfl⟩
  rw [hY] at hYs
  have s3 := eq_false (show ¬ 9223372036854775807 < Z.size + Y.size by omega)
  obtain ⟨V, hV⟩ : ∃ V : ByteArray, Z ++ Y = V := ⟨_, rfl⟩
  have hne := ne V (by rw [← hV, ByteArray.size_append]; omega)
  have e1 : (V.toList == ([] : List UInt8)) = false := beq_eq_false_iff_ne.mpr hne
  have e2 : V.toList.isEmpty = false := by cases h : V.toList with | nil => exact absurd h hne | cons _ _ => rfl
  have md : q % 16 = q := by omega
  have dv : q / 16 = 0 := by omega
  have wr1 : IntKind.i64.wrap (m + 1) = m + 1 := IntWalk.i64_in _ (by omega)
  have wr2 : IntKind.i64.wrap (q + 1) = q + 1 := IntWalk.i64_in _ (by omega)
  have hc0 : 0 ≤ c := by omega
  have hq0 : 0 ≤ q := by omega
  have hc1 : c < 256 := by omega
  have hq1 : q < 16 := by omega
  rw [hY, hV]
  have HY := Lib.hid hY
  have HV := Lib.hid hV
  have HM := Lib.hid (show c % 16 = m ∧ c / 16 = q from ⟨hm, hq⟩)
  clear hsz hsz2 h1 h2 hne ne hYs hY hV
  go_enter Tryd.func30, Tryd.ntmps30
  go_wp2_with fail
  go_loopg [0, 4] 3 (fun gk v0 v4 wr => Hid ((gk = 3 ∧ v0 = .int .i64 c ∧ v4 = .string ⟨#[]⟩) ∨ (gk = 2 ∧ v0 = .int .i64 q ∧ v4 = .string Y) ∨ (gk = 1 ∧ v0 = .int .i64 0 ∧ v4 = .string V)) ∧ w = wr)
  case atStart => exact ⟨Lib.hid (.inl ⟨rfl, rfl, rfl⟩), rfl⟩
  case round =>
    obtain ⟨HO, rfl⟩ := hrel
    obtain ⟨rfl, rfl, rfl⟩ | ⟨rfl, rfl, rfl⟩ | ⟨rfl, rfl, rfl⟩ := HO.out
    · go_wp2_with fail
      go_roundg 2
      case measure => omega
      case rel => exact ⟨Lib.hid (.inr (.inl ⟨rfl, rfl, by first | rfl | rw [HY.out]⟩)), rfl⟩
    · clear hm hq
      go_wp2_with fail
      go_roundg 1
      case measure => omega
      case rel => exact ⟨Lib.hid (.inr (.inr ⟨rfl, rfl, by first | rfl | rw [HV.out]⟩)), rfl⟩
    · go_wp2_with fail
      go_ret
      exact ⟨rfl, Below.refl _ _⟩
def hexR (c : Int) : ByteArray := if c < 16 then dX c ++ ⟨#[]⟩ else dX (c / 16) ++ (dX (c % 16) ++ ⟨#[]⟩)
def vinculumref19_hex.f (c : Int) : Option ByteArray := if 1 ≤ c ∧ c < 256 then some (hexR c) else none
theorem vinculumref19_hex.calls (c : Int) (r : ByteArray) (w : World) (h : vinculumref19_hex.f c = some r) : Calls Tryd.prog 30 #[.int .i64 c] w fun e w' => e = .returned (.string r) ∧ Below w.heap.size w w' := by
  unfold vinculumref19_hex.f at h
  split at h
  · rename_i hc
    cases h
    unfold hexR
    by_cases h16 : c < 16
    · rw [if_pos h16]; exact hex_lo c hc.1 h16 w
    · rw [if_neg h16]; exact hex_hi c (by omega) hc.2 w
  · cases h
end Go.Proofs.YtplkdfkahcpoeaaDoor.P
namespace Go.Proofs.YtplkdfkahcpoeaaDoor.P
open Go.Shelf Go.RowKit Go.Proofs.YtplkdfkahcpoeaaDoorW.PrintWords Go.Proofs.YtplkdfkahcpoeaaDoorW.PrintLast Go.Proofs.YtplkdfkahcpoeaaDoorW.PrintMore
set_option linter.unusedVariables false
set_option linter.unusedSimpArgs false
set_option maxRecDepth 100000
theorem hexR_calls (c : Int) (h : 1 ≤ c ∧ c < 256) (w : World) : Calls Tryd.prog 30 #[.int .i64 c] w fun e w' => e = .returned (.string (hexR c)) ∧ Below w.heap.size w w' :=
  vinculumref19_hex.calls c (hexR c) w (by unfold vinculumref19_hex.f; rw [if_pos h])
theorem bytesR_size (v : Int) : (bytesR v).size ≤ 4 := by
  unfold bytesR vinculumref19_Bytes.f
  split
  · simp [strOfNums, ByteArray.size]
  · split
    · simp [strOfNums, ByteArray.size]
    · split <;> simp [strOfNums, ByteArray.size]
theorem hexR_size (c : Int) (h : 1 ≤ c ∧ c < 256) : (hexR c).size ≤ 2 := by
  unfold hexR
  split
  · rw [ByteArray.size_append, dX_size c (by omega) (by omega)]; decide
  · rw [ByteArray.size_append, ByteArray.size_append, dX_size (c / 16) (by omega) (by omega), dX_size (c % 16) (by omega) (by omega)]; decide
def quoteR (c : Int) : ByteArray × Int :=
  if runeR c = false then (⟨#[]⟩, 1) else if plnQ c = true then (bytesR c, 0) else if sigQ c = true ∨ c = 37 then (⟨#[92]⟩ ++ bytesR c, 0) else (⟨#[92, 99, 104, 97, 114, 123]⟩ ++ hexR c ++ ⟨#[125]⟩, 0)
set_option maxHeartbeats 8000000 in
theorem rquote_calls (c : Int) (h : runeR c = true → plnQ c = false → sigQ c = false → c ≠ 37 → 1 ≤ c ∧ c < 256) (w : World) : Calls Tryd.prog 11 #[.int .i64 c] w fun e w' => e = .returned (.tuple #[.string (quoteR c).1, .int .i64 (quoteR c).2]) ∧ Below w.heap.size w w' := by
  have HRU := Lib.hid (rune_below c)
  have HPL := Lib.hid (plnQ_calls c)
  have HSG := Lib.hid (sigQ_calls c)
  have HBY := Lib.hid (bytes_below' c)
  have hz := bytesR_size c
  have hQ : quoteR c = if runeR c = false then (⟨#[]⟩, 1) else if plnQ c = true then (bytesR c, 0) else if sigQ c = true ∨ c = 37 then (⟨#[92]⟩ ++ bytesR c, 0) else (⟨#[92, 99, 104, 97, 114, 123]⟩ ++ hexR c ++ ⟨#[125]⟩, 0) := rfl
  generalize bytesR c = K at HBY hz hQ
  cases hr : runeR c with
  | false =>
    rw [hr] at HRU hQ
    have HQ := Lib.hid hQ
    clear h hz hQ hr
    go_enter Tryd.func11, Tryd.ntmps11
    go_wp2_with (go_at_call 27; refine (HRU.out _).mono ?_; rintro e w1 ⟨rfl, hb1⟩)
    go_ret2
    rw [HQ.out]
    exact ⟨rfl, hb1⟩
  | true =>
  have h := h hr
  rw [hr] at HRU hQ
  rw [if_neg (by decide)] at hQ
  cases hp : plnQ c with
  | true =>
    rw [hp] at HPL hQ
    have HQ := Lib.hid hQ
    clear h hz hQ hr hp
    go_enter Tryd.func11, Tryd.ntmps11
    go_wp2_with fail
    refine (HRU.out _).mono ?_
    rintro e w1 ⟨rfl, hb⟩
    have HB1 := Lib.hid hb
    clear hb
    go_wp2_with fail
    refine (HPL.out _).mono ?_
    rintro e w2 ⟨rfl, hb⟩
    have HB2 := Lib.hid (HB1.out.trans (hb.mono HB1.out.size))
    clear hb
    go_wp2_with fail
    refine (HBY.out _).mono ?_
    rintro e w3 ⟨rfl, hb⟩
    have HB3 := Lib.hid (HB2.out.trans (hb.mono HB2.out.size))
    clear hb
    go_wp2_with fail
    go_ret2
    rw [HQ.out]
    exact ⟨rfl, HB3.out⟩
  | false =>
  have h := h hp
  rw [hp] at HPL hQ
  rw [if_neg (by decide)] at hQ
  have key : (sigQ c = true) ∨ (sigQ c = false ∧ c = 37 ∧ (c == 37) = true) ∨ (sigQ c = false ∧ c ≠ 37 ∧ (c == 37) = false) := by
    cases hs : sigQ c with
    | true => exact .inl rfl
    | false =>
      by_cases h7 : c = 37
      · exact .inr (.inl ⟨rfl, h7, beq_iff_eq.mpr h7⟩)
      · exact .inr (.inr ⟨rfl, h7, beq_eq_false_iff_ne.mpr h7⟩)
  have s2 := eq_false (show ¬ 9223372036854775807 < 1 + K.size by omega)
  rcases key with hs | ⟨hs, h7, e1⟩ | ⟨hs, h7, e1⟩
  rotate_right
  · have hc := h hs h7
    have HHX := Lib.hid (hexR_calls c hc)
    have hz2 := hexR_size c hc
    rw [if_neg (by rw [hs]; simp [h7])] at hQ
    rw [hs] at HSG
    generalize hexR c = X at HHX hz2 hQ
    have s3 := eq_false (show ¬ 9223372036854775807 < 6 + X.size by omega)
    have s4 := eq_false (show ¬ 9223372036854775807 < 6 + X.size + 1 by omega)
    have HQ := Lib.hid hQ
    clear h hz hQ hr hp hs h7 hc hz2
    go_enter Tryd.func11, Tryd.ntmps11
    go_wp2_with fail
    refine (HRU.out _).mono ?_
    rintro e w1 ⟨rfl, hb⟩
    have HB1 := Lib.hid hb
    clear hb
    go_wp2_with fail
    refine (HPL.out _).mono ?_
    rintro e w2 ⟨rfl, hb⟩
    have HB2 := Lib.hid (HB1.out.trans (hb.mono HB1.out.size))
    clear hb
    go_wp2_with fail
    refine (HSG.out _).mono ?_
    rintro e w3 ⟨rfl, hb⟩
    have HB3 := Lib.hid (HB2.out.trans (hb.mono HB2.out.size))
    clear hb
    go_wp2_with fail
    refine (HHX.out _).mono ?_
    rintro e w4 ⟨rfl, hb⟩
    have HB4 := Lib.hid (HB3.out.trans (hb.mono HB3.out.size))
    clear hb
    go_wp2_with fail
    go_ret2
    rw [HQ.out]
    exact ⟨rfl, HB4.out⟩
  all_goals
    rw [if_pos (by first | exact .inl hs | exact .inr h7)] at hQ
    rw [hs] at HSG
    have HQ := Lib.hid hQ
    try clear h7
    clear h hz hQ hr hp hs
    go_enter Tryd.func11, Tryd.ntmps11
    go_wp2_with fail
    refine (HRU.out _).mono ?_
    rintro e w1 ⟨rfl, hb⟩
    have HB1 := Lib.hid hb
    clear hb
    go_wp2_with fail
    refine (HPL.out _).mono ?_
    rintro e w2 ⟨rfl, hb⟩
    have HB2 := Lib.hid (HB1.out.trans (hb.mono HB1.out.size))
    clear hb
    go_wp2_with fail
    refine (HSG.out _).mono ?_
    rintro e w3 ⟨rfl, hb⟩
    have HB3 := Lib.hid (HB2.out.trans (hb.mono HB2.out.size))
    clear hb
    go_wp2_with fail
    refine (HBY.out _).mono ?_
    rintro e w4 ⟨rfl, hb⟩
    have HB4 := Lib.hid (HB3.out.trans (hb.mono HB3.out.size))
    clear hb
    go_wp2_with fail
    go_ret2
    rw [HQ.out]
    exact ⟨rfl, HB4.out⟩
end Go.Proofs.YtplkdfkahcpoeaaDoor.P
