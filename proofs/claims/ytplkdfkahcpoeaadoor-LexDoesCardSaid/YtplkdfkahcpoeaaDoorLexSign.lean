/- strings.ContainsRune at the signs, walked for every rune; lex.Plain. No condition but the rune's own. -/
import Derived.Test.YtplkdfkahcpoeaaDoorLexLeaf
import Derived.Laws.Runes
import Derived.WalkMore
namespace Go.Proofs.YtplkdfkahcpoeaaDoor.P
open Go.Shelf Go.RowKit Go.Proofs.YtplkdfkahcpoeaaDoorW.PrintWords Go.Proofs.YtplkdfkahcpoeaaDoorW.PrintLast Go.Proofs.YtplkdfkahcpoeaaDoorW.PrintMore
set_option linter.unusedVariables false
set_option linter.unusedSimpArgs false
set_option maxRecDepth 100000
def sigS : ByteArray := ⟨#[123, 125, 94, 95, 38]⟩
def signR (r : Int) : Bool := decide (r = 123) || (decide (r = 125) || (decide (r = 94) || (decide (r = 95) || decide (r = 38))))
theorem sig_ascii : ∀ j : Fin 5, decide (0 ≤ bt sigS (j.val : Int) ∧ bt sigS (j.val : Int) < 128) = true := by decide +kernel
theorem sig_in : ∀ r : Fin 128, decide (0 ≤ Lib.indexByte sigS.data.toList (r.val : Int).toNat.toUInt8) = signR (r.val : Int) := by decide +kernel
theorem index_high (a : Nat) (c : UInt8) (hc : 128 ≤ c.toNat) : Lib.indexByte (sigS.extract a 5).data.toList c = -1 := by
  have h : ∀ l : List UInt8, (∀ b ∈ l, b.toNat < 128) → Lib.indexByte l c = -1 := fun l => by
    induction l with
    | nil => intro _; rfl
    | cons b l ih =>
      intro h
      have hb := h b (by simp)
      have he : (b == c) = false := by
        rw [beq_eq_false_iff_ne]
        intro e
        subst e
        omega
      rw [Lib.indexByte, he, ih (fun x hx => h x (by simp [hx]))]
      rfl
  exact h _ (fun b hb => by
    have h1 := mem_extract hb
    have h2 : ∀ b ∈ sigS.data.toList, b.toNat < 128 := by decide
    exact h2 b h1)
set_option maxHeartbeats 4000000 in
theorem index_rune_high (r : Int) (h1 : 128 ≤ r) (hv : Lib.validRune r = true) (hne : r ≠ 65533) (w : World) :
    Calls Tryd.prog 40 #[.string sigS, .int .i32 r] w fun e w' => e = .returned (.int .i64 (-1)) ∧ Below w.heap.size w w' := by
  have HV := Lib.hid (fun w => Tryd.utf8_ValidRune r w)
  rw [hv] at HV
  have hvU : Utf8.valid r = true := by
    rw [Go.validRune_eq]; exact hv
  obtain ⟨e1, e2, e3⟩ := encode_facts r hvU h1
  obtain ⟨K, hK⟩ : ∃ K, Utf8.encode r = K := ⟨_, rfl⟩
  rw [hK] at e1 e2 e3
  obtain ⟨L, hL⟩ : ∃ L : Nat, K.size - 1 = L := ⟨_, rfl⟩
  rw [hL] at e3
  have hLK : L < K.size := by omega
  have hc := e3 hLK
  obtain ⟨c, hcc⟩ : ∃ c, K[L]'hLK = c := ⟨_, rfl⟩
  rw [hcc] at hc
  have HIB := Lib.hid (fun w => Tryd.strings_IndexByte (sigS.extract (L + 1) 5) (c.toNat : Int) w)
  rw [show ((c.toNat : Int)).toNat.toUInt8 = c by simp, index_high (L + 1) c hc] at HIB
  have hsa := sig_ascii ⟨L, by omega⟩
  simp only [decide_eq_true_eq] at hsa
  obtain ⟨S, hS⟩ : ∃ S, sigS = S := ⟨_, rfl⟩
  have hS5 : S.size = 5 := by rw [← hS]; rfl
  rw [hS] at HIB hsa ⊢
  obtain ⟨y, hy⟩ : ∃ y : Int, (L : Int) = y := ⟨_, rfl⟩
  have hx1 := bt_at S y
  have hx2 : ∀ h : y.toNat < K.size, ((K[y.toNat]'h).toNat : Int) = (c.toNat : Int) := fun h => by
    subst hy
    simp only [Int.toNat_natCast]
    rw [hcc]
  rw [hy] at hsa
  have hneq : (bt S y != (c.toNat : Int)) = true := bne_iff_ne.mpr (by omega)
  have wk : IntKind.i64.wrap ((K.size : Int) - 1) = y := (IntWalk.i64_in _ (by omega)).trans (by omega)
  have wy : IntKind.i64.wrap (y + 1) = y + 1 := IntWalk.i64_in _ (by omega)
  have p0 := eq_true (show 0 ≤ y by omega)
  have p1 := eq_true (show y < (S.size : Int) by omega)
  have p2 := eq_true (show y < (K.size : Int) by omega)
  have p3 := eq_true (show 0 ≤ y + 1 by omega)
  have p4 := eq_true (show y + 1 ≤ (S.size : Int) by omega)
  have hext : S.extract (y + 1).toNat S.size = S.extract (L + 1) 5 := by rw [hS5]; congr 1; omega
  obtain ⟨X, hX⟩ : ∃ X, S.extract (y + 1).toNat S.size = X := ⟨_, rfl⟩
  rw [← hext, hX] at HIB
  have c1 : decide (0 ≤ r) = true := decide_eq_true (by omega)
  have c2 : decide (r < 128) = false := decide_eq_false (by omega)
  have c3 : (r == 65533) = false := beq_eq_false_iff_ne.mpr hne
  have c4 : decide (y < (S.size : Int)) = true := decide_eq_true (by omega)
  have kc : ∀ w : World, (convert 21 9 (.int .i32 r)).run Tryd.prog w = .ok (.string K) w := fun w => by
    rw [run_convert_int_string w 21 9 .i32 r (by rw [Tryd.underlying21]; rfl) Tryd.underlying9, hK]
  clear hK hv hvU e1 e2 e3 hL hc hsa hS hext hcc hy hS5 h1 hne hLK
  go_enter Tryd.func40, Tryd.ntmps40
  go_wp2_with (go_at_call 24; refine (HV.out _).mono ?_; rintro e w' ⟨rfl, rfl⟩)
  go_step3
  go_wp2
  go_loopg [9] 1 (fun gk v9 wr => v9 = .int .i64 y ∧ Hid (Below w'.heap.size w' wr))
  case atStart => exact ⟨rfl, Lib.hid (Below.refl _ _)⟩
  case round =>
    obtain ⟨rfl, HB⟩ := hrel
    go_wp2
    go_step3
    go_wp2
    go_quiet (fail)
    go_wp2
    go_quiet ((go_at_call 51; refine (HIB.out _).mono ?_; rintro e w2 ⟨rfl, rfl⟩; exact ⟨rfl, _, rfl⟩))
    go_wp2
    simp only [Exit.noGoto, Exit.inBlock, Exit.then]
    refine (show bodyPost _ _ _ Exit.ret _ _ from ?_)
    go_ret
    exact ⟨rfl, HB.out.trans ((Drawn0.below ⟨_, rfl⟩).mono HB.out.size)⟩
theorem sig_size : sigS.size = 5 := rfl
theorem sig_low (pos : Nat) (h : pos < sigS.size) : (sigS[pos]'h).toNat < 128 := by
  have h2 := sig_ascii ⟨pos, h⟩
  simp only [decide_eq_true_eq] at h2
  have h3 := bt_at sigS (pos : Int) (by simpa using h)
  simp only [Int.toNat_natCast] at h3
  omega
set_option maxHeartbeats 4000000 in
theorem index_rune_bad (w : World) :
    Calls Tryd.prog 40 #[.string sigS, .int .i32 65533] w fun e w' => e = .returned (.int .i64 (-1)) ∧ Below w.heap.size w w' := by
  have hlow := sig_low
  have h5 := sig_size
  generalize sigS = S at hlow h5 ⊢
  have HB : ∀ pos, Below w.heap.size w (w.iter S pos) := fun pos => (Below.refl _ w).alloc (Nat.le_refl _) _
  have HLOW := Lib.hid hlow
  clear hlow
  go_enter Tryd.func40, Tryd.ntmps40
  go_wp2
  go_loopw [5] (fun v w' => ∃ pos : Nat, w' = w.iter S pos) (fun _ w' => S.size - w'.iterPos w.heap.size)
  case atStart => exact ⟨0, rfl⟩
  case round =>
    obtain ⟨pos, rfl⟩ := hrel
    by_cases hp : pos < S.size
    · have hnx : ∀ ty, (Instr.next (.pointer (some ⟨w.heap.size, 0, none⟩)) true ty).run Tryd.prog (w.iter S pos) = _ := fun ty => run_next_any w S pos ty hp
      have hl := HLOW.out pos hp
      rw [decode_ascii S pos hp hl] at hnx
      generalize (S[pos]'hp).toNat = b at hnx hl
      have e1 : ((b : Int) == 65533) = false := beq_eq_false_iff_ne.mpr (by omega)
      have e2 : (b == 65533) = false := beq_eq_false_iff_ne.mpr (by omega)
      have e3 : decide (b = 65533) = false := decide_eq_false (by omega)
      clear hl
      go_wp2
      go_roundw
      case rel => exact ⟨pos + 1, rfl⟩
      case measure => simp; omega
    · have hnx : ∀ ty, (Instr.next (.pointer (some ⟨w.heap.size, 0, none⟩)) true ty).run Tryd.prog (w.iter S pos) = _ := fun ty => run_next_end w S pos ty hp
      go_wp2
      go_ret
      exact ⟨rfl, HB _⟩
theorem index_rune (r : Int) (h0 : 0 ≤ r) (hv : Lib.validRune r = true) (w : World) :
    Calls Tryd.prog 40 #[.string sigS, .int .i32 r] w fun e w' => (∃ n : Int, e = .returned (.int .i64 n) ∧ decide (0 ≤ n) = signR r) ∧ Below w.heap.size w w' := by
  by_cases h1 : r < 128
  · refine (Tryd.strings_IndexRune_ascii sigS r w h0 h1).mono ?_
    rintro e w' ⟨rfl, rfl⟩
    refine ⟨⟨_, rfl, ?_⟩, Below.refl _ _⟩
    have := sig_in ⟨r.toNat, by omega⟩
    simp only [Int.toNat_of_nonneg h0] at this
    exact this
  · have hs : signR r = false := by
      unfold signR
      rw [decide_eq_false (show ¬ r = 123 by omega), decide_eq_false (show ¬ r = 125 by omega), decide_eq_false (show ¬ r = 94 by omega), decide_eq_false (show ¬ r = 95 by omega), decide_eq_false (show ¬ r = 38 by omega)]
      rfl
    by_cases h2 : r = 65533
    · subst h2
      exact (index_rune_bad w).mono fun e w' ⟨he, hb⟩ => ⟨⟨-1, he, by rw [hs]; rfl⟩, hb⟩
    · exact (index_rune_high r (by omega) hv h2 w).mono fun e w' ⟨he, hb⟩ => ⟨⟨-1, he, by rw [hs]; rfl⟩, hb⟩
theorem sign_calls (r : Int) (h0 : 0 ≤ r) (hv : Lib.validRune r = true) (w : World) :
    Calls Tryd.prog 25 #[.string ⟨#[123, 125, 94, 95, 38]⟩, .int .i32 r] w fun e w' => e = .returned (.bool (signR r)) ∧ Below w.heap.size w w' := by
  have HI := Lib.hid (index_rune r h0 hv)
  show Calls Tryd.prog 25 #[.string sigS, .int .i32 r] w _
  generalize sigS = S at HI ⊢
  generalize signR r = b at HI ⊢
  clear h0 hv
  go_enter Tryd.func25, Tryd.ntmps25
  go_wp2_with (go_at_call 40; refine (HI.out _).mono ?_; rintro e w' ⟨⟨n, rfl, hn⟩, hb⟩)
  go_ret
  exact ⟨by rw [← hn]; rfl, hb⟩
def plainB (c : Int) : Bool := decide (32 < c) && (decide (c ≠ 127) && (decide (c ≤ 1114111) && (Lib.validRune c && (!signR c && (decide (c ≠ 92) && decide (c ≠ 37))))))
set_option maxHeartbeats 4000000 in
theorem plain_calls (c : Int) (w : World) : Calls Tryd.prog 13 #[.int .i64 c] w fun e w' => e = .returned (.bool (plainB c)) ∧ Below w.heap.size w w' := by
  have HP := Lib.hid (show plainB c = (decide (32 < c) && (decide (c ≠ 127) && (decide (c ≤ 1114111) && (Lib.validRune c && (!signR c && (decide (c ≠ 92) && decide (c ≠ 37))))))) from rfl)
  have HV := Lib.hid (fun w => Tryd.utf8_ValidRune c w)
  by_cases a1 : 32 < c
  rotate_left
  · have d1 : decide (32 < c) = false := decide_eq_false a1
    go_enter Tryd.func13, Tryd.ntmps13
    go_wp2_with (first | (go_at_call 24; refine (HV.out _).mono ?_; rintro e w' ⟨rfl, rfl⟩) | (go_at_call 25; refine (HS.out _).mono ?_; rintro e w2 ⟨rfl, hb⟩))
    go_ret
    exact ⟨by rw [HP.out]; rw [d1]; rfl, Below.refl _ _⟩
  have d1 : decide (32 < c) = true := decide_eq_true a1
  by_cases a2 : c = 127
  · subst a2
    go_enter Tryd.func13, Tryd.ntmps13
    go_wp2_with (first | (go_at_call 24; refine (HV.out _).mono ?_; rintro e w' ⟨rfl, rfl⟩) | (go_at_call 25; refine (HS.out _).mono ?_; rintro e w2 ⟨rfl, hb⟩))
    go_ret
    exact ⟨by rw [HP.out]; rfl, Below.refl _ _⟩
  have d2 : (c != 127) = true := bne_iff_ne.mpr a2
  by_cases a3 : c ≤ 1114111
  rotate_left
  · have d3 : decide (c ≤ 1114111) = false := decide_eq_false a3
    go_enter Tryd.func13, Tryd.ntmps13
    go_wp2_with (first | (go_at_call 24; refine (HV.out _).mono ?_; rintro e w' ⟨rfl, rfl⟩) | (go_at_call 25; refine (HS.out _).mono ?_; rintro e w2 ⟨rfl, hb⟩))
    go_ret
    exact ⟨by rw [HP.out]; rw [d1, d3, Bool.false_and, Bool.and_false, Bool.and_false]; rfl, Below.refl _ _⟩
  have d3 : decide (c ≤ 1114111) = true := decide_eq_true a3
  have wr : IntKind.i32.wrap c = c := by rw [IntKind.wrap_i32]; omega
  cases a4 : Lib.validRune c with
  | false =>
    rw [a4] at HV
    have HPF : Hid (plainB c = false) := Lib.hid (by rw [HP.out, a4]; simp)
    clear a1 a2 a3 a4 HP
    go_enter Tryd.func13, Tryd.ntmps13
    go_wp2_with (first | (go_at_call 24; refine (HV.out _).mono ?_; rintro e w' ⟨rfl, rfl⟩) | (go_at_call 25; refine (HS.out _).mono ?_; rintro e w2 ⟨rfl, hb⟩))
    go_ret
    exact ⟨by rw [HPF.out]; rfl, Below.refl _ _⟩
  | true =>
  have HS := Lib.hid (sign_calls c (by omega) a4)
  rw [a4] at HV
  cases a5 : signR c with
  | true =>
    rw [a5] at HS
    have HPF : Hid (plainB c = false) := Lib.hid (by rw [HP.out, a5]; simp)
    clear a1 a2 a3 a4 a5 HP
    go_enter Tryd.func13, Tryd.ntmps13
    go_wp2_with (first | (go_at_call 24; refine (HV.out _).mono ?_; rintro e w' ⟨rfl, rfl⟩) | (go_at_call 25; refine (HS.out _).mono ?_; rintro e w2 ⟨rfl, hb⟩))
    go_ret
    exact ⟨by rw [HPF.out]; rfl, hb⟩
  | false =>
  rw [a5] at HS
  by_cases a6 : c = 92
  · have d6 : (c != 92) = false := bne_eq_false_iff_eq.mpr a6
    have HPF : Hid (plainB c = false) := Lib.hid (by rw [HP.out, a6]; rfl)
    clear a1 a2 a3 a4 a5 a6 HP
    go_enter Tryd.func13, Tryd.ntmps13
    go_wp2_with (first | (go_at_call 24; refine (HV.out _).mono ?_; rintro e w' ⟨rfl, rfl⟩) | (go_at_call 25; refine (HS.out _).mono ?_; rintro e w2 ⟨rfl, hb⟩))
    go_ret
    exact ⟨by rw [HPF.out]; rfl, hb⟩
  have d6 : (c != 92) = true := bne_iff_ne.mpr a6
  by_cases a7 : c = 37
  · have d7 : (c != 37) = false := bne_eq_false_iff_eq.mpr a7
    have HPF : Hid (plainB c = false) := Lib.hid (by rw [HP.out, a7]; rfl)
    clear a1 a2 a3 a4 a5 a6 a7 HP
    go_enter Tryd.func13, Tryd.ntmps13
    go_wp2_with (first | (go_at_call 24; refine (HV.out _).mono ?_; rintro e w' ⟨rfl, rfl⟩) | (go_at_call 25; refine (HS.out _).mono ?_; rintro e w2 ⟨rfl, hb⟩))
    go_ret
    exact ⟨by rw [HPF.out]; rfl, hb⟩
  · have d7 : (c != 37) = true := bne_iff_ne.mpr a7
    have HPF : Hid (plainB c = true) := Lib.hid (by rw [HP.out, a4, a5, decide_eq_true a1, decide_eq_true a2, decide_eq_true a3, decide_eq_true a6, decide_eq_true a7]; rfl)
    clear a1 a2 a3 a4 a5 a6 a7 HP
    go_enter Tryd.func13, Tryd.ntmps13
    go_wp2_with (first | (go_at_call 24; refine (HV.out _).mono ?_; rintro e w' ⟨rfl, rfl⟩) | (go_at_call 25; refine (HS.out _).mono ?_; rintro e w2 ⟨rfl, hb⟩))
    go_ret
    exact ⟨by rw [HPF.out]; rfl, hb⟩
end Go.Proofs.YtplkdfkahcpoeaaDoor.P
