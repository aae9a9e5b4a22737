/- Leaves of show: tables, signs, forms, quotes. -/
import Derived.Test.YtaoepeiadhdbaaaDoorPx0
import Derived.Test.YtaoepeiadhdbaaaDoorShelf
import Derived.Lib.Hide
import Derived.Laws.RangeAny
import Derived.Laws.NewBlocks
import Derived.Shelf.Abstract
import Derived.Lib.SmallJoins
import Derived.LoopTactic
import Derived.BigQuiet
import Derived.Laws.Runes
import Derived.WalkMore
import Derived.Laws.Cover4
namespace Go.Proofs.YtaoepeiadhdbaaaDoor.P
open Go.Shelf Go.RowKit Go.Proofs.YtaoepeiadhdbaaaDoorW.PrintWords Go.Proofs.YtaoepeiadhdbaaaDoorW.PrintLast Go.Proofs.YtaoepeiadhdbaaaDoorW.PrintMore
set_option linter.unusedVariables false
theorem indexByte_lt (c : UInt8) : ∀ l : List UInt8, Lib.indexByte l c = -1 ∨ (0 ≤ Lib.indexByte l c ∧ Lib.indexByte l c < (l.length : Int))
  | [] => .inl rfl
  | b :: l => by
    rw [Lib.indexByte]
    split
    · exact .inr ⟨by omega, by rw [List.length_cons]; omega⟩
    · split
      · exact .inl rfl
      · rename_i h
        rcases indexByte_lt c l with h1 | ⟨h1, h2⟩
        · rw [h1] at h; exact absurd rfl h
        · exact .inr ⟨by omega, by rw [List.length_cons]; omega⟩
/-- What is read of the library's tables. -/
def LexTabs (w : World) : Prop := Lib.TabIs Tryd.prog w "internal/strconv.uint64pow10" .u64 Lib.pow10Tab ∧ w.cell? ⟨3, 15, none⟩ = some (.int .u8 4)
theorem LexTabs.below {w w' : World} (h : LexTabs w) (hb : Below w.heap.size w w') : LexTabs w' := by
  have k : ∀ p v, w.cell? p = some v → w'.cell? p = some v := fun p v hc => (hb.cell (World.block_lt_of_cell? w _ hc)).trans hc
  refine ⟨?_, k _ _ h.2⟩
  obtain ⟨h1, _⟩ := h
  have hg : Tryd.prog.globalNamed "internal/strconv.uint64pow10" = some 0 := by kernel_rfl
  unfold Lib.TabIs World.var? at h1 ⊢
  rw [hg] at h1 ⊢
  simp only [Option.bind_some] at h1 ⊢
  have hlt : 0 < w.heap.size := by
    rcases Nat.lt_or_ge 0 w.heap.size with h' | h'
    · exact h'
    · rw [Array.getElem?_eq_none h'] at h1; cases h1
  rw [hb.block _ hlt]
  exact h1
end Go.Proofs.YtaoepeiadhdbaaaDoor.P
namespace Go.Proofs.YtaoepeiadhdbaaaDoor.P
open Go.Shelf Go.RowKit Go.Proofs.YtaoepeiadhdbaaaDoorW.PrintWords Go.Proofs.YtaoepeiadhdbaaaDoorW.PrintLast Go.Proofs.YtaoepeiadhdbaaaDoorW.PrintMore
set_option linter.unusedVariables false
set_option linter.unusedSimpArgs false
set_option maxRecDepth 100000
def sigS : ByteArray := ⟨#[123, 125, 94, 95, 38]⟩
def signR (r : Int) : Bool := decide (r = 123) || (decide (r = 125) || (decide (r = 94) || (decide (r = 95) || decide (r = 38))))
theorem sig_ascii : ∀ j : Fin 5, decide (0 ≤ bt sigS (j.val : Int) ∧ bt sigS (j.val : Int) < 128) = true := by decide +kernel
theorem sig_in : ∀ r : Fin 128, decide (0 ≤ Lib.indexByte sigS.data.toList (r.val : Int).toNat.toUInt8) = signR (r.val : Int) := by decide +kernel
theorem index_high (a : Nat) (c : UInt8) (hc : 128 ≤ c.toNat) : Lib.indexByte (sigS.extract a 5).data.toList c = -1 := by
  have h : ∀ l : List UInt8, (∀ b ∈ l, b.toNat < 128) → Lib.indexByte l c = -1 := fun l => by
    induction l with
    | nil => intro _; rfl
    | cons b l ih =>
      intro h
      have hb := h b (by simp)
      have he : (b == c) = false := by
        rw [beq_eq_false_iff_ne]
        intro e
        subst e
        omega
      rw [Lib.indexByte, he, ih (fun x hx => h x (by simp [hx]))]
      rfl
  exact h _ (fun b hb => by
    have h1 := mem_extract hb
    have h2 : ∀ b ∈ sigS.data.toList, b.toNat < 128 := by decide
    exact h2 b h1)
set_option maxHeartbeats 4000000 in
theorem index_rune_high (r : Int) (h1 : 128 ≤ r) (hv : Lib.validRune r = true) (hne : r ≠ 65533) (w : World) :
    Calls Tryd.prog 52 #[.string sigS, .int .i32 r] w fun e w' => e = .returned (.int .i64 (-1)) ∧ Below w.heap.size w w' := by
  have HV := Lib.hid (fun w => Tryd.utf8_ValidRune r w)
  rw [hv] at HV
  have hvU : Utf8.valid r = true := by
    rw [Go.validRune_eq]; exact hv
  obtain ⟨e1, e2, e3⟩ := encode_facts r hvU h1
  obtain ⟨K, hK⟩ : ∃ K, Utf8.encode r = K := ⟨_, rfl⟩
  rw [hK] at e1 e2 e3
  obtain ⟨L, hL⟩ : ∃ L : Nat, K.size - 1 = L := ⟨_, rfl⟩
  rw [hL] at e3
  have hLK : L < K.size := by omega
  have hc := e3 hLK
  obtain ⟨c, hcc⟩ : ∃ c, K[L]'hLK = c := ⟨_, rfl⟩
  rw [hcc] at hc
  have HIB := Lib.hid (fun w => Tryd.strings_IndexByte (sigS.extract (L + 1) 5) (c.toNat : Int) w)
  rw [show ((c.toNat : Int)).toNat.toUInt8 = c by simp, index_high (L + 1) c hc] at HIB
  have hsa := sig_ascii ⟨L, by omega⟩
  simp only [decide_eq_true_eq] at hsa
  obtain ⟨S, hS⟩ : ∃ S, sigS = S := ⟨_, rfl⟩
  have hS5 : S.size = 5 := by rw [← hS]; rfl
  rw [hS] at HIB hsa ⊢
  obtain ⟨y, hy⟩ : ∃ y : Int, (L : Int) = y := ⟨_, rfl⟩
  have hx1 := bt_at S y
  have hx2 : ∀ h : y.toNat < K.size, ((K[y.toNat]'h).toNat : Int) = (c.toNat : Int) := fun h => by
    subst hy
    simp only [Int.toNat_natCast]
    rw [hcc]
  rw [hy] at hsa
  have hneq : (bt S y != (c.toNat : Int)) = true := bne_iff_ne.mpr (by omega)
  have wk : IntKind.i64.wrap ((K.size : Int) - 1) = y := (IntWalk.i64_in _ (by omega)).trans (by omega)
  have wy : IntKind.i64.wrap (y + 1) = y + 1 := IntWalk.i64_in _ (by omega)
  have p0 := eq_true (show 0 ≤ y by omega)
  have p1 := eq_true (show y < (S.size : Int) by omega)
  have p2 := eq_true (show y < (K.size : Int) by omega)
  have p3 := eq_true (show 0 ≤ y + 1 by omega)
  have p4 := eq_true (show y + 1 ≤ (S.size : Int) by omega)
  have hext : S.extract (y + 1).toNat S.size = S.extract (L + 1) 5 := by rw [hS5]; congr 1; omega
  obtain ⟨X, hX⟩ : ∃ X, S.extract (y + 1).toNat S.size = X := ⟨_, rfl⟩
  rw [← hext, hX] at HIB
  have c1 : decide (0 ≤ r) = true := decide_eq_true (by omega)
  have c2 : decide (r < 128) = false := decide_eq_false (by omega)
  have c3 : (r == 65533) = false := beq_eq_false_iff_ne.mpr hne
  have c4 : decide (y < (S.size : Int)) = true := decide_eq_true (by omega)
  have kc : ∀ w : World, (convert 21 9 (.int .i32 r)).run Tryd.prog w = .ok (.string K) w := fun w => by
    rw [run_convert_int_string w 21 9 .i32 r (by rw [Tryd.underlying21]; rfl) Tryd.underlying9, hK]
  clear hK hv hvU e1 e2 e3 hL hc hsa hS hext hcc hy hS5 h1 hne hLK
  go_enter Tryd.func52, Tryd.ntmps52
  go_wp2_with (go_at_call 45; refine (HV.out _).mono ?_; rintro e w' ⟨rfl, rfl⟩)
  go_step3
  go_wp2
  go_loopg [9] 1 (fun gk v9 wr => v9 = .int .i64 y ∧ Hid (Below w'.heap.size w' wr))
  case atStart => exact ⟨rfl, Lib.hid (Below.refl _ _)⟩
  case round =>
    obtain ⟨rfl, HB⟩ := hrel
    go_wp2
    go_step3
    go_wp2
    go_quiet (fail)
    go_wp2
    go_quiet ((go_at_call 57; refine (HIB.out _).mono ?_; rintro e w2 ⟨rfl, rfl⟩; exact ⟨rfl, _, rfl⟩))
    go_wp2
    simp only [Exit.noGoto, Exit.inBlock, Exit.then]
    refine (show bodyPost _ _ _ Exit.ret _ _ from ?_)
    go_ret
    exact ⟨rfl, HB.out.trans ((Drawn0.below ⟨_, rfl⟩).mono HB.out.size)⟩
theorem sig_size : sigS.size = 5 := rfl
theorem sig_low (pos : Nat) (h : pos < sigS.size) : (sigS[pos]'h).toNat < 128 := by
  have h2 := sig_ascii ⟨pos, h⟩
  simp only [decide_eq_true_eq] at h2
  have h3 := bt_at sigS (pos : Int) (by simpa using h)
  simp only [Int.toNat_natCast] at h3
  omega
set_option maxHeartbeats 4000000 in
theorem index_rune_bad (w : World) :
    Calls Tryd.prog 52 #[.string sigS, .int .i32 65533] w fun e w' => e = .returned (.int .i64 (-1)) ∧ Below w.heap.size w w' := by
  have hlow := sig_low
  have h5 := sig_size
  generalize sigS = S at hlow h5 ⊢
  have HB : ∀ pos, Below w.heap.size w (w.iter S pos) := fun pos => (Below.refl _ w).alloc (Nat.le_refl _) _
  have HLOW := Lib.hid hlow
  clear hlow
  go_enter Tryd.func52, Tryd.ntmps52
  go_wp2
  go_loopw [5] (fun v w' => ∃ pos : Nat, w' = w.iter S pos) (fun _ w' => S.size - w'.iterPos w.heap.size)
  case atStart => exact ⟨0, rfl⟩
  case round =>
    obtain ⟨pos, rfl⟩ := hrel
    by_cases hp : pos < S.size
    · have hnx : ∀ ty, (Instr.next (.pointer (some ⟨w.heap.size, 0, none⟩)) true ty).run Tryd.prog (w.iter S pos) = _ := fun ty => run_next_any w S pos ty hp
      have hl := HLOW.out pos hp
      rw [decode_ascii S pos hp hl] at hnx
      generalize (S[pos]'hp).toNat = b at hnx hl
      have e1 : ((b : Int) == 65533) = false := beq_eq_false_iff_ne.mpr (by omega)
      have e2 : (b == 65533) = false := beq_eq_false_iff_ne.mpr (by omega)
      have e3 : decide (b = 65533) = false := decide_eq_false (by omega)
      clear hl
      go_wp2
      go_roundw
      case rel => exact ⟨pos + 1, rfl⟩
      case measure => simp; omega
    · have hnx : ∀ ty, (Instr.next (.pointer (some ⟨w.heap.size, 0, none⟩)) true ty).run Tryd.prog (w.iter S pos) = _ := fun ty => run_next_end w S pos ty hp
      go_wp2
      go_ret
      exact ⟨rfl, HB _⟩
theorem index_rune (r : Int) (h0 : 0 ≤ r) (hv : Lib.validRune r = true) (w : World) :
    Calls Tryd.prog 52 #[.string sigS, .int .i32 r] w fun e w' => (∃ n : Int, e = .returned (.int .i64 n) ∧ decide (0 ≤ n) = signR r) ∧ Below w.heap.size w w' := by
  by_cases h1 : r < 128
  · refine (Tryd.strings_IndexRune_ascii sigS r w h0 h1).mono ?_
    rintro e w' ⟨rfl, rfl⟩
    refine ⟨⟨_, rfl, ?_⟩, Below.refl _ _⟩
    have := sig_in ⟨r.toNat, by omega⟩
    simp only [Int.toNat_of_nonneg h0] at this
    exact this
  · have hs : signR r = false := by
      unfold signR
      rw [decide_eq_false (show ¬ r = 123 by omega), decide_eq_false (show ¬ r = 125 by omega), decide_eq_false (show ¬ r = 94 by omega), decide_eq_false (show ¬ r = 95 by omega), decide_eq_false (show ¬ r = 38 by omega)]
      rfl
    by_cases h2 : r = 65533
    · subst h2
      exact (index_rune_bad w).mono fun e w' ⟨he, hb⟩ => ⟨⟨-1, he, by rw [hs]; rfl⟩, hb⟩
    · exact (index_rune_high r (by omega) hv h2 w).mono fun e w' ⟨he, hb⟩ => ⟨⟨-1, he, by rw [hs]; rfl⟩, hb⟩
theorem sign_calls (r : Int) (h0 : 0 ≤ r) (hv : Lib.validRune r = true) (w : World) :
    Calls Tryd.prog 47 #[.string ⟨#[123, 125, 94, 95, 38]⟩, .int .i32 r] w fun e w' => e = .returned (.bool (signR r)) ∧ Below w.heap.size w w' := by
  have HI := Lib.hid (index_rune r h0 hv)
  show Calls Tryd.prog 47 #[.string sigS, .int .i32 r] w _
  generalize sigS = S at HI ⊢
  generalize signR r = b at HI ⊢
  clear h0 hv
  go_enter Tryd.func47, Tryd.ntmps47
  go_wp2_with (go_at_call 52; refine (HI.out _).mono ?_; rintro e w' ⟨⟨n, rfl, hn⟩, hb⟩)
  go_ret
  exact ⟨by rw [← hn]; rfl, hb⟩
def plainB (c : Int) : Bool := decide (32 < c) && (decide (c ≠ 127) && (decide (c ≤ 1114111) && (Lib.validRune c && (!signR c && (decide (c ≠ 92) && decide (c ≠ 37))))))
set_option maxHeartbeats 4000000 in
theorem plain_calls (c : Int) (w : World) : Calls Tryd.prog 46 #[.int .i64 c] w fun e w' => e = .returned (.bool (plainB c)) ∧ Below w.heap.size w w' := by
  have HP := Lib.hid (show plainB c = (decide (32 < c) && (decide (c ≠ 127) && (decide (c ≤ 1114111) && (Lib.validRune c && (!signR c && (decide (c ≠ 92) && decide (c ≠ 37))))))) from rfl)
  have HV := Lib.hid (fun w => Tryd.utf8_ValidRune c w)
  by_cases a1 : 32 < c
  rotate_left
  · have d1 : decide (32 < c) = false := decide_eq_false a1
    go_enter Tryd.func46, Tryd.ntmps46
    go_wp2_with (first | (go_at_call 45; refine (HV.out _).mono ?_; rintro e w' ⟨rfl, rfl⟩) | (go_at_call 47; refine (HS.out _).mono ?_; rintro e w2 ⟨rfl, hb⟩))
    go_ret
    exact ⟨by rw [HP.out]; rw [d1]; rfl, Below.refl _ _⟩
  have d1 : decide (32 < c) = true := decide_eq_true a1
  by_cases a2 : c = 127
  · subst a2
    go_enter Tryd.func46, Tryd.ntmps46
    go_wp2_with (first | (go_at_call 45; refine (HV.out _).mono ?_; rintro e w' ⟨rfl, rfl⟩) | (go_at_call 47; refine (HS.out _).mono ?_; rintro e w2 ⟨rfl, hb⟩))
    go_ret
    exact ⟨by rw [HP.out]; rfl, Below.refl _ _⟩
  have d2 : (c != 127) = true := bne_iff_ne.mpr a2
  by_cases a3 : c ≤ 1114111
  rotate_left
  · have d3 : decide (c ≤ 1114111) = false := decide_eq_false a3
    go_enter Tryd.func46, Tryd.ntmps46
    go_wp2_with (first | (go_at_call 45; refine (HV.out _).mono ?_; rintro e w' ⟨rfl, rfl⟩) | (go_at_call 47; refine (HS.out _).mono ?_; rintro e w2 ⟨rfl, hb⟩))
    go_ret
    exact ⟨by rw [HP.out]; rw [d1, d3, Bool.false_and, Bool.and_false, Bool.and_false]; rfl, Below.refl _ _⟩
  have d3 : decide (c ≤ 1114111) = true := decide_eq_true a3
  have wr : IntKind.i32.wrap c = c := by rw [IntKind.wrap_i32]; omega
  cases a4 : Lib.validRune c with
  | false =>
    rw [a4] at HV
    have HPF : Hid (plainB c = false) := Lib.hid (by rw [HP.out, a4]; simp)
    clear a1 a2 a3 a4 HP
    go_enter Tryd.func46, Tryd.ntmps46
    go_wp2_with (first | (go_at_call 45; refine (HV.out _).mono ?_; rintro e w' ⟨rfl, rfl⟩) | (go_at_call 47; refine (HS.out _).mono ?_; rintro e w2 ⟨rfl, hb⟩))
    go_ret
    exact ⟨by rw [HPF.out]; rfl, Below.refl _ _⟩
  | true =>
  have HS := Lib.hid (sign_calls c (by omega) a4)
  rw [a4] at HV
  cases a5 : signR c with
  | true =>
    rw [a5] at HS
    have HPF : Hid (plainB c = false) := Lib.hid (by rw [HP.out, a5]; simp)
    clear a1 a2 a3 a4 a5 HP
    go_enter Tryd.func46, Tryd.ntmps46
    go_wp2_with (first | (go_at_call 45; refine (HV.out _).mono ?_; rintro e w' ⟨rfl, rfl⟩) | (go_at_call 47; refine (HS.out _).mono ?_; rintro e w2 ⟨rfl, hb⟩))
    go_ret
    exact ⟨by rw [HPF.out]; rfl, hb⟩
  | false =>
  rw [a5] at HS
  by_cases a6 : c = 92
  · have d6 : (c != 92) = false := bne_eq_false_iff_eq.mpr a6
    have HPF : Hid (plainB c = false) := Lib.hid (by rw [HP.out, a6]; rfl)
    clear a1 a2 a3 a4 a5 a6 HP
    go_enter Tryd.func46, Tryd.ntmps46
    go_wp2_with (first | (go_at_call 45; refine (HV.out _).mono ?_; rintro e w' ⟨rfl, rfl⟩) | (go_at_call 47; refine (HS.out _).mono ?_; rintro e w2 ⟨rfl, hb⟩))
    go_ret
    exact ⟨by rw [HPF.out]; rfl, hb⟩
  have d6 : (c != 92) = true := bne_iff_ne.mpr a6
  by_cases a7 : c = 37
  · have d7 : (c != 37) = false := bne_eq_false_iff_eq.mpr a7
    have HPF : Hid (plainB c = false) := Lib.hid (by rw [HP.out, a7]; rfl)
    clear a1 a2 a3 a4 a5 a6 a7 HP
    go_enter Tryd.func46, Tryd.ntmps46
    go_wp2_with (first | (go_at_call 45; refine (HV.out _).mono ?_; rintro e w' ⟨rfl, rfl⟩) | (go_at_call 47; refine (HS.out _).mono ?_; rintro e w2 ⟨rfl, hb⟩))
    go_ret
    exact ⟨by rw [HPF.out]; rfl, hb⟩
  · have d7 : (c != 37) = true := bne_iff_ne.mpr a7
    have HPF : Hid (plainB c = true) := Lib.hid (by rw [HP.out, a4, a5, decide_eq_true a1, decide_eq_true a2, decide_eq_true a3, decide_eq_true a6, decide_eq_true a7]; rfl)
    clear a1 a2 a3 a4 a5 a6 a7 HP
    go_enter Tryd.func46, Tryd.ntmps46
    go_wp2_with (first | (go_at_call 45; refine (HV.out _).mono ?_; rintro e w' ⟨rfl, rfl⟩) | (go_at_call 47; refine (HS.out _).mono ?_; rintro e w2 ⟨rfl, hb⟩))
    go_ret
    exact ⟨by rw [HPF.out]; rfl, hb⟩
end Go.Proofs.YtaoepeiadhdbaaaDoor.P
namespace Go.Proofs.YtaoepeiadhdbaaaDoor.P
open Go.Shelf Go.RowKit Go.Proofs.YtaoepeiadhdbaaaDoorW.PrintWords Go.Proofs.YtaoepeiadhdbaaaDoorW.PrintLast Go.Proofs.YtaoepeiadhdbaaaDoorW.PrintMore
set_option linter.unusedVariables false
set_option linter.unusedSimpArgs false
set_option maxRecDepth 100000
def dgs : ByteArray := ⟨#[48, 49, 50, 51, 52, 53, 54, 55, 56, 57, 97, 98, 99, 100, 101, 102, 103, 104, 105, 106, 107, 108, 109, 110, 111, 112, 113, 114, 115, 116, 117, 118, 119, 120, 121, 122]⟩
def dg (u : Int) : Int := bt dgs u
set_option maxHeartbeats 1000000 in
theorem tz_calls (w : World) (h : w.cell? ⟨3, 15, none⟩ = some (.int .u8 4)) : Calls Tryd.prog 64 #[.int .u64 16] w fun e w' => e = .returned (.int .i64 4) ∧ w = w' := by
  have hi : IntKind.u64.wrap (Go.bits .and .u64 16 (IntKind.u64.wrap (-16)) * 285870213051353865) / 288230376151711744 = 15 := by decide +kernel
  go_enter Tryd.func64, Tryd.ntmps64
  go_wp2
  go_ret
  exact ⟨rfl, rfl⟩
theorem p2_calls (w : World) : Calls Tryd.prog 63 #[.int .i64 16] w fun e w' => e = .returned (.bool true) ∧ w = w' := by
  have hi : (Go.bits .and .i64 16 15 == 0) = true := by decide +kernel
  go_enter Tryd.func63, Tryd.ntmps63
  go_wp2
  go_ret
  exact ⟨rfl, rfl⟩
theorem zero_64 : Tryd.zeroCells98[64]? = some (.int .u8 0) := by kernel_rfl
theorem zero_63 : Tryd.zeroCells98[63]? = some (.int .u8 0) := by kernel_rfl
theorem and15 : ∀ u : Fin 128, Go.bits .and .u64 (u.val : Int) 15 = (u.val : Int) % 16 := by decide +kernel
theorem reads1 {W : World} {b o : Nat} {d : Int} {v : Value} (h : W.cell? ⟨b, o, none⟩ = some v) : ReadsInt (W.setCell ⟨b, o, none⟩ (.int .u8 d)) .u8 (some ⟨b, o, none⟩) 1 [d] :=
  ⟨rfl, by decide, fun _ => ⟨_, rfl, fun j hj => by
    obtain rfl : j = 0 := by omega
    have := World.cell?_setCell_same W ⟨b, o, none⟩ (.int .u8 d) h
    exact this⟩⟩
theorem reads2 {W : World} {b o : Nat} {d d2 : Int} {v : Value} (h : W.cell? ⟨b, o, none⟩ = some v) (h2 : W.cell? ⟨b, o + 1, none⟩ = some (.int .u8 d2)) : ReadsInt (W.setCell ⟨b, o, none⟩ (.int .u8 d)) .u8 (some ⟨b, o, none⟩) 2 [d, d2] :=
  ⟨rfl, by decide, fun _ => ⟨_, rfl, fun j hj => by
    obtain rfl | rfl : j = 0 ∨ j = 1 := by omega
    · have := World.cell?_setCell_same W ⟨b, o, none⟩ (.int .u8 d) h
      exact this
    · have := World.cell?_setCell_other (w := W) (a := ⟨b, o, none⟩) (b := ⟨b, o + 1, none⟩) (v := .int .u8 d) (h := by intro e; injection e with _ e; omega)
      exact this.trans h2⟩⟩
set_option maxHeartbeats 4000000 in
theorem bits_lo (u : Int) (h1 : 1 ≤ u) (h2 : u < 16) (w : World) (hT : LexTabs w) : Calls Tryd.prog 56 #[.slice none 0 0, .int .u64 u, .int .i64 16, .bool false, .bool false] w fun e w' => e = .returned (.tuple #[.slice none 0 0, .string (strOfNums [dg u])]) ∧ Below w.heap.size w w' := by
  have HT := Lib.hid hT
  have HZ := Lib.hid tz_calls
  have HP := Lib.hid p2_calls
  clear hT
  have hx := bt_at dgs u
  have hy : bt dgs u = dg u := rfl
  rw [hy] at hx
  unfold dgs at hx
  generalize dg u = d at hx
  clear hy
  go_enter Tryd.func56, Tryd.ntmps56
  go_wp2_with fail
  refine (HP.out _).mono ?_
  rintro e w1 ⟨rfl, rfl⟩
  go_wp2_with fail
  refine (HZ.out _ (HT.out.below ((Below.refl _ w).alloc (Nat.le_refl _) _)).2).mono ?_
  rintro e w1 ⟨rfl, rfl⟩
  go_wp2_with fail
  generalize hW : w.alloc (.cells Tryd.zeroCells98 98) = W
  have hb : Below w.heap.size w W := by rw [← hW]; exact (Below.refl _ w).alloc (Nat.le_refl _) _
  have hblk : W.heap[w.heap.size]? = some (.cells Tryd.zeroCells98 98) := by rw [← hW]; exact heap_alloc_new w _
  clear hW
  have c64 : W.cell? ⟨w.heap.size, 64, none⟩ = some (.int .u8 0) := (Joins.cell_of_block hblk 64).trans zero_64
  have f64 : W.frozen? ⟨w.heap.size, 64, none⟩ = false := Joins.unfrozen_of_block hblk 64
  have hrd := reads1 (d := d) c64
  have kc := string_of_reads (P := Tryd.prog) (src := 37) (dst := 9) (c := 1) Tryd.underlying37 Tryd.underlying5 Tryd.underlying9 hrd
  have HB := Lib.hid hb
  have d1 : decide (16 ≤ u) = false := decide_eq_false (by omega)
  have p1 := eq_true (show 0 ≤ u by omega)
  have p2 := eq_true (show u < 36 by omega)
  clear hb hblk hrd h1 h2
  go_loopw [1, 13] (fun v1 v13 wr => v1 = .int .u64 u ∧ v13 = .int .i64 65 ∧ W = wr) (fun _ _ _ => 1)
  case atStart => exact ⟨rfl, rfl, rfl⟩
  case round =>
    obtain ⟨rfl, rfl, rfl⟩ := hrel
    go_wp2_with fail
    go_ret2
    exact ⟨rfl, HB.out.setCell (Nat.le_refl _) _⟩
set_option maxHeartbeats 4000000 in
theorem bits_hi (u : Int) (h1 : 16 ≤ u) (h2 : u < 128) (w : World) (hT : LexTabs w) : Calls Tryd.prog 56 #[.slice none 0 0, .int .u64 u, .int .i64 16, .bool false, .bool false] w fun e w' => e = .returned (.tuple #[.slice none 0 0, .string (strOfNums [dg (u / 16), dg (u % 16)])]) ∧ Below w.heap.size w w' := by
  have HT := Lib.hid hT
  have HZ := Lib.hid tz_calls
  have HP := Lib.hid p2_calls
  clear hT
  have ha := and15 ⟨u.toNat, by omega⟩
  rw [show ((u.toNat : Nat) : Int) = u by omega] at ha
  obtain ⟨q, hq⟩ : ∃ q, u / 16 = q := ⟨_, rfl⟩
  obtain ⟨m, hm⟩ : ∃ m, u % 16 = m := ⟨_, rfl⟩
  rw [hm] at ha
  have hx := bt_at dgs q
  have hx2 := bt_at dgs m
  rw [show bt dgs q = dg q from rfl] at hx
  rw [show bt dgs m = dg m from rfl] at hx2
  unfold dgs at hx hx2
  rw [hq, hm]
  generalize dg q = d at hx ⊢
  generalize dg m = d2 at hx2 ⊢
  go_enter Tryd.func56, Tryd.ntmps56
  go_wp2_with fail
  refine (HP.out _).mono ?_
  rintro e w1 ⟨rfl, rfl⟩
  go_wp2_with fail
  refine (HZ.out _ (HT.out.below ((Below.refl _ w).alloc (Nat.le_refl _) _)).2).mono ?_
  rintro e w1 ⟨rfl, rfl⟩
  go_wp2_with fail
  generalize hW : w.alloc (.cells Tryd.zeroCells98 98) = W
  have hb : Below w.heap.size w W := by rw [← hW]; exact (Below.refl _ w).alloc (Nat.le_refl _) _
  have hblk : W.heap[w.heap.size]? = some (.cells Tryd.zeroCells98 98) := by rw [← hW]; exact heap_alloc_new w _
  clear hW
  have c64 : W.cell? ⟨w.heap.size, 64, none⟩ = some (.int .u8 0) := (Joins.cell_of_block hblk 64).trans zero_64
  have f64 : W.frozen? ⟨w.heap.size, 64, none⟩ = false := Joins.unfrozen_of_block hblk 64
  have c63 : W.cell? ⟨w.heap.size, 63, none⟩ = some (.int .u8 0) := (Joins.cell_of_block hblk 63).trans zero_63
  have f63 : W.frozen? ⟨w.heap.size, 63, none⟩ = false := Joins.unfrozen_of_block hblk 63
  generalize hV : W.setCell ⟨w.heap.size, 64, none⟩ (.int .u8 d2) = V
  have c63 : V.cell? ⟨w.heap.size, 63, none⟩ = some (.int .u8 0) := by rw [← hV, World.cell?_setCell_other (h := by intro e; cases e)]; exact c63
  have v64 : V.cell? ⟨w.heap.size, 64, none⟩ = some (.int .u8 d2) := by rw [← hV]; exact World.cell?_setCell_same _ _ _ c64
  have f63 : V.frozen? ⟨w.heap.size, 63, none⟩ = false := by rw [← hV, World.frozen?_setCell]; exact f63
  have hbV : Below w.heap.size w V := by rw [← hV]; exact hb.setCell (Nat.le_refl _) _
  have hrd := reads2 (d := d) c63 v64
  have kc := string_of_reads (P := Tryd.prog) (src := 37) (dst := 9) (c := 2) Tryd.underlying37 Tryd.underlying5 Tryd.underlying9 hrd
  have HB := Lib.hid hbV
  have HV := Lib.hid hV
  have d1 : decide (16 ≤ u) = true := decide_eq_true (by omega)
  have d2' : decide (16 ≤ q) = false := decide_eq_false (by omega)
  have p1 := eq_true (show 0 ≤ q by omega)
  have p2 := eq_true (show q < 36 by omega)
  have p3 := eq_true (show 0 ≤ m by omega)
  have p4 := eq_true (show m < 36 by omega)
  have HQ := Lib.hid hq
  clear hb hblk hrd h1 h2 hV hbV hq hm v64
  go_loopg [1, 13] 2 (fun gk v1 v13 wr => Hid ((gk = 2 ∧ v1 = .int .u64 u ∧ v13 = .int .i64 65 ∧ W = wr) ∨ (gk = 1 ∧ v1 = .int .u64 q ∧ v13 = .int .i64 64 ∧ V = wr)))
  case atStart => exact Lib.hid (.inl ⟨rfl, rfl, rfl, rfl⟩)
  case round =>
    rcases hrel.out with ⟨rfl, rfl, rfl, rfl⟩ | ⟨rfl, rfl, rfl, rfl⟩
    · have hq := HQ.out
      go_wp2_with fail
      go_roundg 1
      case measure => omega
      case rel => exact Lib.hid (.inr ⟨rfl, rfl, rfl, HV.out.symm⟩)
    · go_wp2_with fail
      go_ret2
      exact ⟨rfl, HB.out.setCell (Nat.le_refl _) _⟩
/-- A small number to the base 16. -/
def hexF (u : Int) : ByteArray := if u < 16 then strOfNums [dg u] else strOfNums [dg (u / 16), dg (u % 16)]
theorem bits_calls (u : Int) (h1 : 1 ≤ u) (h2 : u < 128) (w : World) (hT : LexTabs w) : Calls Tryd.prog 56 #[.slice none 0 0, .int .u64 u, .int .i64 16, .bool false, .bool false] w fun e w' => e = .returned (.tuple #[.slice none 0 0, .string (hexF u)]) ∧ Below w.heap.size w w' := by
  unfold hexF
  by_cases h : u < 16
  · rw [if_pos h]; exact bits_lo u h1 h w hT
  · rw [if_neg h]; exact bits_hi u (by omega) h2 w hT
theorem form_in (u : Int) (h1 : 1 ≤ u) (h2 : u < 128) (w : World) (hT : LexTabs w) : Calls Tryd.prog 49 #[.int .i64 u, .int .i64 16] w fun e w' => e = .returned (.string (hexF u)) ∧ Below w.heap.size w w' := by
  have HB := Lib.hid (bits_calls u h1 h2 w hT)
  have wr : IntKind.u64.wrap u = u := by rw [IntKind.wrap_u64]; omega
  have d1 : decide (u < 0) = false := decide_eq_false (by omega)
  generalize hexF u = s at HB ⊢
  clear h1 h2 hT
  go_enter Tryd.func49, Tryd.ntmps49
  go_wp2_with (go_at_call 56; refine HB.out.mono ?_; rintro e w1 ⟨rfl, hb⟩)
  go_ret
  exact ⟨rfl, hb⟩
theorem form_calls (u : Int) (h1 : 1 ≤ u) (h2 : u < 128) (w : World) (hT : LexTabs w) : Calls Tryd.prog 48 #[.int .i64 u, .int .i64 16] w fun e w' => e = .returned (.string (hexF u)) ∧ Below w.heap.size w w' := by
  have HB := Lib.hid (form_in u h1 h2 w hT)
  have wr : IntKind.u64.wrap u = u := by rw [IntKind.wrap_u64]; omega
  have d1 : decide (u < 0) = false := decide_eq_false (by omega)
  generalize hexF u = s at HB ⊢
  clear h1 h2 hT
  go_enter Tryd.func48, Tryd.ntmps48
  go_wp2_with (go_at_call 49; refine HB.out.mono ?_; rintro e w1 ⟨rfl, hb⟩)
  go_ret
  exact ⟨rfl, hb⟩
end Go.Proofs.YtaoepeiadhdbaaaDoor.P
namespace Go.Proofs.YtaoepeiadhdbaaaDoor.P
open Go.Shelf Go.RowKit Go.Proofs.YtaoepeiadhdbaaaDoorW.PrintWords Go.Proofs.YtaoepeiadhdbaaaDoorW.PrintLast Go.Proofs.YtaoepeiadhdbaaaDoorW.PrintMore
set_option linter.unusedVariables false
set_option linter.unusedSimpArgs false
set_option maxRecDepth 100000
def runeB (c : Int) : Bool := decide (1 ≤ c) && (decide (c ≤ 1114111) && Lib.validRune c)
def quoteS (c : Int) : ByteArray × Int :=
  if runeB c = false then (⟨#[]⟩, 1) else if plainB c then (Utf8.encode c, 0) else if signR c = true ∨ c = 37 then (⟨#[92]⟩ ++ Utf8.encode c, 0) else (⟨#[92, 99, 104, 97, 114, 123]⟩ ++ hexF c ++ ⟨#[125]⟩, 0)
theorem odd_rune (c : Int) (h1 : 1 ≤ c) (h2 : runeB c = true) (h3 : plainB c = false) (h4 : signR c = false) (h5 : c ≠ 37) : c < 128 := by
  unfold runeB at h2
  simp only [Bool.and_eq_true, decide_eq_true_eq] at h2
  unfold plainB at h3
  rw [h4, h2.2.2, decide_eq_true h2.2.1, decide_eq_true h5] at h3
  simp only [Bool.true_and, Bool.and_true, Bool.not_false, Bool.and_eq_false_iff, decide_eq_false_iff_not] at h3
  omega
theorem hexF_size (c : Int) : (hexF c).size ≤ 2 := by
  unfold hexF
  split <;> simp [strOfNums, ByteArray.size]
set_option maxHeartbeats 4000000 in
theorem quote_bad (c : Int) (h : runeB c = false) (w : World) : Calls Tryd.prog 38 #[.int .i64 c] w fun e w' => e = .returned (.tuple #[.string ⟨#[]⟩, .int .i64 1]) ∧ Below w.heap.size w w' := by
  have HV := Lib.hid (fun w => Tryd.utf8_ValidRune c w)
  by_cases a1 : c < 1
  · have d1 : decide (c < 1) = true := decide_eq_true a1
    clear h
    go_enter Tryd.func38, Tryd.ntmps38
    go_wp2_with fail
    go_ret2
    exact ⟨rfl, Below.refl _ _⟩
  have d1 : decide (c < 1) = false := decide_eq_false a1
  by_cases a2 : 1114111 < c
  · have d2 : decide (1114111 < c) = true := decide_eq_true a2
    clear h
    go_enter Tryd.func38, Tryd.ntmps38
    go_wp2_with fail
    go_ret2
    exact ⟨rfl, Below.refl _ _⟩
  have d2 : decide (1114111 < c) = false := decide_eq_false a2
  have hv : Lib.validRune c = false := by
    unfold runeB at h
    rw [decide_eq_true (show 1 ≤ c by omega), decide_eq_true (show c ≤ 1114111 by omega)] at h
    simpa using h
  rw [hv] at HV
  have wr : IntKind.i32.wrap c = c := by rw [IntKind.wrap_i32]; omega
  clear h hv a1 a2
  go_enter Tryd.func38, Tryd.ntmps38
  go_wp2_with (go_at_call 45; refine (HV.out _).mono ?_; rintro e w' ⟨rfl, rfl⟩)
  go_ret2
  exact ⟨rfl, Below.refl _ _⟩
set_option maxHeartbeats 8000000 in
theorem quote_good (c : Int) (h : runeB c = true) (w : World) (hT : LexTabs w) : Calls Tryd.prog 38 #[.int .i64 c] w fun e w' => e = .returned (.tuple #[.string (quoteS c).1, .int .i64 (quoteS c).2]) ∧ Below w.heap.size w w' := by
  have hr := h
  unfold runeB at hr
  simp only [Bool.and_eq_true, decide_eq_true_eq] at hr
  obtain ⟨c1, c2, c3⟩ := hr
  have HV := Lib.hid (fun w => Tryd.utf8_ValidRune c w)
  rw [c3] at HV
  have HPL := Lib.hid (plain_calls c)
  have HSG := Lib.hid (sign_calls c (by omega) c3)
  have d1 : decide (c < 1) = false := decide_eq_false (by omega)
  have d2 : decide (1114111 < c) = false := decide_eq_false (by omega)
  have wr : IntKind.i32.wrap c = c := by rw [IntKind.wrap_i32]; omega
  have hQ : quoteS c = if plainB c then (Utf8.encode c, 0) else if signR c = true ∨ c = 37 then (⟨#[92]⟩ ++ Utf8.encode c, 0) else (⟨#[92, 99, 104, 97, 114, 123]⟩ ++ hexF c ++ ⟨#[125]⟩, 0) := by
    unfold quoteS
    rw [h, if_neg (by decide)]
  have hz := encode_size_le c
  obtain ⟨K, hK⟩ : ∃ K, Utf8.encode c = K := ⟨_, rfl⟩
  have kc : ∀ w : World, (convert 21 9 (.int .i32 c)).run Tryd.prog w = .ok (.string K) w := fun w => by
    rw [run_convert_int_string w 21 9 .i32 c (by rw [Tryd.underlying21]; rfl) Tryd.underlying9, hK]
  rw [hK] at hQ hz
  have hodd := odd_rune c c1 h
  cases hp : plainB c with
  | true =>
    rw [hp] at HPL hQ
    have HQ := Lib.hid hQ
    clear h c1 c2 c3 hQ hz hK hodd hp hT
    go_enter Tryd.func38, Tryd.ntmps38
    go_wp2_with (first | (go_at_call 45; refine (HV.out _).mono ?_; rintro e w' ⟨rfl, rfl⟩) | (go_at_call 46; refine (HPL.out _).mono ?_; rintro e w1 ⟨rfl, hb1⟩))
    go_ret2
    rw [HQ.out]
    exact ⟨rfl, hb1⟩
  | false =>
  rw [hp] at HPL hQ
  have hodd := hodd hp
  cases hs : signR c with
  | true =>
    rw [hs] at HSG hQ
    have s2 := eq_false (show ¬ 9223372036854775807 < 1 + K.size by omega)
    have HQ := Lib.hid hQ
    clear h c1 c2 c3 hQ hz hK hodd hp hs hT
    go_enter Tryd.func38, Tryd.ntmps38
    go_wp2_with (first | (go_at_call 45; refine (HV.out _).mono ?_; rintro e w' ⟨rfl, rfl⟩) | (go_at_call 46; refine (HPL.out _).mono ?_; rintro e w1 ⟨rfl, hb1⟩; have HB1 := Lib.hid hb1; clear hb1) | (go_at_call 47; refine (HSG.out _).mono ?_; rintro e w2 ⟨rfl, hb2⟩))
    go_ret2
    rw [HQ.out]
    exact ⟨rfl, HB1.out.trans (hb2.mono HB1.out.size)⟩
  | false =>
  rw [hs] at HSG hQ
  have hodd := hodd hs
  by_cases h7 : c = 37
  · have e1 : (c == 37) = true := beq_iff_eq.mpr h7
    rw [if_neg (by decide), if_pos (.inr h7)] at hQ
    have s2 := eq_false (show ¬ 9223372036854775807 < 1 + K.size by omega)
    have HQ := Lib.hid hQ
    clear h c1 c2 c3 hQ hz hK hodd hp hs h7 hT
    go_enter Tryd.func38, Tryd.ntmps38
    go_wp2_with (first | (go_at_call 45; refine (HV.out _).mono ?_; rintro e w' ⟨rfl, rfl⟩) | (go_at_call 46; refine (HPL.out _).mono ?_; rintro e w1 ⟨rfl, hb1⟩; have HB1 := Lib.hid hb1; clear hb1) | (go_at_call 47; refine (HSG.out _).mono ?_; rintro e w2 ⟨rfl, hb2⟩))
    go_ret2
    rw [HQ.out]
    exact ⟨rfl, HB1.out.trans (hb2.mono HB1.out.size)⟩
  · have e1 : (c == 37) = false := beq_eq_false_iff_ne.mpr h7
    rw [if_neg (by decide), if_neg (by rintro (h | h); cases h; exact h7 h)] at hQ
    have HF := Lib.hid (fun w' (hb : Below w.heap.size w w') => form_calls c c1 (hodd h7) w' (hT.below hb))
    have hz := hexF_size c
    generalize hexF c = X at HF hQ hz
    have s2 := eq_false (show ¬ 9223372036854775807 < 6 + X.size by omega)
    have s4 := eq_false (show ¬ 9223372036854775807 < 6 + X.size + 1 by omega)
    have wr2 : IntKind.i64.wrap c = c := IntWalk.i64_in _ (by omega)
    have HQ := Lib.hid hQ
    clear h c1 c2 c3 hQ hz hK hodd hp hs h7 hT
    go_enter Tryd.func38, Tryd.ntmps38
    go_wp2_with (first | (go_at_call 45; refine (HV.out _).mono ?_; rintro e w' ⟨rfl, rfl⟩) | (go_at_call 46; refine (HPL.out _).mono ?_; rintro e w1 ⟨rfl, hb1⟩; have HB1 := Lib.hid hb1; clear hb1) | (go_at_call 47; refine (HSG.out _).mono ?_; rintro e w2 ⟨rfl, hb2⟩; have HB2 := Lib.hid (HB1.out.trans (hb2.mono HB1.out.size)); clear hb2) | (go_at_call 48; refine (HF.out _ HB2.out).mono ?_; rintro e w3 ⟨rfl, hb3⟩))
    go_ret2
    rw [HQ.out]
    exact ⟨rfl, HB2.out.trans (hb3.mono HB2.out.size)⟩
theorem quote_calls (c : Int) (w : World) (hT : LexTabs w) : Calls Tryd.prog 38 #[.int .i64 c] w fun e w' => e = .returned (.tuple #[.string (quoteS c).1, .int .i64 (quoteS c).2]) ∧ Below w.heap.size w w' := by
  cases h : runeB c with
  | true => exact quote_good c h w hT
  | false =>
    have hQ : quoteS c = (⟨#[]⟩, 1) := by unfold quoteS; rw [if_pos h]
    rw [hQ]
    exact quote_bad c h w
end Go.Proofs.YtaoepeiadhdbaaaDoor.P
