/- lex.letters and lex.blank, walked: how many letters stand first; how many bytes that play no part. Condition of blank: a text that is shorter than 2^32 - 15 bytes. -/
import Derived.Test.YtplkdfkahcpoeaaDoorPx0
import Derived.Test.YtplkdfkahcpoeaaDoorShelf
import Derived.Test.YtplkdfkahcpoeaaDoorShelg
import Derived.Lib.Hide
import Derived.Laws.RangeAny
import Derived.LoopTactic
import Derived.BigQuiet
namespace Go.Proofs.YtplkdfkahcpoeaaDoor.P
open Go.Shelf Go.RowKit Go.Proofs.YtplkdfkahcpoeaaDoorW.PrintWords Go.Proofs.YtplkdfkahcpoeaaDoorW.PrintLast Go.Proofs.YtplkdfkahcpoeaaDoorW.PrintMore
set_option linter.unusedVariables false
set_option linter.unusedSimpArgs false
set_option maxRecDepth 100000
def letB (b : UInt8) : Bool := (decide (97 ≤ b.toNat) && decide (b.toNat ≤ 122)) || (decide (65 ≤ b.toNat) && decide (b.toNat ≤ 90))
/-- How many letters stand first. -/
def lettersS (s : ByteArray) : Nat := (s.data.toList.takeWhile letB).length
theorem takeWhile_len {α : Type} (p : α → Bool) : ∀ (L : List α) (k : Nat), k ≤ L.length → (∀ q (h : q < L.length), q < k → p L[q] = true) → (∀ h : k < L.length, p L[k] = false) → (L.takeWhile p).length = k
  | [], k, h, _, _ => by simp at h; simp [h]
  | x :: L, 0, _, _, h => by
    have := h (by simp)
    rw [List.getElem_cons_zero] at this
    rw [List.takeWhile_cons, if_neg (by rw [this]; decide)]; rfl
  | x :: L, k + 1, hk, h1, h2 => by
    have h0 := h1 0 (by simp) (by omega)
    rw [List.getElem_cons_zero] at h0
    rw [List.takeWhile_cons, if_pos h0, List.length_cons, takeWhile_len p L k (by simpa using hk) (fun q hq hqk => by
      have := h1 (q + 1) (by simpa using hq) (by omega)
      simpa using this) (fun h => by
      have := h2 (by simpa using h)
      simpa using this)]
theorem letters_end (s : ByteArray) (k : Nat) (hk : k ≤ s.size) (h1 : ∀ q (h : q < s.size), q < k → letB s[q] = true) (h2 : ∀ h : k < s.size, letB s[k] = false) : lettersS s = k :=
  takeWhile_len letB s.data.toList k (by simpa using hk) (fun q hq hqk => by
    have := h1 q (by simpa using hq) hqk
    rw [Array.getElem_toList]
    exact this) (fun h => by
    have := h2 (by simpa using h)
    rw [Array.getElem_toList]
    exact this)
set_option maxHeartbeats 4000000 in
theorem letters_calls (s : ByteArray) (w : World) : Calls Tryd.prog 50 #[.string s] w fun e w' => e = .returned (.int .i64 (lettersS s : Int)) ∧ Below w.heap.size w w' := by
  have HB : ∀ pos, Below w.heap.size w (w.iter s pos) := fun pos => (Below.refl _ w).alloc (Nat.le_refl _) _
  go_enter Tryd.func50, Tryd.ntmps50
  go_wp2
  go_loopw [3] (fun v w' => ∃ pos : Nat, w' = w.iter s pos ∧ Hid (pos ≤ s.size) ∧ Hid (∀ q (h : q < s.size), q < pos → letB s[q] = true)) (fun _ w' => s.size - w'.iterPos w.heap.size)
  case atStart => exact ⟨0, rfl, Lib.hid (by omega), Lib.hid (fun q _ h => absurd h (Nat.not_lt_zero _))⟩
  case round =>
    obtain ⟨pos, rfl, HP, HL⟩ := hrel
    by_cases hp : pos < s.size
    · have hnx : ∀ ty, (Instr.next (.pointer (some ⟨w.heap.size, 0, none⟩)) true ty).run Tryd.prog (w.iter s pos) = _ := fun ty => run_next_any w s pos ty hp
      have hcase : ((Utf8.decode s pos) = (s[pos].toNat, 1)) ∨ (letB s[pos] = false ∧ 128 ≤ (Utf8.decode s pos).1) := by
        by_cases ha : s[pos].toNat < 128
        · exact .inl (decode_ascii s pos hp ha)
        · refine .inr ⟨?_, (decode_high s pos hp (by omega)).1⟩
          unfold letB
          rw [decide_eq_false (show ¬ s[pos].toNat ≤ 122 by omega), decide_eq_false (show ¬ s[pos].toNat ≤ 90 by omega), Bool.and_false, Bool.and_false]; rfl
      obtain ⟨r, hr⟩ : ∃ r : Int, ((Utf8.decode s pos).1 : Int) = r := ⟨_, rfl⟩
      rw [hr] at hnx
      have hlet : letB s[pos] = ((decide (97 ≤ r) && decide (r ≤ 122)) || (decide (65 ≤ r) && decide (r ≤ 90))) := by
        rcases hcase with h | ⟨h, h2⟩
        · rw [h] at hr
          simp only at hr
          unfold letB
          subst hr
          congr 1 <;> congr 1 <;> exact decide_eq_decide.2 (by omega)
        · rw [h, decide_eq_false (show ¬ r ≤ 122 by omega), decide_eq_false (show ¬ r ≤ 90 by omega), Bool.and_false, Bool.and_false]; rfl
      have hone : letB s[pos] = true → (Utf8.decode s pos).2 = 1 := fun h => by
        rcases hcase with h1 | ⟨h1, _⟩
        · rw [h1]
        · rw [h1] at h; cases h
      have stop : letB s[pos] = false → lettersS s = pos := fun h => letters_end s pos HP.out HL.out (fun _ => h)
      have next : letB s[pos] = true → ∀ q (h : q < s.size), q < pos + 1 → letB s[q] = true := fun h q hq hqp => by
        rcases Nat.lt_or_ge q pos with h1 | h1
        · exact HL.out q hq h1
        · obtain rfl : q = pos := by omega
          exact h
      obtain ⟨lb, hlb⟩ : ∃ lb : Bool, letB (s[pos]'hp) = lb := ⟨_, rfl⟩
      rw [hlb] at hlet hone stop next
      have HPP : Hid (pos + 1 ≤ s.size) := Lib.hid hp
      have HLET := Lib.hid hlet
      have HONE := Lib.hid hone
      have HSTOP := Lib.hid stop
      have HNEXT := Lib.hid next
      generalize (Utf8.decode s pos).2 = kk at hnx HONE
      clear hcase hr hlet hone stop next hlb hp
      by_cases a1 : r < 97
      · have d1 : decide (r < 97) = true := decide_eq_true a1
        by_cases a2 : r < 65
        · have d2 : decide (r < 65) = true := decide_eq_true a2
          have HF := Lib.hid (HSTOP.out (by rw [HLET.out, decide_eq_false (show ¬ 97 ≤ r by omega), decide_eq_false (show ¬ 65 ≤ r by omega)]; rfl))
          go_wp2
          go_ret
          exact ⟨by rw [HF.out]; rfl, HB _⟩
        · have d2 : decide (r < 65) = false := decide_eq_false a2
          by_cases a3 : 90 < r
          · have d3 : decide (90 < r) = true := decide_eq_true a3
            have HF := Lib.hid (HSTOP.out (by rw [HLET.out, decide_eq_false (show ¬ 97 ≤ r by omega), decide_eq_false (show ¬ r ≤ 90 by omega), Bool.and_false]; rfl))
            go_wp2
            go_ret
            exact ⟨by rw [HF.out]; rfl, HB _⟩
          · have d3 : decide (90 < r) = false := decide_eq_false a3
            have hl1 : lb = true := by rw [HLET.out, decide_eq_true (show 65 ≤ r by omega), decide_eq_true (show r ≤ 90 by omega), Bool.and_true, Bool.or_true]
            obtain rfl := HONE.out hl1
            have HN := Lib.hid (HNEXT.out hl1)
            clear hl1
            go_wp2
            go_roundw
            case rel => exact ⟨pos + 1, rfl, Lib.hid (by have := HPP.out; omega), HN⟩
            case measure => simp; have := HPP.out; omega
      · have d1 : decide (r < 97) = false := decide_eq_false a1
        by_cases a2 : 122 < r
        · have d2 : decide (122 < r) = true := decide_eq_true a2
          have d3 : decide (r < 65) = false := decide_eq_false (by omega)
          have d4 : decide (90 < r) = true := decide_eq_true (by omega)
          have HF := Lib.hid (HSTOP.out (by rw [HLET.out, decide_eq_false (show ¬ r ≤ 122 by omega), decide_eq_false (show ¬ r ≤ 90 by omega), Bool.and_false, Bool.and_false]; rfl))
          go_wp2
          go_ret
          exact ⟨by rw [HF.out]; rfl, HB _⟩
        · have d2 : decide (122 < r) = false := decide_eq_false a2
          have hl1 : lb = true := by rw [HLET.out, decide_eq_true (show 97 ≤ r by omega), decide_eq_true (show r ≤ 122 by omega)]; rfl
          obtain rfl := HONE.out hl1
          have HN := Lib.hid (HNEXT.out hl1)
          clear hl1
          go_wp2
          go_roundw
          case rel => exact ⟨pos + 1, rfl, Lib.hid (by have := HPP.out; omega), HN⟩
          case measure => simp; have := HPP.out; omega
    · have hnx : ∀ ty, (Instr.next (.pointer (some ⟨w.heap.size, 0, none⟩)) true ty).run Tryd.prog (w.iter s pos) = _ := fun ty => run_next_end w s pos ty hp
      have HF := Lib.hid (letters_end s s.size (Nat.le_refl _) (fun q hq h => HL.out q hq (by omega)) (fun h => absurd h (Nat.lt_irrefl _)))
      go_wp2
      go_ret
      exact ⟨by rw [HF.out]; rfl, HB _⟩
/-! ### blank -/
theorem indexByte_lt (c : UInt8) : ∀ l : List UInt8, Lib.indexByte l c = -1 ∨ (0 ≤ Lib.indexByte l c ∧ Lib.indexByte l c < (l.length : Int))
  | [] => .inl rfl
  | b :: l => by
    rw [Lib.indexByte]
    split
    · exact .inr ⟨by omega, by rw [List.length_cons]; omega⟩
    · split
      · exact .inl rfl
      · rename_i h
        rcases indexByte_lt c l with h1 | ⟨h1, h2⟩
        · rw [h1] at h; exact absurd rfl h
        · exact .inr ⟨by omega, by rw [List.length_cons]; omega⟩
/-- What stands behind the first such byte. -/
def aftS (s : ByteArray) (c : UInt8) : ByteArray := if 0 ≤ Lib.indexByte s.data.toList c then s.extract ((Lib.indexByte s.data.toList c) + 1).toNat s.size else ⟨#[]⟩
set_option maxHeartbeats 4000000 in
theorem cut_lite (s : ByteArray) (c : UInt8) (hs : s.size ≤ 140737488351232) (w : World) : Calls Tryd.prog 47 #[.string s, .string ⟨#[c]⟩] w fun e w' => (∃ bef fl, e = .returned (.tuple #[.string bef, .string (aftS s c), .bool fl])) ∧ Below w.heap.size w w' := by
  have HI := Lib.hid (fun w => Tryd.stringslite_Index_one s c w)
  have HA := Lib.hid (show aftS s c = if 0 ≤ Lib.indexByte s.data.toList c then s.extract ((Lib.indexByte s.data.toList c) + 1).toNat s.size else ⟨#[]⟩ from rfl)
  have hlt := indexByte_lt c s.data.toList
  rw [show (s.data.toList.length : Int) = (s.size : Int) by simp] at hlt
  generalize Lib.indexByte s.data.toList c = I at HI HA hlt
  obtain ⟨D, hD⟩ : ∃ D : ByteArray, (⟨#[c]⟩ : ByteArray) = D := ⟨_, rfl⟩
  have hD1 : D.size = 1 := by rw [← hD]; rfl
  rw [hD] at HI ⊢
  rcases hlt with rfl | ⟨h0, h1⟩
  · clear hD hD1 hs
    go_enter Tryd.func47, Tryd.ntmps47
    go_wp2_with (go_at_call 59; refine (HI.out _).mono ?_; rintro e w' ⟨rfl, rfl⟩)
    go_ret3
    exact ⟨⟨_, _, by rw [HA.out]; rfl⟩, Below.refl _ _⟩
  · have g1 : decide (0 ≤ I) = true := decide_eq_true h0
    have g2 : I ≤ (s.size : Int) := by omega
    have g3 : I + 1 ≤ (s.size : Int) := by omega
    have g4 : 0 ≤ I + 1 := by omega
    have wr : IntKind.i64.wrap (I + 1) = I + 1 := IntWalk.i64_in _ (by omega)
    have HF := Lib.hid (HA.out.trans (if_pos h0))
    clear hD hs HA
    go_enter Tryd.func47, Tryd.ntmps47
    go_wp2_with (go_at_call 59; refine (HI.out _).mono ?_; rintro e w' ⟨rfl, rfl⟩)
    go_quiet (fail)
    go_wp2
    go_ret3
    exact ⟨⟨_, _, by rw [HF.out]; rfl⟩, Drawn0.below ⟨_, rfl⟩⟩
theorem cut_calls (s : ByteArray) (c : UInt8) (hs : s.size ≤ 140737488351232) (w : World) : Calls Tryd.prog 34 #[.string s, .string ⟨#[c]⟩] w fun e w' => (∃ bef fl, e = .returned (.tuple #[.string bef, .string (aftS s c), .bool fl])) ∧ Below w.heap.size w w' := by
  have HC := Lib.hid (fun w => cut_lite s c hs w)
  clear hs
  go_enter Tryd.func34, Tryd.ntmps34
  go_wp2_with (go_at_call 47; refine (HC.out _).mono ?_; rintro e w' ⟨⟨bef, fl, rfl⟩, hb⟩)
  go_ret3
  exact ⟨⟨_, _, rfl⟩, hb⟩
def whiteB : List UInt8 := [9, 10, 13, 32]
/-- Without the white that stands first. -/
def trimW (s : ByteArray) : ByteArray := ⟨(Lib.trimLeftS s.data.toList whiteB).toArray⟩
def skipW : Nat → ByteArray → ByteArray
  | 0, s => s
  | k + 1, s => if s.data.toList.head? = some 37 then skipW k (trimW (aftS s 10)) else s
/-- What is left behind white and remarks. -/
def leftS (s : ByteArray) : ByteArray := skipW s.size (trimW s)
theorem trimW_size (s : ByteArray) : (trimW s).size ≤ s.size := by
  have h1 : (trimW s).size = (Lib.trimLeftS s.data.toList whiteB).length := by unfold trimW; simp [ByteArray.size]
  have h2 : (Lib.trimLeftS s.data.toList whiteB).length ≤ s.data.toList.length := by
    unfold Lib.trimLeftS
    exact (List.dropWhile_sublist _).length_le
  rw [h1]
  simpa using h2
theorem aftS_size (s : ByteArray) (c : UInt8) (h : 0 < s.size) : (aftS s c).size < s.size := by
  unfold aftS
  split
  · rw [ByteArray.size_extract]; omega
  · exact h
theorem skipW_size : ∀ (k : Nat) (s : ByteArray), (skipW k s).size ≤ s.size
  | 0, s => Nat.le_refl _
  | k + 1, s => by
    rw [skipW]
    split
    · rename_i h
      have h0 : 0 < s.size := by
        rcases Nat.eq_zero_or_pos s.size with h1 | h1
        · have : s.data.toList = [] := List.eq_nil_of_length_eq_zero (by simpa using h1)
          rw [this] at h; cases h
        · exact h1
      have h1 := skipW_size k (trimW (aftS s 10))
      have h2 := trimW_size (aftS s 10)
      have h3 := aftS_size s 10 h0
      omega
    · exact Nat.le_refl _
theorem leftS_size (s : ByteArray) : (leftS s).size ≤ s.size := Nat.le_trans (skipW_size _ _) (trimW_size s)
theorem trim_calls (s : ByteArray) (w : World) : Calls Tryd.prog 33 #[.string s, .string ⟨#[9, 10, 13, 32]⟩] w fun e w' => e = .returned (.string (trimW s)) ∧ Below w.heap.size w w' :=
  Any.strings_TrimLeft_laid Tryd.lays161 (by kernel_rfl) s ⟨#[9, 10, 13, 32]⟩ w (by decide) (ascii_of_all (by decide))
set_option maxHeartbeats 4000000 in
theorem blank_calls (s : ByteArray) (hs : s.size ≤ 140737488351232) (w : World) : Calls Tryd.prog 20 #[.string s] w fun e w' => e = .returned (.int .i64 ((s.size - (leftS s).size : Nat) : Int)) ∧ Below w.heap.size w w' := by
  have HT := Lib.hid trim_calls
  have HS := Lib.hid hs
  go_enter Tryd.func20, Tryd.ntmps20
  go_wp2_with (go_at_call 33; refine (HT.out _ _).mono ?_; rintro e w1 ⟨rfl, hb1⟩)
  go_loopg [3] (s.size + 1) (fun gk v3 wr => ∃ (left : ByteArray) (n : Nat), v3 = .string left ∧ Hid (left.size ≤ n ∧ n ≤ s.size ∧ n + 1 ≤ gk) ∧ Hid (skipW n left = leftS s) ∧ Hid (Below w.heap.size w wr))
  case atStart => exact ⟨trimW s, s.size, rfl, Lib.hid ⟨trimW_size s, Nat.le_refl _, Nat.le_refl _⟩, Lib.hid rfl, Lib.hid hb1⟩
  case round =>
    obtain ⟨left, n, rfl, HN, HL, HB⟩ := hrel
    by_cases h0 : left.size = 0
    · have hl : left.data.toList = [] := List.eq_nil_of_length_eq_zero (by simpa using h0)
      have e1 : (left.toList != ([] : List UInt8)) = false := by rw [ByteArray.toList_eq, hl]; rfl
      have e2 : (left.toList == ([] : List UInt8)) = true := by rw [ByteArray.toList_eq, hl]; rfl
      have hend : leftS s = left := by
        rw [← HL.out]
        cases n with
        | zero => rfl
        | succ n => rw [skipW, hl]; rfl
      have HE := Lib.hid hend
      have wr1 : IntKind.i64.wrap ((s.size : Int) - (left.size : Int)) = ((s.size - left.size : Nat) : Int) := (IntWalk.i64_in _ (by have := HN.out; omega)).trans (by have := HN.out; omega)
      clear hl h0 hend hs
      go_wp2
      go_ret
      exact ⟨by rw [HE.out]; rfl, HB.out⟩
    · have hpos : 0 < left.size := by omega
      have hne : left.toList ≠ [] := by
        rw [ByteArray.toList_eq]
        intro h
        have h2 : left.data.toList.length = 0 := by rw [h]; rfl
        rw [Array.length_toList] at h2
        exact absurd h2 h0
      have e1 : (left.toList != ([] : List UInt8)) = true := bne_iff_ne.mpr hne
      have e2 : (left.toList == ([] : List UInt8)) = false := beq_eq_false_iff_ne.mpr hne
      have hq : (0 < (left.size : Int)) := by omega
      have hhead : left.data.toList.head? = some (left[0]'hpos) := by
        rw [List.head?_eq_getElem?, List.getElem?_eq_getElem (by simpa using hpos), Array.getElem_toList]; rfl
      obtain ⟨x, hx⟩ : ∃ x, left[0]'hpos = x := ⟨_, rfl⟩
      have hb0 : ∀ h : 0 < left.size, ((left[0]'h).toNat : Int) = (x.toNat : Int) := fun h => by rw [hx]
      rw [hx] at hhead
      obtain ⟨n, rfl⟩ : ∃ k, n = k + 1 := ⟨n - 1, by have := HN.out; omega⟩
      have hL := HL.out
      rw [skipW, hhead] at hL
      by_cases h37 : x = 37
      · subst h37
        rw [if_pos rfl] at hL
        have HL2 := Lib.hid hL
        have HC := Lib.hid (cut_calls left 10 (by have := HN.out; have := HS.out; omega))
        have HSZ := Lib.hid (Nat.le_trans (trimW_size (aftS left 10)) (Nat.le_sub_one_of_lt (aftS_size left 10 hpos)))
        clear hL hhead hne h0 hs hx
        go_wp2_with (first
          | (go_at_call 34; refine (HC.out _).mono ?_; rintro e w2 ⟨⟨bef, fl, rfl⟩, hb2⟩)
          | (go_at_call 33; refine (HT.out _ _).mono ?_; rintro e w3 ⟨rfl, hb3⟩))
        go_roundg (n + 1)
        case measure => have := HN.out; omega
        case rel => exact ⟨_, n, rfl, Lib.hid (by have := HN.out; have := HSZ.out; omega), HL2, Lib.hid ((HB.out.trans (hb2.mono HB.out.size)).trans (hb3.mono (HB.out.trans (hb2.mono HB.out.size)).size))⟩
      · have h37' : ¬ (some x = some (37 : UInt8)) := fun h => h37 (Option.some.inj h)
        rw [if_neg h37'] at hL
        have HE := Lib.hid hL.symm
        have hx37 : ¬ (x.toNat : Int) = 37 := fun h => h37 (UInt8.toNat_inj.1 (by rw [show (37 : UInt8).toNat = 37 from rfl]; omega))
        have e3 : ((x.toNat : Int) == 37) = false := beq_eq_false_iff_ne.mpr hx37
        have e4 : (x.toNat == 37) = false := beq_eq_false_iff_ne.mpr (fun h => hx37 (by omega))
        have e5 : decide (x.toNat = 37) = false := decide_eq_false (fun h => hx37 (by omega))
        have wr1 : IntKind.i64.wrap ((s.size : Int) - (left.size : Int)) = ((s.size - left.size : Nat) : Int) := (IntWalk.i64_in _ (by have := HN.out; omega)).trans (by have := HN.out; omega)
        clear hL hhead hne h0 hs hx h37 h37' hx37
        go_wp2
        go_ret
        exact ⟨by rw [HE.out]; rfl, HB.out⟩
end Go.Proofs.YtplkdfkahcpoeaaDoor.P
