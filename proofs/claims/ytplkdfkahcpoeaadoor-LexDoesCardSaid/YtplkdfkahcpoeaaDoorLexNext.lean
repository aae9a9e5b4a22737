/- lex.next and its four readers, walked: the token that stands first. Condition: a text that is not empty and no longer than 10^9 bytes; the library's tables stand. -/
import Derived.Test.YtplkdfkahcpoeaaDoorLexRunes
import Derived.Laws.NewBlocks
import Derived.Shelf.Abstract
import Derived.Lib.SmallJoins
namespace Go.Proofs.YtplkdfkahcpoeaaDoor.P
open Go.Shelf Go.RowKit Go.Proofs.YtplkdfkahcpoeaaDoorW.PrintWords Go.Proofs.YtplkdfkahcpoeaaDoorW.PrintLast Go.Proofs.YtplkdfkahcpoeaaDoorW.PrintMore
set_option linter.unusedVariables false
set_option linter.unusedSimpArgs false
set_option maxRecDepth 100000
/-- What is read of the library's tables. -/
def LexTabs (w : World) : Prop := Lib.Utf8Tabs 0 1 w ∧ w.cell? ⟨5, 15, none⟩ = some (.int .u8 4)
theorem LexTabs.below {w w' : World} (h : LexTabs w) (hb : Below w.heap.size w w') : LexTabs w' := by
  have k : ∀ p v, w.cell? p = some v → w'.cell? p = some v := fun p v hc => (hb.cell (World.block_lt_of_cell? w _ hc)).trans hc
  exact ⟨⟨fun c hc => k _ _ (h.1.1 c hc), fun i hi => ⟨k _ _ (h.1.2 i hi).1, k _ _ (h.1.2 i hi).2⟩⟩, k _ _ h.2⟩
/-- A token: its kind, its rune, its word; how many bytes; an error. -/
abbrev Tk := Int × Int × ByteArray × Int × Int
def tkNo (e : Int) : Tk := (0, 0, ⟨#[]⟩, 0, e)
def TokE (T : Tk) : Ending := .returned (.tuple #[.agg #[.int .i64 T.1, .int .i64 T.2.1, .string T.2.2.1, .int .i64 0], .int .i64 T.2.2.2.1, .int .i64 T.2.2.2.2])
theorem TokE_eq (k r : Int) (wd : ByteArray) (n e : Int) : TokE (k, r, wd, n, e) = .returned (.tuple #[.agg #[.int .i64 k, .int .i64 r, .string wd, .int .i64 0], .int .i64 n, .int .i64 e]) := rfl
def tokP (s : ByteArray) : Tk := if plainB ((Lib.decodeGo s).1 : Int) then (1, ((Lib.decodeGo s).1 : Int), ⟨#[]⟩, ((Lib.decodeGo s).2 : Int), 0) else tkNo 0
theorem decodeGo_le (s : ByteArray) : (Lib.decodeGo s).1 ≤ 1114111 := by
  unfold Lib.decodeGo
  split
  · decide
  · exact Lib.rune_le _ _
theorem tok_block {w w2 : World} {o : Obj} (h : Below (w.alloc o).heap.size (w.alloc o) w2) : w2.heap[w.heap.size]? = some o :=
  (h.block w.heap.size (by simp)).trans (heap_alloc_new w _)
set_option maxHeartbeats 4000000 in
theorem plainRune_calls (s : ByteArray) (w : World) (hT : LexTabs w) : Calls Tryd.prog 35 #[.string s] w fun e w' => e = TokE (tokP s) ∧ Below w.heap.size w w' := by
  have HD := Lib.hid (fun (w' : World) (hb : Below w.heap.size w w') => Tryd.utf8_DecodeRuneInString s w' (hT.below hb).1)
  have hle := decodeGo_le s
  have hP : tokP s = if plainB ((Lib.decodeGo s).1 : Int) then (1, ((Lib.decodeGo s).1 : Int), ⟨#[]⟩, ((Lib.decodeGo s).2 : Int), 0) else tkNo 0 := rfl
  obtain ⟨r, hr⟩ : ∃ r : Int, ((Lib.decodeGo s).1 : Int) = r := ⟨_, rfl⟩
  obtain ⟨n, hn⟩ : ∃ n : Int, ((Lib.decodeGo s).2 : Int) = n := ⟨_, rfl⟩
  rw [hr, hn] at HD hP
  have HC := Lib.hid (plain_calls r)
  have wr : IntKind.i64.wrap r = r := IntWalk.i64_in _ (by omega)
  generalize plainB r = b at HC hP
  have HP := Lib.hid hP
  clear hP hr hn hle hT
  go_enter Tryd.func35, Tryd.ntmps35
  go_wp2_with fail
  refine (HD.out _ ((Below.refl _ w).alloc (Nat.le_refl _) _)).mono ?_
  rintro e w1 ⟨rfl, hb1⟩
  have HB1 := Lib.hid hb1
  clear hb1
  go_wp2_with fail
  refine (HC.out w1).mono ?_
  rintro e w2 ⟨rfl, hb2⟩
  have HB := Lib.hid (HB1.out.trans (hb2.mono HB1.out.size))
  have hblk := tok_block HB.out
  have q0 : w2.cell? ⟨w.heap.size, 0, none⟩ = some (.int .i64 0) := Joins.cell_of_block hblk 0
  have f0 : w2.frozen? ⟨w.heap.size, 0, none⟩ = false := Joins.unfrozen_of_block hblk 0
  have q1 : w2.cell? ⟨w.heap.size, 1, none⟩ = some (.int .i64 0) := Joins.cell_of_block hblk 1
  have f1 : w2.frozen? ⟨w.heap.size, 1, none⟩ = false := Joins.unfrozen_of_block hblk 1
  have q2 : w2.cell? ⟨w.heap.size, 2, none⟩ = some (.string ⟨#[]⟩) := Joins.cell_of_block hblk 2
  have f2 : w2.frozen? ⟨w.heap.size, 2, none⟩ = false := Joins.unfrozen_of_block hblk 2
  have q3 : w2.cell? ⟨w.heap.size, 3, none⟩ = some (.int .i64 0) := Joins.cell_of_block hblk 3
  have f3 : w2.frozen? ⟨w.heap.size, 3, none⟩ = false := Joins.unfrozen_of_block hblk 3
  clear hb2 HB1 HC HD hblk
  cases b
  · go_wp2_with fail
    rw [HP.out]
    refine bodyPost_ret (v := .tuple #[.agg #[.int .i64 0, .int .i64 0, .string ⟨#[]⟩, .int .i64 0], .int .i64 0, .int .i64 0]) (by simp [results, Tryd.results35, go_sem, q0, q1, q2, q3]) rfl ⟨rfl, ?_⟩
    exact ((((((Below.refl w.heap.size w).alloc (Nat.le_refl _) _).trans (HB.out.mono (by simp))).setCell (Nat.le_refl _) _).setCell (Nat.le_refl _) _).setCell (Nat.le_refl _) _).setCell (Nat.le_refl _) _
  · go_wp2_with fail
    rw [HP.out]
    refine bodyPost_ret (v := .tuple #[.agg #[.int .i64 1, .int .i64 r, .string ⟨#[]⟩, .int .i64 0], .int .i64 n, .int .i64 0]) (by simp [results, Tryd.results35, go_sem, q0, q1, q2, q3]) rfl ⟨rfl, ?_⟩
    exact ((((((Below.refl w.heap.size w).alloc (Nat.le_refl _) _).trans (HB.out.mono (by simp))).setCell (Nat.le_refl _) _).setCell (Nat.le_refl _) _).setCell (Nat.le_refl _) _).setCell (Nat.le_refl _) _
/-! ### a sign -/
def bAt (s : ByteArray) (i : Nat) : Nat := (s.data.toList.getD i 0).toNat
def tokG (s : ByteArray) : Tk := if signR (bAt s 0) then (3, (bAt s 0 : Int), ⟨#[]⟩, 1, 0) else tkNo 0
theorem bAt_get (s : ByteArray) (i : Nat) (h : i < s.size) : (s[i]'h).toNat = bAt s i := by
  unfold bAt
  rw [List.getD_eq_getElem?_getD, List.getElem?_eq_getElem (by simpa using h), Array.getElem_toList]
  rfl
theorem bytes_ext1 {a b : ByteArray} (h : a.data.toList = b.data.toList) : a = b := by
  cases a; cases b; simp only at h; congr 1; exact Array.toList_inj.1 h
theorem cut_bytes1 (s : ByteArray) (i j : Nat) : (s.extract i j).data.toList = (s.data.toList.drop i).take (j - i) := by
  rw [ByteArray.data_extract, Array.toList_extract, List.extract_eq_take_drop]
theorem bAt_lt (s : ByteArray) (i : Nat) : bAt s i < 256 := UInt8.toNat_lt _
theorem ext_one (s : ByteArray) (i : Nat) (h : i < s.size) : s.extract i (i + 1) = ⟨#[(s[i]'h)]⟩ := by
  refine bytes_ext1 ?_
  rw [cut_bytes1, Nat.add_sub_cancel_left]
  have hl : i < s.data.toList.length := by simpa using h
  rw [List.drop_eq_getElem_cons hl, List.take_succ_cons, List.take_zero, Array.getElem_toList]
  rfl
theorem contains_sign (s : ByteArray) (i : Nat) (h : i < s.size) (w : World) : Calls Tryd.prog 49 #[.string ⟨#[123, 125, 94, 95, 38]⟩, .string (s.extract i (i + 1))] w fun e w' => e = .returned (.bool (signR (bAt s i))) ∧ w = w' := by
  rw [ext_one s i h]
  refine (Tryd.strings_Contains_one ⟨#[123, 125, 94, 95, 38]⟩ (s[i]'h) w).mono ?_
  rintro e w' ⟨rfl, rfl⟩
  refine ⟨?_, rfl⟩
  rw [← bAt_get s i h]
  have : ∀ c : UInt8, decide (0 ≤ Lib.indexByte (⟨#[123, 125, 94, 95, 38]⟩ : ByteArray).data.toList c) = signR (c.toNat : Int) := by
    intro c
    have h := (by decide +kernel : ∀ c : Fin 256, decide (0 ≤ Lib.indexByte (⟨#[123, 125, 94, 95, 38]⟩ : ByteArray).data.toList (UInt8.ofNat c.val)) = signR (c.val : Int))
    have := h ⟨c.toNat, c.toNat_lt⟩
    simpa using this
  rw [this]
set_option maxHeartbeats 4000000 in
theorem sign_tok (s : ByteArray) (hs : 0 < s.size) (w : World) : Calls Tryd.prog 36 #[.string s] w fun e w' => e = TokE (tokG s) ∧ Below w.heap.size w w' := by
  have HC := Lib.hid (contains_sign s 0 hs)
  have hP : tokG s = if signR (bAt s 0) then (3, (bAt s 0 : Int), ⟨#[]⟩, 1, 0) else tkNo 0 := rfl
  have hx : ∀ h : 0 < s.size, ((s[0]'h).toNat : Int) = (bAt s 0 : Int) := fun h => by rw [bAt_get s 0 h]
  have p1 := eq_true (show (1 : Int) ≤ (s.size : Int) by omega)
  have p2 := eq_true (show (0 : Int) < (s.size : Int) by omega)
  have p3 := eq_true hs
  have hlt := bAt_lt s 0
  generalize bAt s 0 = x at HC hP hx hlt
  obtain ⟨r, hr⟩ : ∃ r : Int, (x : Int) = r := ⟨_, rfl⟩
  rw [hr] at HC hP hx
  have wr : IntKind.i64.wrap r = r := IntWalk.i64_in _ (by omega)
  generalize signR r = b at HC hP
  have HP := Lib.hid hP
  clear hP hr hs hlt
  cases b
  · go_enter Tryd.func36, Tryd.ntmps36
    go_wp2_with (go_at_call 49; refine (HC.out _).mono ?_; rintro e w1 ⟨rfl, rfl⟩)
    rw [HP.out]
    refine bodyPost_ret (v := .tuple #[.agg #[.int .i64 0, .int .i64 0, .string ⟨#[]⟩, .int .i64 0], .int .i64 0, .int .i64 0]) (by simp [results, Tryd.results36, go_sem]) rfl ⟨rfl, ?_⟩
    exact ((Below.refl w.heap.size w).alloc (Nat.le_refl _) _)
  · go_enter Tryd.func36, Tryd.ntmps36
    go_wp2_with (go_at_call 49; refine (HC.out _).mono ?_; rintro e w1 ⟨rfl, rfl⟩)
    rw [HP.out]
    refine bodyPost_ret (v := .tuple #[.agg #[.int .i64 3, .int .i64 r, .string ⟨#[]⟩, .int .i64 0], .int .i64 1, .int .i64 0]) (by simp [results, Tryd.results36, go_sem]) rfl ⟨rfl, ?_⟩
    exact ((Below.refl w.heap.size w).alloc (Nat.le_refl _) _)
/-! ### behind a backslash -/
def tokB (s : ByteArray) : Tk := if bAt s 0 ≠ 92 ∨ s.size < 2 then tkNo 0 else if bAt s 1 = 92 then (4, 0, ⟨#[]⟩, 2, 0) else if signR (bAt s 1) = true ∨ bAt s 1 = 37 then (1, (bAt s 1 : Int), ⟨#[]⟩, 2, 0) else tkNo 0
theorem bent_no (s : ByteArray) (hs : 0 < s.size) (h : bAt s 0 ≠ 92 ∨ s.size < 2) (w : World) : Calls Tryd.prog 37 #[.string s] w fun e w' => e = TokE (tkNo 0) ∧ Below w.heap.size w w' := by
  have hx : ∀ h : 0 < s.size, ((s[0]'h).toNat : Int) = (bAt s 0 : Int) := fun h => by rw [bAt_get s 0 h]
  have p2 := eq_true (show (0 : Int) < (s.size : Int) by omega)
  have p3 := eq_true hs
  generalize bAt s 0 = x at h hx
  obtain ⟨r, hr⟩ : ∃ r : Int, (x : Int) = r := ⟨_, rfl⟩
  rw [hr] at hx
  by_cases h0 : x = 92
  · have d1 : (r != 92) = false := bne_eq_false_iff_eq.mpr (by omega)
    have d2 : decide ((s.size : Int) < 2) = true := decide_eq_true (by omega)
    have d3 : decide (s.size < 2) = true := decide_eq_true (by omega)
    clear hr hs h h0
    go_enter Tryd.func37, Tryd.ntmps37
    go_wp2_with fail
    refine bodyPost_ret (v := .tuple #[.agg #[.int .i64 0, .int .i64 0, .string ⟨#[]⟩, .int .i64 0], .int .i64 0, .int .i64 0]) (by simp [results, Tryd.results37, go_sem]) rfl ⟨rfl, ?_⟩
    exact ((Below.refl w.heap.size w).alloc (Nat.le_refl _) _)
  · have d1 : (r != 92) = true := bne_iff_ne.mpr (by omega)
    clear hr hs h h0
    go_enter Tryd.func37, Tryd.ntmps37
    go_wp2_with fail
    refine bodyPost_ret (v := .tuple #[.agg #[.int .i64 0, .int .i64 0, .string ⟨#[]⟩, .int .i64 0], .int .i64 0, .int .i64 0]) (by simp [results, Tryd.results37, go_sem]) rfl ⟨rfl, ?_⟩
    exact ((Below.refl w.heap.size w).alloc (Nat.le_refl _) _)
theorem bent_yes (s : ByteArray) (hs : 2 ≤ s.size) (h : bAt s 0 = 92) (w : World) : Calls Tryd.prog 37 #[.string s] w fun e w' => e = TokE (tokB s) ∧ Below w.heap.size w w' := by
  have HC := Lib.hid (contains_sign s 1 (by omega))
  have hP : tokB s = if bAt s 1 = 92 then (4, 0, ⟨#[]⟩, 2, 0) else if signR (bAt s 1) = true ∨ bAt s 1 = 37 then (1, (bAt s 1 : Int), ⟨#[]⟩, 2, 0) else tkNo 0 := by
    unfold tokB
    rw [if_neg (show ¬ (bAt s 0 ≠ 92 ∨ s.size < 2) by omega)]
  have hx : ∀ h : 0 < s.size, ((s[0]'h).toNat : Int) = (bAt s 0 : Int) := fun h => by rw [bAt_get s 0 h]
  have hy : ∀ h : 1 < s.size, ((s[1]'h).toNat : Int) = (bAt s 1 : Int) := fun h => by rw [bAt_get s 1 h]
  have p1 := eq_true (show (1 : Int) ≤ (s.size : Int) by omega)
  have p2 := eq_true (show (0 : Int) < (s.size : Int) by omega)
  have p3 := eq_true (show 0 < s.size by omega)
  have p4 := eq_true (show (1 : Int) < (s.size : Int) by omega)
  have p5 := eq_true (show 1 < s.size by omega)
  have p6 := eq_true (show (2 : Int) ≤ (s.size : Int) by omega)
  have d2 : decide ((s.size : Int) < 2) = false := decide_eq_false (by omega)
  have d3 : decide (s.size < 2) = false := decide_eq_false (by omega)
  rw [h] at hx
  have hlt := bAt_lt s 1
  generalize bAt s 1 = x at HC hP hy hlt
  obtain ⟨r, hr⟩ : ∃ r : Int, (x : Int) = r := ⟨_, rfl⟩
  rw [hr] at HC hP hy
  have wr : IntKind.i64.wrap r = r := IntWalk.i64_in _ (by omega)
  clear hlt
  generalize signR r = b at HC hP
  by_cases h0 : x = 92
  · have e1 : (r == 92) = true := beq_iff_eq.mpr (by omega)
    rw [if_pos h0] at hP
    have HP := Lib.hid hP
    clear hP hr hs h h0
    go_enter Tryd.func37, Tryd.ntmps37
    go_wp2_with fail
    rw [HP.out]
    refine bodyPost_ret (v := .tuple #[.agg #[.int .i64 4, .int .i64 0, .string ⟨#[]⟩, .int .i64 0], .int .i64 2, .int .i64 0]) (by simp [results, Tryd.results37, go_sem]) rfl ⟨rfl, ?_⟩
    exact ((Below.refl w.heap.size w).alloc (Nat.le_refl _) _)
  rw [if_neg h0] at hP
  have e1 : (r == 92) = false := beq_eq_false_iff_ne.mpr (by omega)
  cases b with
  | true =>
    rw [if_pos (.inl rfl)] at hP
    have HP := Lib.hid hP
    clear hP hr hs h h0
    go_enter Tryd.func37, Tryd.ntmps37
    go_wp2_with (go_at_call 49; refine (HC.out _).mono ?_; rintro e w1 ⟨rfl, rfl⟩)
    rw [HP.out]
    refine bodyPost_ret (v := .tuple #[.agg #[.int .i64 1, .int .i64 r, .string ⟨#[]⟩, .int .i64 0], .int .i64 2, .int .i64 0]) (by simp [results, Tryd.results37, go_sem]) rfl ⟨rfl, ?_⟩
    exact ((Below.refl w.heap.size w).alloc (Nat.le_refl _) _)
  | false =>
  by_cases h7 : x = 37
  · have e2 : (r == 37) = true := beq_iff_eq.mpr (by omega)
    rw [if_pos (.inr h7)] at hP
    have HP := Lib.hid hP
    clear hP hr hs h h0 h7
    go_enter Tryd.func37, Tryd.ntmps37
    go_wp2_with (go_at_call 49; refine (HC.out _).mono ?_; rintro e w1 ⟨rfl, rfl⟩)
    rw [HP.out]
    refine bodyPost_ret (v := .tuple #[.agg #[.int .i64 1, .int .i64 r, .string ⟨#[]⟩, .int .i64 0], .int .i64 2, .int .i64 0]) (by simp [results, Tryd.results37, go_sem]) rfl ⟨rfl, ?_⟩
    exact ((Below.refl w.heap.size w).alloc (Nat.le_refl _) _)
  · have e2 : (r == 37) = false := beq_eq_false_iff_ne.mpr (by omega)
    rw [if_neg (by rintro (h | h); cases h; exact h7 h)] at hP
    have HP := Lib.hid hP
    clear hP hr hs h h0 h7
    go_enter Tryd.func37, Tryd.ntmps37
    go_wp2_with (go_at_call 49; refine (HC.out _).mono ?_; rintro e w1 ⟨rfl, rfl⟩)
    rw [HP.out]
    refine bodyPost_ret (v := .tuple #[.agg #[.int .i64 0, .int .i64 0, .string ⟨#[]⟩, .int .i64 0], .int .i64 0, .int .i64 0]) (by simp [results, Tryd.results37, go_sem]) rfl ⟨rfl, ?_⟩
    exact ((Below.refl w.heap.size w).alloc (Nat.le_refl _) _)
theorem bent_calls (s : ByteArray) (hs : 0 < s.size) (w : World) : Calls Tryd.prog 37 #[.string s] w fun e w' => e = TokE (tokB s) ∧ Below w.heap.size w w' := by
  by_cases h : bAt s 0 ≠ 92 ∨ s.size < 2
  · have hP : tokB s = tkNo 0 := by unfold tokB; rw [if_pos h]
    rw [hP]
    exact bent_no s hs h w
  · exact bent_yes s (by omega) (by omega) w
/-! ### a word -/
def tokW (s : ByteArray) : Tk := if bAt s 0 ≠ 92 then tkNo 0 else if lettersS (s.extract 1 s.size) = 0 then tkNo 0 else if 32 < lettersS (s.extract 1 s.size) then tkNo 7 else (2, 0, s.extract 1 (lettersS (s.extract 1 s.size) + 1), ((lettersS (s.extract 1 s.size) : Int) + 1), 0)
theorem lettersS_le (s : ByteArray) : lettersS s ≤ s.size := by
  unfold lettersS
  refine Nat.le_trans (List.takeWhile_sublist _).length_le ?_
  simp
set_option maxHeartbeats 4000000 in
theorem word_calls (s : ByteArray) (hs : 0 < s.size) (hz : s.size ≤ 1000000000) (w : World) : Calls Tryd.prog 38 #[.string s] w fun e w' => e = TokE (tokW s) ∧ Below w.heap.size w w' := by
  have HL := Lib.hid (letters_calls (s.extract 1 s.size))
  have hle := lettersS_le (s.extract 1 s.size)
  rw [ByteArray.size_extract] at hle
  have hP : tokW s = if bAt s 0 ≠ 92 then tkNo 0 else if lettersS (s.extract 1 s.size) = 0 then tkNo 0 else if 32 < lettersS (s.extract 1 s.size) then tkNo 7 else (2, 0, s.extract 1 (lettersS (s.extract 1 s.size) + 1), ((lettersS (s.extract 1 s.size) : Int) + 1), 0) := rfl
  have hx : ∀ h : 0 < s.size, ((s[0]'h).toNat : Int) = (bAt s 0 : Int) := fun h => by rw [bAt_get s 0 h]
  have p1 := eq_true (show (1 : Int) ≤ (s.size : Int) by omega)
  have p2 := eq_true (show (0 : Int) < (s.size : Int) by omega)
  have p3 := eq_true hs
  generalize bAt s 0 = x at hP hx
  obtain ⟨r, hr⟩ : ∃ r : Int, (x : Int) = r := ⟨_, rfl⟩
  rw [hr] at hx
  generalize lettersS (s.extract 1 s.size) = m at HL hP hle
  by_cases h0 : x ≠ 92
  · have d1 : (r != 92) = true := bne_iff_ne.mpr (by omega)
    rw [if_pos h0] at hP
    have HP := Lib.hid hP
    clear hP hr hs h0 hle hz
    go_enter Tryd.func38, Tryd.ntmps38
    go_wp2_with fail
    rw [HP.out]
    refine bodyPost_ret (v := .tuple #[.agg #[.int .i64 0, .int .i64 0, .string ⟨#[]⟩, .int .i64 0], .int .i64 0, .int .i64 0]) (by simp [results, Tryd.results38, go_sem]) rfl ⟨rfl, ?_⟩
    exact ((Below.refl w.heap.size w).alloc (Nat.le_refl _) _)
  have d1 : (r != 92) = false := bne_eq_false_iff_eq.mpr (by omega)
  rw [if_neg h0] at hP
  obtain ⟨M, hM⟩ : ∃ M : Int, (m : Int) = M := ⟨_, rfl⟩
  rw [hM] at HL hP
  by_cases h1 : m = 0
  · have e1 : (M == 0) = true := beq_iff_eq.mpr (by omega)
    rw [if_pos h1] at hP
    have HP := Lib.hid hP
    clear hP hr hs h0 hle hz h1 hM
    go_enter Tryd.func38, Tryd.ntmps38
    go_wp2_with fail
    refine (HL.out _).mono ?_
    rintro e w2 ⟨rfl, hb⟩
    have HB := Lib.hid hb
    have hblk := tok_block hb
    have q0 : w2.cell? ⟨w.heap.size, 0, none⟩ = some (.int .i64 0) := Joins.cell_of_block hblk 0
    have f0 : w2.frozen? ⟨w.heap.size, 0, none⟩ = false := Joins.unfrozen_of_block hblk 0
    have q1 : w2.cell? ⟨w.heap.size, 1, none⟩ = some (.int .i64 0) := Joins.cell_of_block hblk 1
    have f1 : w2.frozen? ⟨w.heap.size, 1, none⟩ = false := Joins.unfrozen_of_block hblk 1
    have q2 : w2.cell? ⟨w.heap.size, 2, none⟩ = some (.string ⟨#[]⟩) := Joins.cell_of_block hblk 2
    have f2 : w2.frozen? ⟨w.heap.size, 2, none⟩ = false := Joins.unfrozen_of_block hblk 2
    have q3 : w2.cell? ⟨w.heap.size, 3, none⟩ = some (.int .i64 0) := Joins.cell_of_block hblk 3
    have f3 : w2.frozen? ⟨w.heap.size, 3, none⟩ = false := Joins.unfrozen_of_block hblk 3
    clear hb hblk
    go_wp2_with fail
    rw [HP.out]
    refine bodyPost_ret (v := .tuple #[.agg #[.int .i64 0, .int .i64 0, .string ⟨#[]⟩, .int .i64 0], .int .i64 0, .int .i64 0]) (by simp [results, Tryd.results38, go_sem, q0, q1, q2, q3]) rfl ⟨rfl, ?_⟩
    exact ((((((Below.refl w.heap.size w).alloc (Nat.le_refl _) _).trans (HB.out.mono (by simp))).setCell (Nat.le_refl _) _).setCell (Nat.le_refl _) _).setCell (Nat.le_refl _) _).setCell (Nat.le_refl _) _
  have e1 : (M == 0) = false := beq_eq_false_iff_ne.mpr (by omega)
  rw [if_neg h1] at hP
  by_cases h2 : 32 < m
  · have e2 : decide (32 < M) = true := decide_eq_true (by omega)
    rw [if_pos h2] at hP
    have HP := Lib.hid hP
    clear hP hr hs h0 hle hz h1 h2 hM
    go_enter Tryd.func38, Tryd.ntmps38
    go_wp2_with fail
    refine (HL.out _).mono ?_
    rintro e w2 ⟨rfl, hb⟩
    have HB := Lib.hid hb
    have hblk := tok_block hb
    have q0 : w2.cell? ⟨w.heap.size, 0, none⟩ = some (.int .i64 0) := Joins.cell_of_block hblk 0
    have f0 : w2.frozen? ⟨w.heap.size, 0, none⟩ = false := Joins.unfrozen_of_block hblk 0
    have q1 : w2.cell? ⟨w.heap.size, 1, none⟩ = some (.int .i64 0) := Joins.cell_of_block hblk 1
    have f1 : w2.frozen? ⟨w.heap.size, 1, none⟩ = false := Joins.unfrozen_of_block hblk 1
    have q2 : w2.cell? ⟨w.heap.size, 2, none⟩ = some (.string ⟨#[]⟩) := Joins.cell_of_block hblk 2
    have f2 : w2.frozen? ⟨w.heap.size, 2, none⟩ = false := Joins.unfrozen_of_block hblk 2
    have q3 : w2.cell? ⟨w.heap.size, 3, none⟩ = some (.int .i64 0) := Joins.cell_of_block hblk 3
    have f3 : w2.frozen? ⟨w.heap.size, 3, none⟩ = false := Joins.unfrozen_of_block hblk 3
    clear hb hblk
    go_wp2_with fail
    rw [HP.out]
    refine bodyPost_ret (v := .tuple #[.agg #[.int .i64 0, .int .i64 0, .string ⟨#[]⟩, .int .i64 0], .int .i64 0, .int .i64 7]) (by simp [results, Tryd.results38, go_sem, q0, q1, q2, q3]) rfl ⟨rfl, ?_⟩
    exact ((((((Below.refl w.heap.size w).alloc (Nat.le_refl _) _).trans (HB.out.mono (by simp))).setCell (Nat.le_refl _) _).setCell (Nat.le_refl _) _).setCell (Nat.le_refl _) _).setCell (Nat.le_refl _) _
  · have e2 : decide (32 < M) = false := decide_eq_false (by omega)
    rw [if_neg h2] at hP
    have wr1 : IntKind.i64.wrap (M + 1) = M + 1 := IntWalk.i64_in _ (by omega)
    have q4 := eq_true (show 1 ≤ M + 1 by omega)
    have q5 := eq_true (show M + 1 ≤ (s.size : Int) by omega)
    have q6 := eq_true (show 0 ≤ M by omega)
    have hX : s.extract 1 (M + 1).toNat = s.extract 1 (m + 1) := by congr 1; omega
    rw [← hX] at hP
    have HP := Lib.hid hP
    clear hP hr hs h0 hle hz h1 h2 hM hX
    go_enter Tryd.func38, Tryd.ntmps38
    go_wp2_with fail
    refine (HL.out _).mono ?_
    rintro e w2 ⟨rfl, hb⟩
    have HB := Lib.hid hb
    have hblk := tok_block hb
    have q0 : w2.cell? ⟨w.heap.size, 0, none⟩ = some (.int .i64 0) := Joins.cell_of_block hblk 0
    have f0 : w2.frozen? ⟨w.heap.size, 0, none⟩ = false := Joins.unfrozen_of_block hblk 0
    have q1 : w2.cell? ⟨w.heap.size, 1, none⟩ = some (.int .i64 0) := Joins.cell_of_block hblk 1
    have f1 : w2.frozen? ⟨w.heap.size, 1, none⟩ = false := Joins.unfrozen_of_block hblk 1
    have q2 : w2.cell? ⟨w.heap.size, 2, none⟩ = some (.string ⟨#[]⟩) := Joins.cell_of_block hblk 2
    have f2 : w2.frozen? ⟨w.heap.size, 2, none⟩ = false := Joins.unfrozen_of_block hblk 2
    have q3 : w2.cell? ⟨w.heap.size, 3, none⟩ = some (.int .i64 0) := Joins.cell_of_block hblk 3
    have f3 : w2.frozen? ⟨w.heap.size, 3, none⟩ = false := Joins.unfrozen_of_block hblk 3
    clear hb hblk
    go_wp2_with fail
    rw [HP.out]
    refine bodyPost_ret (v := .tuple #[.agg #[.int .i64 2, .int .i64 0, .string (s.extract 1 (M + 1).toNat), .int .i64 0], .int .i64 (M + 1), .int .i64 0]) (by simp [results, Tryd.results38, go_sem, q0, q1, q2, q3]) rfl ⟨rfl, ?_⟩
    exact ((((((Below.refl w.heap.size w).alloc (Nat.le_refl _) _).trans (HB.out.mono (by simp))).setCell (Nat.le_refl _) _).setCell (Nat.le_refl _) _).setCell (Nat.le_refl _) _).setCell (Nat.le_refl _) _
end Go.Proofs.YtplkdfkahcpoeaaDoor.P
