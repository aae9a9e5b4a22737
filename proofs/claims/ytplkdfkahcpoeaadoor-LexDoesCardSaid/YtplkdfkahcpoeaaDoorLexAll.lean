/- lex.All, walked: a source's tokens. Condition: the library's tables stand. -/
import Derived.Test.YtplkdfkahcpoeaaDoorLexQuote
namespace Go.Proofs.YtplkdfkahcpoeaaDoor.P
open Go.Shelf Go.RowKit Go.Proofs.YtplkdfkahcpoeaaDoorW.PrintWords Go.Proofs.YtplkdfkahcpoeaaDoorW.PrintLast Go.Proofs.YtplkdfkahcpoeaaDoorW.PrintMore
set_option linter.unusedVariables false
set_option linter.unusedSimpArgs false
set_option maxRecDepth 100000
def sufS (s : ByteArray) (p : Nat) : ByteArray := s.extract p s.size
def blankN (s : ByteArray) : Nat := s.size - (leftS s).size
abbrev Toks := List S37 × Int × Int
def allF (s : ByteArray) : Nat → Nat → Toks
  | 0, p => ([], p, 0)
  | f + 1, p => if p < s.size then
      if (nextS (sufS s p)).2.2.2.2 ≠ 0 then ([], p, (nextS (sufS s p)).2.2.2.2)
      else if (allF s f (p + (nextS (sufS s p)).2.2.2.1.toNat + blankN (sufS s (p + (nextS (sufS s p)).2.2.2.1.toNat)))).2.2 ≠ 0 then
        ([], (allF s f (p + (nextS (sufS s p)).2.2.2.1.toNat + blankN (sufS s (p + (nextS (sufS s p)).2.2.2.1.toNat)))).2)
      else (⟨(nextS (sufS s p)).1, (nextS (sufS s p)).2.1, (nextS (sufS s p)).2.2.1, p⟩ :: (allF s f (p + (nextS (sufS s p)).2.2.2.1.toNat + blankN (sufS s (p + (nextS (sufS s p)).2.2.2.1.toNat)))).1,
        (allF s f (p + (nextS (sufS s p)).2.2.2.1.toNat + blankN (sufS s (p + (nextS (sufS s p)).2.2.2.1.toNat)))).2.1, 0)
    else ([], p, 0)
def combT (acc : List S37) (X : Toks) : Toks := if X.2.2 ≠ 0 then ([], X.2.1, X.2.2) else (acc ++ X.1, X.2.1, 0)
def allS (s : ByteArray) : Toks := if 65536 < s.size then ([], 0, 7) else if (runesS s).2 ≠ 0 then ([], 0, (runesS s).2) else allF s (s.size + 1) (blankN s)
theorem allF_end (s : ByteArray) (f p : Nat) (h : ¬ p < s.size) : allF s f p = ([], (p : Int), 0) := by
  cases f with
  | zero => rfl
  | succ f => rw [allF, if_neg h]
theorem comb_end (acc : List S37) (p : Int) : combT acc ([], p, 0) = (acc, p, 0) := by
  unfold combT
  simp
theorem allF_err (s : ByteArray) (f p : Nat) (k r : Int) (wd : ByteArray) (n e : Int) (h : p < s.size) (hT : nextS (sufS s p) = (k, r, wd, n, e)) (he : e ≠ 0) (acc : List S37) : combT acc (allF s (f + 1) p) = ([], (p : Int), e) := by
  rw [allF, if_pos h, hT, if_pos he]
  unfold combT
  rw [if_pos he]
theorem allF_step (s : ByteArray) (f p : Nat) (k r : Int) (wd : ByteArray) (n : Int) (h : p < s.size) (hT : nextS (sufS s p) = (k, r, wd, n, 0)) (q : Nat) (hq : p + n.toNat + blankN (sufS s (p + n.toNat)) = q) (acc : List S37) :
    combT acc (allF s (f + 1) p) = combT (acc ++ [⟨k, r, wd, (p : Int)⟩]) (allF s f q) := by
  rw [allF, if_pos h, hT]
  simp only [ne_eq, not_true_eq_false, if_false]
  rw [hq]
  unfold combT
  by_cases h2 : (allF s f q).2.2 = 0
  · simp [h2]
  · simp [h2]
theorem allF_nil (s : ByteArray) : ∀ (f p : Nat), (allF s f p).2.2 ≠ 0 → (allF s f p).1 = []
  | 0, p, h => absurd rfl h
  | f + 1, p, h => by
    rw [allF] at h ⊢
    split at h
    · rename_i h1
      rw [if_pos h1]
      split at h
      · rename_i h2; rw [if_pos h2]
      · rename_i h2
        rw [if_neg h2]
        split at h
        · rename_i h3; rw [if_pos h3]
        · exact absurd rfl h
    · exact absurd rfl h
theorem comb_nil (X : Toks) (h : X.2.2 ≠ 0 → X.1 = []) : combT [] X = X := by
  unfold combT
  obtain ⟨a, b, c⟩ := X
  by_cases h2 : c = 0
  · simp [h2]
  · have := h h2
    simp only at this
    simp [h2, this]
/-! ### what a reader takes lies inside the text -/
theorem tokNo_n (e : Int) : (tkNo e).2.2.2.1 = 0 := rfl
theorem decodeGo_two (s : ByteArray) (h : 0 < s.size) : 1 ≤ (Lib.decodeGo s).2 ∧ (Lib.decodeGo s).2 ≤ s.size := by
  have hs : s.size ≠ 0 := by omega
  have e : Lib.decodeGo s = Lib.decodeL s.data.toList := by
    unfold Lib.decodeGo Lib.decodeL
    rw [if_neg hs]
  have hne : s.data.toList ≠ [] := by
    intro h2
    have : s.data.toList.length = 0 := by rw [h2]; rfl
    rw [Array.length_toList] at this
    exact hs this
  have h1 := Lib.decodeL_le s.data.toList hne
  have h2 := Lib.decodeL_width s.data.toList
  rw [e]
  rw [Array.length_toList] at h1
  exact ⟨h2, h1⟩
theorem nextS_in (s : ByteArray) (h : 0 < s.size) (he : (nextS s).2.2.2.2 = 0) : 1 ≤ (nextS s).2.2.2.1 ∧ (nextS s).2.2.2.1 ≤ (s.size : Int) := by
  have key : ∀ T : Tk, liveT T = true → T.2.2.2.2 = 0 → 1 ≤ T.2.2.2.1 := fun T hl h0 => by
    unfold liveT at hl
    rw [decide_eq_false (show ¬ T.2.2.2.2 ≠ 0 by simp [h0]), Bool.or_false, decide_eq_true_eq] at hl
    omega
  have bP : (tokP s).2.2.2.1 ≤ (s.size : Int) := by
    unfold tokP
    split
    · have := (decodeGo_two s h).2; show ((Lib.decodeGo s).2 : Int) ≤ _; omega
    · show (0 : Int) ≤ _; omega
  have bG : (tokG s).2.2.2.1 ≤ (s.size : Int) := by
    unfold tokG
    split
    · show (1 : Int) ≤ _; omega
    · show (0 : Int) ≤ _; omega
  have bB : (tokB s).2.2.2.1 ≤ (s.size : Int) := by
    unfold tokB
    split
    · show (0 : Int) ≤ _; omega
    · split
      · show (2 : Int) ≤ _; omega
      · split
        · show (2 : Int) ≤ _; omega
        · show (0 : Int) ≤ _; omega
  have bW : (tokW s).2.2.2.1 ≤ (s.size : Int) := by
    have hl := lettersS_le (s.extract 1 s.size)
    rw [ByteArray.size_extract] at hl
    unfold tokW
    split
    · show (0 : Int) ≤ _; omega
    · split
      · show (0 : Int) ≤ _; omega
      · split
        · show (0 : Int) ≤ _; omega
        · show ((lettersS (s.extract 1 s.size) : Int) + 1) ≤ _; omega
  unfold nextS nextT at he ⊢
  split at he
  · rename_i hl; rw [if_pos hl] at *; exact ⟨key _ hl he, bP⟩
  · rename_i hl
    rw [if_neg hl]
    split at he
    · rename_i hl; rw [if_pos hl] at *; exact ⟨key _ hl he, bG⟩
    · rename_i hl
      rw [if_neg hl]
      split at he
      · rename_i hl; rw [if_pos hl] at *; exact ⟨key _ hl he, bB⟩
      · rename_i hl
        rw [if_neg hl]
        split at he
        · rename_i hl; rw [if_pos hl] at *; exact ⟨key _ hl he, bW⟩
        · exact absurd he (by decide)
theorem sufS_size (s : ByteArray) (p : Nat) : (sufS s p).size = s.size - p := by
  unfold sufS
  rw [ByteArray.size_extract]
  omega
theorem blankN_le (s : ByteArray) : blankN s ≤ s.size := Nat.sub_le _ _
theorem Rbelow {α : Type} {d : Kd α} {e base : Nat} {ok : Nat → Prop} {w w1 : World} {v : Value} {xs : List α} (h : d.R e w base ok v xs) (hb : Below w.heap.size w w1) : d.R e w1 base ok v xs := Kd.R_below h hb
/-! ### the walk -/
theorem all_long (s : ByteArray) (h : 65536 < s.size) (w : World) : Calls Tryd.prog 8 #[.string s] w fun e w' => e = .returned (.tuple #[.slice none 0 0, .int .i64 0, .int .i64 7]) ∧ Below w.heap.size w w' := by
  have d1 : decide ((65536 : Int) < (s.size : Int)) = true := decide_eq_true (by omega)
  have d2 : decide (65536 < s.size) = true := decide_eq_true h
  clear h
  go_enter Tryd.func8, Tryd.ntmps8
  go_wp2_with fail
  go_ret3
  exact ⟨rfl, Below.refl _ _⟩
set_option maxHeartbeats 8000000 in
theorem all_bad (s : ByteArray) (h : s.size ≤ 65536) (e : Int) (h2 : e ≠ 0) (hr : (runesS s).2 = e) (w : World) (hT : LexTabs w) : Calls Tryd.prog 8 #[.string s] w fun e' w' => e' = .returned (.tuple #[.slice none 0 0, .int .i64 0, .int .i64 e]) ∧ Below w.heap.size w w' := by
  have HRN := Lib.hid (runes_calls s (by omega) w hT.1)
  rw [hr] at HRN
  have d1 : decide ((65536 : Int) < (s.size : Int)) = false := decide_eq_false (by omega)
  have d2 : decide (65536 < s.size) = false := decide_eq_false (by omega)
  have d3 : (e != 0) = true := bne_iff_ne.mpr h2
  clear h h2 hr hT
  go_enter Tryd.func8, Tryd.ntmps8
  go_wp2_with (go_at_call 16; refine HRN.out.mono ?_; rintro e w1 ⟨v, rfl, _, hb⟩)
  go_ret3
  exact ⟨rfl, hb⟩
theorem kindT : (Tryd.prog.info? 37).map (fun i => (i.zero, i.size, i.bytes)) = some (some (.agg #[(.int .i64 0), (.int .i64 0), (.string ⟨#[]⟩), (.int .i64 0)]), 4, 40) := by kernel_rfl
set_option maxHeartbeats 16000000 in
theorem all_main (s : ByteArray) (h : s.size ≤ 65536) (hr : (runesS s).2 = 0) (w : World) (hT : LexTabs w) (R : Toks) (hR : allF s (s.size + 1) (blankN s) = R) : Calls Tryd.prog 8 #[.string s] w fun e w' => ∃ v, e = .returned (.tuple #[v, .int .i64 R.2.1, .int .i64 R.2.2]) ∧ Kd.R k37 37 w' w.heap.size (fun _ => True) v R.1 ∧ Below w.heap.size w w' := by
  have HRN := Lib.hid (runes_calls s (by omega) w hT.1)
  rw [hr] at HRN
  have HTB := Lib.hid hT
  have d1 : decide ((65536 : Int) < (s.size : Int)) = false := decide_eq_false (by omega)
  have d2 : decide (65536 < s.size) = false := decide_eq_false (by omega)
  have HBL := Lib.hid (blank_calls s (by omega))
  have hbn : ((s.size - (leftS s).size : Nat) : Int) = (blankN s : Int) := rfl
  have hbl := blankN_le s
  rw [hbn] at HBL
  obtain ⟨p0, hp0⟩ : ∃ p0 : Int, (blankN s : Int) = p0 := ⟨_, rfl⟩
  rw [hp0] at HBL
  have HP0 := Lib.hid hp0
  have HS := Lib.hid h
  have HBN := Lib.hid hbl
  have HR := Lib.hid hR
  clear h hr hT hbn hbl hp0 hR
  go_enter Tryd.func8, Tryd.ntmps8
  go_wp2_with (go_at_call 16; refine HRN.out.mono ?_; rintro e w1 ⟨v, rfl, _, hb⟩; have HB1 := Lib.hid hb; clear hb)
  refine (HBL.out _).mono ?_
  rintro e w2 ⟨rfl, hb⟩
  have HB2 := Lib.hid (HB1.out.trans (hb.mono HB1.out.size))
  clear hb HBL HRN HB1
  go_wp2_with fail
  go_loopg [7, 8] (s.size + 1) (fun gk v7 v8 wr => ∃ (p : Int) (q f : Nat) (acc : List S37), v8 = .int .i64 p ∧ Hid ((q : Int) = p) ∧ Hid (Kd.R k37 37 wr w.heap.size (fun _ => True) v7 acc) ∧ Hid (Below w.heap.size w wr) ∧ Hid (combT acc (allF s f q) = R) ∧ Hid (q ≤ s.size ∧ acc.length ≤ q ∧ s.size + 1 ≤ q + f ∧ s.size + 1 ≤ q + gk))
  case atStart => exact ⟨p0, blankN s, s.size + 1, [], rfl, HP0, Lib.hid (Kd.R_nil _ _ _ _ _), HB2, Lib.hid (by rw [HR.out]; exact comb_nil _ (by rw [← HR.out]; exact allF_nil s _ _)), Lib.hid ⟨HBN.out, by simp, by omega, by omega⟩⟩
  case round =>
    obtain ⟨p, q, f, acc, rfl, HQ, HO, HB, HC, HN⟩ := hrel
    have hq := HQ.out
    by_cases h1 : p < (s.size : Int)
    · have c1 : decide (p < (s.size : Int)) = true := decide_eq_true h1
      have g1 := eq_true (show 0 ≤ p by omega)
      have g2 := eq_true (show p ≤ (s.size : Int) by omega)
      have hx : s.extract p.toNat s.size = sufS s q := by unfold sufS; congr 1; omega
      have hsz : (sufS s q).size = s.size - q := sufS_size s q
      obtain ⟨T, hTk⟩ : ∃ T, nextS (sufS s q) = T := ⟨_, rfl⟩
      have HNX := Lib.hid (fun w' hl => next_calls (s.extract p.toNat s.size) (by rw [hx, hsz]; omega) (by rw [hx, hsz]; have := HS.out; omega) w' hl)
      rw [hx, hTk] at HNX
      have hin : T.2.2.2.2 = 0 → 1 ≤ T.2.2.2.1 ∧ T.2.2.2.1 ≤ ((sufS s q).size : Int) := by
        intro h0
        rw [← hTk] at h0 ⊢
        exact nextS_in _ (by rw [hsz]; omega) h0
      rw [← hx] at HNX
      obtain ⟨k, r, wd, n, e⟩ := T
      simp only at hin
      simp only [TokE_eq] at HNX
      have HTK := Lib.hid hTk
      have hf0 : 0 < f := by have := HN.out; omega
      obtain ⟨f, rfl⟩ : ∃ m, f = m + 1 := ⟨f - 1, by omega⟩
      by_cases he : e = 0
      · subst he
        have hin2 := hin rfl
        rw [hsz] at hin2
        obtain ⟨p2, hp2⟩ : ∃ p2, p + n = p2 := ⟨_, rfl⟩
        have wr1 : IntKind.i64.wrap (p + n) = p2 := (IntWalk.i64_in _ (by have := HS.out; omega)).trans hp2
        have g3 := eq_true (show 0 ≤ p2 by omega)
        have g4 := eq_true (show p2 ≤ (s.size : Int) by omega)
        have hx2 : s.extract p2.toNat s.size = sufS s (q + n.toNat) := by unfold sufS; congr 1; omega
        have hsz2 : (sufS s (q + n.toNat)).size = s.size - (q + n.toNat) := sufS_size _ _
        have hbl2 := blankN_le (sufS s (q + n.toNat))
        have HBL := Lib.hid (blank_calls (s.extract p2.toNat s.size) (by rw [hx2, hsz2]; have := HS.out; omega))
        rw [show (((s.extract p2.toNat s.size).size - (leftS (s.extract p2.toNat s.size)).size : Nat) : Int) = (blankN (sufS s (q + n.toNat)) : Int) by rw [hx2]; rfl] at HBL
        obtain ⟨m, hm⟩ : ∃ m : Int, (blankN (sufS s (q + n.toNat)) : Int) = m := ⟨_, rfl⟩
        rw [hm] at HBL
        obtain ⟨p3, hp3⟩ : ∃ p3, p2 + m = p3 := ⟨_, rfl⟩
        have wr2 : IntKind.i64.wrap (p2 + m) = p3 := (IntWalk.i64_in _ (by have := HS.out; omega)).trans hp3
        have hq3 : ((q + n.toNat + blankN (sufS s (q + n.toNat)) : Nat) : Int) = p3 := by omega
        have HQ3 := Lib.hid hq3
        have HSTEP := Lib.hid ((allF_step s f q k r wd n (by omega) hTk _ rfl acc).symm.trans HC.out)
        have HLE := Lib.hid (show q + n.toNat + blankN (sufS s (q + n.toNat)) ≤ s.size ∧ q + 1 ≤ q + n.toNat + blankN (sufS s (q + n.toNat)) ∧ acc.length + 1 ≤ q + n.toNat + blankN (sufS s (q + n.toNat)) by have := HN.out; omega)
        have hl40 : (acc.length + 1) * 40 ≤ 140737488355328 := by have := HN.out; have := HS.out; omega
        have HL40 := Lib.hid hl40
        have HTw := Lib.hid (HTB.out.below HB.out)
        clear hin hin2 hx hsz hTk hx2 hsz2 hbl2 hm hp2 hp3 hq3 hq h1 hf0 hl40
        go_wp2_with fail
        refine (HNX.out _ HTw.out).mono ?_
        rintro e w3 ⟨rfl, hb3⟩
        have HO3 := Lib.hid (Rbelow HO.out hb3)
        have HB3 := Lib.hid (HB.out.trans (hb3.mono HB.out.size))
        clear hb3
        go_wp2_with (at_builtin; refine Kd.R_append k37 (w0 := w) w.heap.size rfl (.tmp 43) (.tmp 45) 22 37 (.agg #[(.int .i64 0), (.int .i64 0), (.string ⟨#[]⟩), (.int .i64 0)]) 40 rfl Tryd.underlying22 kindT rfl (by decide) (by decide) _ acc (⟨k, r, wd, p⟩ : S37) [.int .i64 k, .int .i64 r, .string wd, .int .i64 p] (fun _ => True) (fun _ => False) rfl (by first | (go_simp; done) | (go_simp; rfl)) (k37_mkM _ _ _ (⟨k, r, wd, p⟩ : S37)) (fun _ hk => hk.elim) (fun _ _ => trivial) (Kd.R_alloc HO3.out _) (HB3.out.alloc HB3.out.size _) (HB3.out.alloc HB3.out.size _).size HL40.out ?_; intro v4 w4 ho4 hb4 hg4 hat4; have HO4 := Lib.hid ho4; have HB4 := Lib.hid hb4; clear ho4 hb4 hg4 hat4)
        refine (HBL.out _).mono ?_
        rintro e w5 ⟨rfl, hb5⟩
        have HO5 := Lib.hid (Rbelow HO4.out hb5)
        have HB5 := Lib.hid (HB4.out.trans (hb5.mono HB4.out.size))
        clear hb5
        go_wp2_with fail
        go_roundg (s.size - q)
        case measure => have := HN.out; omega
        case rel => exact ⟨p3, _, f, acc ++ [⟨k, r, wd, p⟩], rfl, HQ3, HO5, HB5, Lib.hid (by rw [← HQ.out]; exact HSTEP.out), Lib.hid (by have := HN.out; have := HLE.out; rw [List.length_append]; simp; omega)⟩
      · have d3 : (e != 0) = true := bne_iff_ne.mpr he
        have HE := Lib.hid ((allF_err s f q k r wd n e (by omega) hTk he acc).symm.trans HC.out)
        have HTw := Lib.hid (HTB.out.below HB.out)
        clear hin hx hsz hTk hq h1 hf0 he
        go_wp2_with fail
        refine (HNX.out _ HTw.out).mono ?_
        rintro e w3 ⟨rfl, hb3⟩
        have HB3 := Lib.hid (HB.out.trans (hb3.mono HB.out.size))
        clear hb3
        go_wp2_with fail
        go_ret3
        rw [← HE.out]
        exact ⟨_, by rw [HQ.out]; rfl, Kd.R_nil _ _ _ _ _, HB3.out.alloc HB3.out.size _⟩
    · have c1 : decide (p < (s.size : Int)) = false := decide_eq_false h1
      have hE := HC.out
      rw [allF_end s f q (by omega), comb_end] at hE
      have HE := Lib.hid hE
      have hqs : (q : Int) = (s.size : Int) := by have := HN.out; omega
      have HQS := Lib.hid hqs
      clear hE hq h1 hqs
      go_wp2_with fail
      go_ret3
      rw [← HE.out]
      exact ⟨_, by rw [HQS.out]; rfl, HO.out, HB.out⟩
theorem all_calls (s : ByteArray) (w : World) (hT : LexTabs w) : Calls Tryd.prog 8 #[.string s] w fun e w' => ∃ v, e = .returned (.tuple #[v, .int .i64 (allS s).2.1, .int .i64 (allS s).2.2]) ∧ Kd.R k37 37 w' w.heap.size (fun _ => True) v (allS s).1 ∧ Below w.heap.size w w' := by
  unfold allS
  by_cases h : 65536 < s.size
  · rw [if_pos h]
    refine (all_long s h w).mono ?_
    rintro e w' ⟨rfl, hb⟩
    exact ⟨_, rfl, Kd.R_nil _ _ _ _ _, hb⟩
  · rw [if_neg h]
    by_cases h2 : (runesS s).2 = 0
    · rw [if_neg (by simp [h2])]
      exact all_main s (by omega) h2 w hT _ rfl
    · rw [if_pos h2]
      refine (all_bad s (by omega) _ h2 rfl w hT).mono ?_
      rintro e w' ⟨rfl, hb⟩
      exact ⟨_, rfl, Kd.R_nil _ _ _ _ _, hb⟩
end Go.Proofs.YtplkdfkahcpoeaaDoor.P
