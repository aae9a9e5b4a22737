/- Layer 19: the law LexDoes, walked: tokens, runes and quotes are the document's. Condition: the library's tables stand. -/
import Derived.Test.YtplkdfkahcpoeaaDoorLawP19
import Derived.Test.YtplkdfkahcpoeaaDoorLexRefAll
namespace Go.Proofs.YtplkdfkahcpoeaaDoor.P
open Go.Shelf Go.RowKit Go.Proofs.YtplkdfkahcpoeaaDoorW.PrintWords Go.Proofs.YtplkdfkahcpoeaaDoorW.PrintLast Go.Proofs.YtplkdfkahcpoeaaDoorW.PrintMore
set_option linter.unusedVariables false
set_option linter.unusedSimpArgs false
set_option maxRecDepth 100000
theorem R_own19 {w : World} {base : Nat} {v : Value} {e : Nat} {xs : List Int} (h : w.ownsRow base e 1 v xs.length (nums .i64 xs)) : Kd.R (Kd.int .i64) e w base (fun _ => True) v xs :=
  Kd.R_of_own h (fun _ _ => trivial)
theorem lruns_n (s : ByteArray) (L : List Int) (e : Int) (n : Nat) (hs : s.size ≤ 1000000000) (hr : runesS s = (L, e)) (hn : L.length = n) (w : World) (hT : LexTabs w) :
    Calls Tryd.prog 16 #[.string s] w fun e' w' => ∃ A c, e' = .returned (.tuple #[.slice A n c, .int .i64 e]) ∧ n ≤ c ∧ Kd.C (Kd.int .i64) w' A n L ∧ Below w.heap.size w w' := by
  have h := runes_calls s hs w hT.1
  rw [hr] at h
  refine h.mono ?_
  rintro e' w' ⟨v, rfl, ho, hb⟩
  obtain ⟨A, c, rfl, hc, hC⟩ := Kd.R_reads (R_own19 ho)
  rw [hn] at hc hC
  exact ⟨A, c, by rw [hn], hc, hC, hb⟩
theorem rruns_n (s : ByteArray) (L : List Int) (e : Int) (n : Nat) (hs : s.size ≤ 1000000000) (hr : runesS s = (L, e)) (hn : L.length = n) (w : World) :
    Calls Tryd.prog 17 #[.string s] w fun e' w' => ∃ A c, e' = .returned (.tuple #[.slice A n c, .int .i64 e]) ∧ n ≤ c ∧ Kd.C (Kd.int .i64) w' A n L ∧ Below w.heap.size w w' := by
  have hev := runes_same s hs
  rw [hr] at hev
  obtain ⟨k, hk⟩ := Ev.rounds hev
  refine (vinculumref19_Runes.calls k s L e w hk).mono ?_
  rintro e' w' ⟨v, rfl, ho, hb⟩
  obtain ⟨A, c, rfl, hc, hC⟩ := Kd.R_reads ho
  rw [hn] at hc hC
  exact ⟨A, c, by rw [hn], hc, hC, hb⟩
theorem rall_n (s : ByteArray) (L : List S37) (m e : Int) (n : Nat) (hs : s.size ≤ 70000) (hr : allS s = (L, m, e)) (hn : L.length = n) (w : World) :
    Calls Tryd.prog 9 #[.string s] w fun e' w' => ∃ A c, e' = .returned (.tuple #[.slice A n c, .int .i64 m, .int .i64 e]) ∧ n ≤ c ∧ Kd.C k37 w' A n L ∧ Below w.heap.size w w' := by
  have hev := all_same s hs
  rw [hr] at hev
  obtain ⟨k, hk⟩ := Ev.rounds hev
  refine (vinculumref19_All.calls k s L m e w hk).mono ?_
  rintro e' w' ⟨v, rfl, ho, hb⟩
  obtain ⟨A, c, rfl, hc, hC⟩ := Kd.R_reads ho
  rw [hn] at hc hC
  exact ⟨A, c, by rw [hn], hc, hC, hb⟩
theorem ints_l (l : List Int) (hl : l.length ≤ 1000000000) : ∀ n i : Nat, i + n = l.length → Ev (fun k => vinculumref03_Ints.l0 k l l (i : Int)) true
  | 0, i, h => Ev.step (f := fun _ => some true) (fun k => by rw [vinculumref03_Ints.l0, if_neg (by omega)]) (Ev.now _)
  | n + 1, i, h => by
    refine Ev.step (f := fun k => vinculumref03_Ints.l0 k l l ((i + 1 : Nat) : Int)) (fun k => ?_) (ints_l l hl n (i + 1) (by omega))
    rw [vinculumref03_Ints.l0, if_pos (by omega), if_pos (by omega), if_pos (by omega), if_pos rfl, show wrap64 ((i : Int) + 1) = ((i + 1 : Nat) : Int) by unfold wrap64; omega]
theorem ints_true (l : List Int) (hl : l.length ≤ 1000000000) : ∃ k, vinculumref03_Ints.f k l l = some true := by
  obtain ⟨k, hk⟩ := Ev.rounds (ints_l l hl l.length 0 (by omega))
  exact ⟨k, by unfold vinculumref03_Ints.f; rw [if_pos rfl]; exact hk⟩
theorem runesI_len (s : ByteArray) : ∀ f p : Nat, (runesI s f p).length ≤ f
  | 0, p => Nat.le_refl _
  | f + 1, p => by
    rw [runesI]
    split
    · have := runesI_len s f (p + (Utf8.decode s p).2); rw [List.length_cons]; omega
    · simp
theorem runesS_len (s : ByteArray) : (runesS s).1.length ≤ s.size := by
  unfold runesS
  split
  · exact runesI_len s _ _
  · simp
theorem does_long (s : ByteArray) (c : Int) (h : (1500 < s.size ∧ s.size ≤ 65536) ∨ 70000 < s.size) (w : World) : Calls Tryd.prog 3 #[.string s, .int .i64 c] w fun e w' => e = .returned (.bool true) ∧ Below w.heap.size w w' := by
  have d1 : decide ((1500 : Int) < (s.size : Int)) = true := decide_eq_true (by omega)
  have d2 : decide (1500 < s.size) = true := decide_eq_true (by omega)
  by_cases h1 : s.size ≤ 65536
  · have d3 : decide ((s.size : Int) ≤ 65536) = true := decide_eq_true (by omega)
    have d4 : decide (s.size ≤ 65536) = true := decide_eq_true h1
    clear h h1
    go_enter Tryd.func3, Tryd.ntmps3
    go_wp2_with fail
    go_ret
    exact ⟨rfl, Below.refl _ _⟩
  · have d3 : decide ((s.size : Int) ≤ 65536) = false := decide_eq_false (by omega)
    have d4 : decide (s.size ≤ 65536) = false := decide_eq_false h1
    have d5 : decide ((70000 : Int) < (s.size : Int)) = true := decide_eq_true (by omega)
    have d6 : decide (70000 < s.size) = true := decide_eq_true (by omega)
    clear h h1
    go_enter Tryd.func3, Tryd.ntmps3
    go_wp2_with fail
    go_ret
    exact ⟨rfl, Below.refl _ _⟩
set_option maxHeartbeats 16000000 in
theorem does_main (s : ByteArray) (c : Int) (h : s.size ≤ 1500 ∨ (65536 < s.size ∧ s.size ≤ 70000)) (L : List S37) (m e : Int) (ha : allS s = (L, m, e)) (hl : L.length ≤ 1000000000) (Q : List Int) (f : Int) (hr : runesS s = (Q, f)) (hql : Q.length ≤ 1000000000) (w : World) (hT : LexTabs w) :
    Calls Tryd.prog 3 #[.string s, .int .i64 c] w fun e w' => e = .returned (.bool true) ∧ Below w.heap.size w w' := by
  have HTB := Lib.hid (fun (w' : World) (hb : Below w.heap.size w w') => hT.below hb)
  have HX := Lib.hid lexed_calls
  obtain ⟨na, hna⟩ : ∃ n, L.length = n := ⟨_, rfl⟩
  obtain ⟨nq, hnq⟩ : ∃ n, Q.length = n := ⟨_, rfl⟩
  have HA := Lib.hid (reads_n s L m e na ha hna)
  have HB := Lib.hid (rall_n s L m e na (by omega) ha hna)
  have HLR := Lib.hid (lruns_n s Q f nq (by omega) hr hnq)
  have HRR := Lib.hid (rruns_n s Q f nq (by omega) hr hnq)
  obtain ⟨x, g, hq⟩ : ∃ x g, quoteS c = (x, g) := ⟨_, _, rfl⟩
  have HQ := Lib.hid (q_calls c x g hq)
  have hodd : runeR c = true → plnQ c = false → sigQ c = false → c ≠ 37 → 1 ≤ c ∧ c < 256 := fun a1 a2 a3 a4 => by
    rw [runeR_B] at a1
    rw [plnQ_B] at a2
    rw [sigQ_R] at a3
    have h1 : 1 ≤ c := by obtain ⟨_, hN⟩ := (runeB_N c).1 a1; obtain ⟨h1, _⟩ := hN; omega
    have := odd_rune c h1 a1 a2 a3 a4
    omega
  have HRQ := Lib.hid (rquote_calls c hodd)
  rw [quote_same, hq] at HRQ
  simp only at HRQ
  have HP := Lib.hid (plain_calls c)
  have HRP := Lib.hid (plnQ_calls c)
  rw [plnQ_B] at HRP
  obtain ⟨b, hb⟩ : ∃ b, plainB c = b := ⟨_, rfl⟩
  rw [hb] at HP HRP
  obtain ⟨ks, hks⟩ := same_true L hl
  have HS := Lib.hid (fun A0 c0 A1 c1 w hr0 hc0 hr1 hc1 => vinculumref19_Same.calls ks A0 c0 L A1 c1 L true w hr0 hc0 hr1 hc1 hks)
  rw [hna] at HS
  obtain ⟨ki, hki⟩ := ints_true Q hql
  have HI := Lib.hid (fun A0 c0 A1 c1 w hr0 hc0 hr1 hc1 => vinculumref03_Ints.calls ki A0 c0 Q A1 c1 Q true w hr0 hc0 hr1 hc1 hki)
  rw [hnq] at HI
  have hcase : (decide ((1500 : Int) < (s.size : Int)) = false ∧ decide (1500 < s.size) = false ∧ True ∧ True) ∨ (decide ((1500 : Int) < (s.size : Int)) = true ∧ decide (1500 < s.size) = true ∧ decide ((s.size : Int) ≤ 65536) = false ∧ decide (s.size ≤ 65536) = false) := by
    by_cases h1 : 1500 < s.size
    · exact .inr ⟨decide_eq_true (by omega), decide_eq_true h1, decide_eq_false (by omega), decide_eq_false (by omega)⟩
    · exact .inl ⟨decide_eq_false (by omega), decide_eq_false h1, trivial, trivial⟩
  have d5 : decide ((70000 : Int) < (s.size : Int)) = false := decide_eq_false (by omega)
  have d6 : decide (70000 < s.size) = false := decide_eq_false (by omega)
  clear h hT ha hl hr hql hna hnq hq hodd hb hks hki
  cases b
  all_goals
    rcases hcase with ⟨d1, d2, d3, d4⟩ | ⟨d1, d2, d3, d4⟩
  all_goals
    go_enter Tryd.func3, Tryd.ntmps3
    go_wp2_with fail
    refine (HA.out _ (HTB.out _ (Below.refl _ _))).mono ?_
    rintro e' w2 ⟨A, cp, rfl, hcp, hC, hb⟩
    have HB2 := Lib.hid hb
    have HCA := Lib.hid hC
    have HPA := Lib.hid hcp
    clear hb hC hcp HA
    go_wp2_with fail
    refine (HB.out _).mono ?_
    rintro e' w3 ⟨A2, cp2, rfl, hcp, hC, hb⟩
    have HB3 := Lib.hid (HB2.out.trans (hb.mono HB2.out.size))
    have HCA3 := Lib.hid (Kd.C_below HCA.out hb)
    have HCB3 := Lib.hid hC
    have HPB := Lib.hid hcp
    clear hb hC hcp HB
    go_wp2_with fail
    refine (HQ.out _ (HTB.out _ HB3.out)).mono ?_
    rintro e' w4 ⟨rfl, hb⟩
    have HB4 := Lib.hid (HB3.out.trans (hb.mono HB3.out.size))
    have HCA4 := Lib.hid (Kd.C_below HCA3.out hb)
    have HCB4 := Lib.hid (Kd.C_below HCB3.out hb)
    clear hb HQ
    go_wp2_with fail
    refine (HRQ.out _).mono ?_
    rintro e' w5 ⟨rfl, hb⟩
    have HB5 := Lib.hid (HB4.out.trans (hb.mono HB4.out.size))
    have HCA5 := Lib.hid (Kd.C_below HCA4.out hb)
    have HCB5 := Lib.hid (Kd.C_below HCB4.out hb)
    clear hb HRQ
    go_wp2_with fail
    refine (HS.out _ _ _ _ _ HCA5.out HPA.out HCB5.out HPB.out).mono ?_
    rintro e' w6 ⟨rfl, hd⟩
    have hb := hd.below
    have HB6 := Lib.hid (HB5.out.trans (hb.mono HB5.out.size))
    clear hb hd HS
    go_wp2_with fail
    refine (HP.out _).mono ?_
    rintro e' w7 ⟨rfl, hb⟩
    have HB7 := Lib.hid (HB6.out.trans (hb.mono HB6.out.size))
    clear hb HP
    go_wp2_with fail
    refine (HRP.out _).mono ?_
    rintro e' w8 ⟨rfl, hb⟩
    have HB8 := Lib.hid (HB7.out.trans (hb.mono HB7.out.size))
    clear hb HRP
    go_wp2_with fail
  rotate_left
  · refine (HX.out _ (HTB.out _ HB8.out)).mono ?_
    rintro e' w9 ⟨rfl, hb⟩
    go_wp2_with fail
    go_ret
    exact ⟨rfl, HB8.out.trans (hb.mono HB8.out.size)⟩
  rotate_left
  · refine (HX.out _ (HTB.out _ HB8.out)).mono ?_
    rintro e' w9 ⟨rfl, hb⟩
    go_wp2_with fail
    go_ret
    exact ⟨rfl, HB8.out.trans (hb.mono HB8.out.size)⟩
  all_goals
    refine (HLR.out _ (HTB.out _ HB8.out)).mono ?_
    rintro e' w9 ⟨A3, cp3, rfl, hcp, hC, hb⟩
    have HB9 := Lib.hid (HB8.out.trans (hb.mono HB8.out.size))
    have HCC := Lib.hid hC
    have HPC := Lib.hid hcp
    clear hb hC hcp HLR
    go_wp2_with fail
    refine (HRR.out _).mono ?_
    rintro e' w10 ⟨A4, cp4, rfl, hcp, hC, hb⟩
    have HB10 := Lib.hid (HB9.out.trans (hb.mono HB9.out.size))
    have HCC10 := Lib.hid (Kd.C_below HCC.out hb)
    have HCD10 := Lib.hid hC
    have HPD := Lib.hid hcp
    clear hb hC hcp HRR
    go_wp2_with fail
    refine (HX.out _ (HTB.out _ HB10.out)).mono ?_
    rintro e' w11 ⟨rfl, hb⟩
    have HB11 := Lib.hid (HB10.out.trans (hb.mono HB10.out.size))
    have HCC11 := Lib.hid (Kd.C_below HCC10.out hb)
    have HCD11 := Lib.hid (Kd.C_below HCD10.out hb)
    clear hb
    go_wp2_with fail
    refine (HI.out _ _ _ _ _ HCC11.out HPC.out HCD11.out HPD.out).mono ?_
    rintro e' w12 ⟨rfl, hd⟩
    have hb := hd.below
    go_wp2_with fail
    go_ret
    exact ⟨rfl, HB11.out.trans (hb.mono HB11.out.size)⟩
theorem toks_len (s : ByteArray) (hs : s.size ≤ 65536) : (allS s).1.length ≤ 65536 := by
  rw [allS_L s hs]
  obtain ⟨g1, g2, g3, g4⟩ := allL_good (bl s)
  rcases pairwise_len (allL (bl s)).1 (s.size : Int) g2 (fun y hy => by obtain ⟨q, a, b, _⟩ := g1 y hy; rw [bl_len] at b; omega) with h | h
  · omega
  · rw [h]; simp
theorem does_law (s : ByteArray) (c : Int) (w : World) (hT : LexTabs w) : Calls Tryd.prog 3 #[.string s, .int .i64 c] w fun e w' => e = .returned (.bool true) ∧ Below w.heap.size w w' := by
  by_cases hl : (1500 < s.size ∧ s.size ≤ 65536) ∨ 70000 < s.size
  · exact does_long s c hl w
  have hlen : (allS s).1.length ≤ 1000000000 := by
    by_cases h : s.size ≤ 65536
    · have := toks_len s h; omega
    · have e : allS s = ([], 0, 7) := by unfold allS; rw [if_pos (by omega)]
      rw [e]; simp
  have hrl := runesS_len s
  exact does_main s c (by omega) (allS s).1 (allS s).2.1 (allS s).2.2 rfl hlen (runesS s).1 (runesS s).2 rfl (by omega) w hT
end Go.Proofs.YtplkdfkahcpoeaaDoor.P
