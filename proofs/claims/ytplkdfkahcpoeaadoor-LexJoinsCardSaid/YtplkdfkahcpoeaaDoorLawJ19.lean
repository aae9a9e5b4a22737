/- Layer 19: the law LexJoins, walked: tokens of two sources with a line's end between are those of both. Condition: the library's tables stand. -/
import Derived.Test.YtplkdfkahcpoeaaDoorLawW19
namespace Go.Proofs.YtplkdfkahcpoeaaDoor.P
open Go.Shelf Go.RowKit Go.Proofs.YtplkdfkahcpoeaaDoorW.PrintWords Go.Proofs.YtplkdfkahcpoeaaDoorW.PrintLast Go.Proofs.YtplkdfkahcpoeaaDoorW.PrintMore
set_option linter.unusedVariables false
set_option linter.unusedSimpArgs false
set_option maxRecDepth 100000
theorem joins_long (s r : ByteArray) (h : 1000 < s.size ∨ 1000 < r.size) (w : World) : Calls Tryd.prog 6 #[.string s, .string r] w fun e w' => e = .returned (.bool true) ∧ Below w.heap.size w w' := by
  by_cases h1 : 1000 < s.size
  · have d1 : decide ((1000 : Int) < (s.size : Int)) = true := decide_eq_true (by omega)
    have d2 : decide (1000 < s.size) = true := decide_eq_true h1
    clear h h1
    go_enter Tryd.func6, Tryd.ntmps6
    go_wp2_with fail
    go_ret
    exact ⟨rfl, Below.refl _ _⟩
  · have d1 : decide ((1000 : Int) < (s.size : Int)) = false := decide_eq_false (by omega)
    have d2 : decide (1000 < s.size) = false := decide_eq_false h1
    have d3 : decide ((1000 : Int) < (r.size : Int)) = true := decide_eq_true (by omega)
    have d4 : decide (1000 < r.size) = true := decide_eq_true (by omega)
    clear h h1
    go_enter Tryd.func6, Tryd.ntmps6
    go_wp2_with fail
    go_ret
    exact ⟨rfl, Below.refl _ _⟩
def jnX (s r : ByteArray) : ByteArray := s ++ ⟨#[10]⟩ ++ r
theorem reads_n (s : ByteArray) (L : List S37) (m e : Int) (n : Nat) (hs : allS s = (L, m, e)) (hn : L.length = n) (w : World) (hT : LexTabs w) : Calls Tryd.prog 8 #[.string s] w fun e' w' => ∃ A c, e' = .returned (.tuple #[.slice A n c, .int .i64 m, .int .i64 e]) ∧ n ≤ c ∧ Kd.C k37 w' A n L ∧ Below w.heap.size w w' := by
  have h := all_reads s w hT
  rw [hs] at h
  simp only [hn] at h
  exact h
set_option maxHeartbeats 16000000 in
theorem joins_err (s r : ByteArray) (h1 : s.size ≤ 1000) (h2 : r.size ≤ 1000) (La Lb Lc : List S37) (ma mb mc ea eb ec : Int) (ha : allS s = (La, ma, ea)) (hb : allS r = (Lb, mb, eb)) (hc : allS (jnX s r) = (Lc, mc, ec)) (he : ea ≠ 0 ∨ eb ≠ 0) (he2 : ea = 0 ∨ ec ≠ 0) (w : World) (hT : LexTabs w) :
    Calls Tryd.prog 6 #[.string s, .string r] w fun e w' => e = .returned (.bool true) ∧ Below w.heap.size w w' := by
  have HTB := Lib.hid (fun (w' : World) (hb : Below w.heap.size w w') => hT.below hb)
  have HX := Lib.hid lexed_calls
  have HA := Lib.hid (reads_n s La ma ea _ ha rfl)
  have HB := Lib.hid (reads_n r Lb mb eb _ hb rfl)
  have HC := Lib.hid (reads_n (jnX s r) Lc mc ec _ hc rfl)
  generalize La.length = na at HA
  generalize Lb.length = nb at HB
  generalize Lc.length = nc at HC
  unfold jnX at HC
  have d1 : decide ((1000 : Int) < (s.size : Int)) = false := decide_eq_false (by omega)
  have d2 : decide (1000 < s.size) = false := decide_eq_false (by omega)
  have d3 : decide ((1000 : Int) < (r.size : Int)) = false := decide_eq_false (by omega)
  have d4 : decide (1000 < r.size) = false := decide_eq_false (by omega)
  have s1 := eq_false (show ¬ 9223372036854775807 < s.size + 1 by omega)
  have s2 := eq_false (show ¬ 9223372036854775807 < s.size + 1 + r.size by omega)
  have HE := Lib.hid (show (ea ≠ 0 ∨ eb ≠ 0) ∧ (ea = 0 ∨ ec ≠ 0) from ⟨he, he2⟩)
  clear h1 h2 hT ha hb hc he he2
  go_enter Tryd.func6, Tryd.ntmps6
  go_wp2_with fail
  refine (HA.out _ (HTB.out _ (Below.refl _ _))).mono ?_
  rintro e' w2 ⟨A, cp, rfl, _, _, hb⟩
  have HB2 := Lib.hid hb
  clear hb HA
  go_wp2_with fail
  refine (HB.out _ (HTB.out _ HB2.out)).mono ?_
  rintro e' w3 ⟨A2, cp2, rfl, _, _, hb⟩
  have HB3 := Lib.hid (HB2.out.trans (hb.mono HB2.out.size))
  clear hb HB
  go_wp2_with fail
  refine (HC.out _ (HTB.out _ HB3.out)).mono ?_
  rintro e' w4 ⟨A3, cp3, rfl, _, _, hb⟩
  have HB4 := Lib.hid (HB3.out.trans (hb.mono HB3.out.size))
  clear hb HC
  obtain ⟨he, he2⟩ := HE.out
  by_cases h0 : ea = 0
  · subst h0
    have he3 : eb ≠ 0 := by rcases he with h | h; exact absurd rfl h; exact h
    have t2 : (eb != 0) = true := bne_iff_ne.mpr he3
    clear he he2 he3 HE
    go_wp2_with fail
    refine (HX.out _ (HTB.out _ HB4.out)).mono ?_
    rintro e' w5 ⟨rfl, hb⟩
    go_wp2_with fail
    go_ret
    exact ⟨rfl, HB4.out.trans (hb.mono HB4.out.size)⟩
  · have t1 : (ea != 0) = true := bne_iff_ne.mpr h0
    have t2 : (ea == 0) = false := beq_eq_false_iff_ne.mpr h0
    have t3 : (ec != 0) = true := bne_iff_ne.mpr (by rcases he2 with h | h; exact absurd h h0; exact h)
    clear he he2 h0 HE
    go_wp2_with fail
    refine (HX.out _ (HTB.out _ HB4.out)).mono ?_
    rintro e' w5 ⟨rfl, hb⟩
    go_wp2_with fail
    go_ret
    exact ⟨rfl, HB4.out.trans (hb.mono HB4.out.size)⟩
set_option maxHeartbeats 16000000 in
theorem joins_ok (s r : ByteArray) (h1 : s.size ≤ 1000) (h2 : r.size ≤ 1000) (La Lb : List S37) (hLa : La.length ≤ 1000) (hLb : Lb.length ≤ 1000) (hLp : ∀ x ∈ Lb, 0 ≤ x.f3 ∧ x.f3 ≤ 1000) (ma mb : Int) (ha : allS s = (La, ma, 0)) (hb : allS r = (Lb, mb, 0))
    (hc : allS (jnX s r) = (La ++ Lb.map (movT ((s.size : Int) + 1)), (s.size : Int) + 1 + (r.size : Int), 0)) (w : World) (hT : LexTabs w) :
    Calls Tryd.prog 6 #[.string s, .string r] w fun e w' => e = .returned (.bool true) ∧ Below w.heap.size w w' := by
  have HTB := Lib.hid (fun (w' : World) (hb : Below w.heap.size w w') => hT.below hb)
  have HX := Lib.hid lexed_calls
  obtain ⟨na, hna⟩ : ∃ n, La.length = n := ⟨_, rfl⟩
  obtain ⟨nb, hnb⟩ : ∃ n, Lb.length = n := ⟨_, rfl⟩
  obtain ⟨nc, hnc⟩ : ∃ n, (La ++ Lb.map (movT ((s.size : Int) + 1))).length = n := ⟨_, rfl⟩
  have hsum : nc = na + nb := by rw [← hnc, ← hna, ← hnb, List.length_append, List.length_map]
  have HA := Lib.hid (reads_n s La ma 0 na ha hna)
  have HB := Lib.hid (reads_n r Lb mb 0 nb hb hnb)
  have HC := Lib.hid (reads_n (jnX s r) _ _ 0 nc hc hnc)
  unfold jnX at HC
  have HM := Lib.hid (fun A0 c0 A1 c1 w hr0 hr1 hc0 hc1 => moved_calls A0 c0 Lb A1 c1 ((s.size : Int) + 1) w hr0 hr1 hc0 hc1 (by omega) (fun x hx => by have := hLp x hx; omega) (by omega) (by omega))
  rw [hnb] at HM
  obtain ⟨ks, hks⟩ := same_true La (by omega)
  have HS := Lib.hid (fun A0 c0 A1 c1 w hr0 hc0 hr1 hc1 => vinculumref19_Same.calls ks A0 c0 La A1 c1 La true w hr0 hc0 hr1 hc1 hks)
  rw [hna] at HS
  have hinfo : ∃ i, Tryd.prog.info? 37 = some i ∧ i.size = 4 := by
    obtain ⟨i, hi, hz⟩ := Option.map_eq_some_iff.1 kindT
    simp only [Prod.mk.injEq] at hz
    exact ⟨i, hi, hz.2.1⟩
  obtain ⟨ti, hti, htz⟩ := hinfo
  have HCT := Lib.hid (fun A c (hcc : nc ≤ c) => cut_to 22 37 .i64 Tryd.underlying22 hti A nc c (na : Int) (by omega) (by omega) hcc)
  have HCF := Lib.hid (fun A c => cut_from 22 37 .i64 Tryd.underlying22 hti 4 htz A nc c (na : Int) (by omega) (by omega))
  simp only [Int.toNat_natCast] at HCT HCF
  have HTK := Lib.hid (fun (A : Option Addr) (c : Nat) (w' : World) (h : Kd.C k37 w' A nc (La ++ Lb.map (movT ((s.size : Int) + 1)))) => show Kd.C k37 w' A na La by
    have := Kd.C_take (m := na) (hnc ▸ h) (by rw [hnc]; omega)
    rw [List.take_append_of_le_length (by omega), List.take_of_length_le (by omega), hna] at this
    exact this)
  have HDR := Lib.hid (fun (A : Option Addr) (c : Nat) (w' : World) (h : Kd.C k37 w' A nc (La ++ Lb.map (movT ((s.size : Int) + 1)))) (hcc : nc ≤ c) => show Kd.C k37 w' (if c = na then A else A.map (·.add (na * 4))) nb (Lb.map (movT ((s.size : Int) + 1))) by
    have := Kd.C_drop (m := na) (c := c) (hnc ▸ h) (by rw [hnc]; omega) (by rw [hnc]; exact hcc)
    rw [List.drop_append_of_le_length (by omega), List.drop_of_length_le (by omega), List.nil_append, List.length_map, hnb] at this
    exact this)
  have d1 : decide ((1000 : Int) < (s.size : Int)) = false := decide_eq_false (by omega)
  have d2 : decide (1000 < s.size) = false := decide_eq_false (by omega)
  have d3 : decide ((1000 : Int) < (r.size : Int)) = false := decide_eq_false (by omega)
  have d4 : decide (1000 < r.size) = false := decide_eq_false (by omega)
  have s1 := eq_false (show ¬ 9223372036854775807 < s.size + 1 by omega)
  have s2 := eq_false (show ¬ 9223372036854775807 < s.size + 1 + r.size by omega)
  obtain ⟨D, hD⟩ : ∃ D : Int, (s.size : Int) + 1 = D := ⟨_, rfl⟩
  obtain ⟨M, hM⟩ : ∃ M : Int, D + (r.size : Int) = M := ⟨_, rfl⟩
  obtain ⟨NC, hNC⟩ : ∃ NC : Int, (nc : Int) = NC := ⟨_, rfl⟩
  have wr1 : IntKind.i64.wrap ((s.size : Int) + 1) = D := (IntWalk.i64_in _ (by omega)).trans hD
  have wr2 : IntKind.i64.wrap (D + (r.size : Int)) = M := (IntWalk.i64_in _ (by omega)).trans hM
  have wr3 : IntKind.i64.wrap ((na : Int) + (nb : Int)) = (nc : Int) := (IntWalk.i64_in _ (by omega)).trans (by omega)
  have HNE := Lib.hid (show na ≤ nc ∧ nc - na = nb from by omega)
  rw [hD, hM] at HC
  rw [hD] at HM HTK HDR
  clear h1 h2 hT ha hb hc hLa hLb hLp hna hnb hnc hsum hks hti htz ti hD hM hNC
  go_enter Tryd.func6, Tryd.ntmps6
  go_wp2_with fail
  refine (HA.out _ (HTB.out _ (Below.refl _ _))).mono ?_
  rintro e' w2 ⟨A, cp, rfl, hcp, hC, hb⟩
  have HB2 := Lib.hid hb
  have HCA2 := Lib.hid hC
  have HPA := Lib.hid hcp
  clear hb hC hcp HA
  go_wp2_with fail
  refine (HB.out _ (HTB.out _ HB2.out)).mono ?_
  rintro e' w3 ⟨A2, cp2, rfl, hcp, hC, hb⟩
  have HB3 := Lib.hid (HB2.out.trans (hb.mono HB2.out.size))
  have HCA3 := Lib.hid (Kd.C_below HCA2.out hb)
  have HCB3 := Lib.hid hC
  have HPB := Lib.hid hcp
  clear hb hC hcp HB
  go_wp2_with fail
  refine (HC.out _ (HTB.out _ HB3.out)).mono ?_
  rintro e' w4 ⟨A3, cp3, rfl, hcp, hC, hb⟩
  have HB4 := Lib.hid (HB3.out.trans (hb.mono HB3.out.size))
  have HCA4 := Lib.hid (Kd.C_below HCA3.out hb)
  have HCB4 := Lib.hid (Kd.C_below HCB3.out hb)
  have HCC4 := Lib.hid hC
  have HPC := Lib.hid hcp
  have hct := HCT.out A3 cp3 hcp
  have hcf := HCF.out A3 cp3
  have hdr := HDR.out A3 cp3 w4 hC hcp
  generalize (if cp3 = na then A3 else A3.map (·.add (na * 4))) = A4 at hcf hdr
  have HDR4 := Lib.hid hdr
  have hnn := HNE.out.2
  clear hb hC hcp HC hdr HCT HCF HDR
  go_wp2_with fail
  refine (HX.out _ (HTB.out _ HB4.out)).mono ?_
  rintro e' w5 ⟨rfl, hb⟩
  have HB5 := Lib.hid (HB4.out.trans (hb.mono HB4.out.size))
  have HCA5 := Lib.hid (Kd.C_below HCA4.out hb)
  have HCB5 := Lib.hid (Kd.C_below HCB4.out hb)
  have HCC5 := Lib.hid (Kd.C_below HCC4.out hb)
  have HDR5 := Lib.hid (Kd.C_below HDR4.out hb)
  clear hb
  go_wp2_with fail
  refine (HS.out _ _ _ _ _ HCA5.out HPA.out (HTK.out _ cp3 _ HCC5.out) (Nat.le_trans HNE.out.1 HPC.out)).mono ?_
  rintro e' w6 ⟨rfl, hd⟩
  have hb := hd.below
  have HB6 := Lib.hid (HB5.out.trans (hb.mono HB5.out.size))
  have HCB6 := Lib.hid (Kd.C_below HCB5.out hb)
  have HDR6 := Lib.hid (Kd.C_below HDR5.out hb)
  clear hb hd
  go_wp2_with fail
  refine (HM.out _ _ _ _ _ HCB6.out HDR6.out HPB.out (by have := HPC.out; have := HNE.out; omega)).mono ?_
  rintro e' w7 ⟨rfl, hb⟩
  have HB7 := Lib.hid (HB6.out.trans (hb.mono HB6.out.size))
  clear hb
  go_wp2_with fail
  go_ret
  exact ⟨rfl, HB7.out⟩
theorem joins_law (s r : ByteArray) (w : World) (hT : LexTabs w) : Calls Tryd.prog 6 #[.string s, .string r] w fun e w' => e = .returned (.bool true) ∧ Below w.heap.size w w' := by
  by_cases hl : 1000 < s.size ∨ 1000 < r.size
  · exact joins_long s r hl w
  have h1 : s.size ≤ 1000 := by omega
  have h2 : r.size ≤ 1000 := by omega
  have hbl : bl (jnX s r) = bl s ++ 10 :: bl r := by
    unfold jnX
    rw [bl_app, bl_app]
    show bl s ++ [10] ++ bl r = _
    simp
  have hxz : (jnX s r).size ≤ 65536 := by
    rw [← bl_len, hbl, List.length_append, List.length_cons, bl_len, bl_len]
    omega
  have ha := allS_L s (by omega)
  have hb := allS_L r (by omega)
  have hc := allS_L (jnX s r) hxz
  rw [hbl, allL_join, bl_len] at hc
  have ea1 := allL_err (bl s)
  have eb1 := allL_err (bl r)
  obtain ⟨g1, g2, g3, g4⟩ := allL_good (bl s)
  obtain ⟨k1, k2, k3, k4⟩ := allL_good (bl r)
  have oka : okL (bl s) = false → (allL (bl s)).2.2 ≠ 0 := fun h => by unfold allL; rw [if_neg (by simp [h])]; decide
  have okb : okL (bl r) = false → (allL (bl r)).2.2 ≠ 0 := fun h => by unfold allL; rw [if_neg (by simp [h])]; decide
  have hbe : ∀ a b : Bool, (a && b) = true → a = true ∧ b = true := by decide
  rw [bl_len] at g4 k4
  obtain ⟨La, ma, ea, hLa⟩ : ∃ L m e, allL (bl s) = (L, m, e) := ⟨_, _, _, rfl⟩
  obtain ⟨Lb, mb, eb, hLb⟩ : ∃ L m e, allL (bl r) = (L, m, e) := ⟨_, _, _, rfl⟩
  obtain ⟨Lc, mc, ec, hLc⟩ : ∃ L m e, allS (jnX s r) = (L, m, e) := ⟨_, _, _, rfl⟩
  rw [hLa] at ha hc ea1 oka g1 g2 g4
  rw [hLb] at hb hc eb1 okb k1 k2 k4
  simp only at ea1 eb1 oka okb g1 g2 g4 k1 k2 k4
  by_cases he : ea ≠ 0 ∨ eb ≠ 0
  · refine joins_err s r h1 h2 La Lb Lc ma mb mc ea eb ec ha hb hLc he ?_ w hT
    by_cases h0 : ea = 0
    · exact .inl h0
    · right
      rw [hc] at hLc
      split at hLc
      · unfold thenT at hLc
        rw [if_pos h0] at hLc
        injection hLc with _ h
        injection h with _ h
        subst h
        exact h0
      · injection hLc with _ h
        injection h with _ h
        subst h
        decide
  · have hea : ea = 0 := by omega
    have heb : eb = 0 := by omega
    subst hea heb
    have ok1 : okL (bl s) = true := by cases h : okL (bl s) with | true => rfl | false => exact absurd rfl (oka h)
    have ok2 : okL (bl r) = true := by cases h : okL (bl r) with | true => rfl | false => exact absurd rfl (okb h)
    obtain rfl := g4 rfl
    obtain rfl := k4 rfl
    rw [ok1, ok2, if_pos (by decide)] at hc
    have hpa : ∀ y ∈ La, 0 ≤ y.f3 ∧ y.f3 < (s.size : Int) := fun y hy => by obtain ⟨q, a, b, _⟩ := g1 y hy; rw [bl_len] at b; omega
    have hpb : ∀ y ∈ Lb, 0 ≤ y.f3 ∧ y.f3 < (r.size : Int) := fun y hy => by obtain ⟨q, a, b, _⟩ := k1 y hy; rw [bl_len] at b; omega
    have hla : La.length ≤ 1000 := by
      rcases pairwise_len La (s.size : Int) g2 hpa with h | h
      · omega
      · rw [h]; simp
    have hlb : Lb.length ≤ 1000 := by
      rcases pairwise_len Lb (r.size : Int) k2 hpb with h | h
      · omega
      · rw [h]; simp
    refine joins_ok s r h1 h2 La Lb hla hlb (fun x hx => by have := hpb x hx; omega) _ _ ha hb ?_ w hT
    rw [hc]
    unfold thenT shiftT combT
    simp only [ne_eq, not_true_eq_false, if_false]
    congr 2
    omega
end Go.Proofs.YtplkdfkahcpoeaaDoor.P
