/- The law ShowJoins, walked. -/
import Derived.Test.YtaoepeiadhdbaaaDoorShJoinA
import Derived.Test.YtaoepeiadhdbaaaDoorNdCounts
import Derived.Deep.CutRange
namespace Go.Proofs.YtaoepeiadhdbaaaDoor.ND
open Go.Shelf Go.Sort Go.Proofs.YtaoepeiadhdbaaaDoor.P Go.RowKit Go.Proofs.YtaoepeiadhdbaaaDoorW.PrintWords Go.Proofs.YtaoepeiadhdbaaaDoorW.PrintLast Go.Proofs.YtaoepeiadhdbaaaDoorW.PrintMore
set_option linter.unusedVariables false
set_option linter.unusedSimpArgs false
def zeroN : Value := .agg #[.int .i64 0, .int .i64 0, .int .i64 0, .int .i64 0, .int .i64 0, .slice none 0 0, .slice none 0 0, .bool false, .bool false, .slice none 0 0, .slice none 0 0]
theorem infoN : (Tryd.prog.info? 33).map (fun i => (i.zero, i.size, i.bytes)) = some (some zeroN, 11, 144) := by kernel_rfl
theorem RowL.imp {α : Type} {K K' : α → List Value → Prop} (h : ∀ x cs, K x cs → K' x cs) : ∀ {l : List α} {ns : List Value}, RowL K l ns → RowL K' l ns
  | [], _, e => e
  | _ :: _, _, ⟨cs, rest, e, h1, h2, h3⟩ => ⟨cs, rest, e, h1, h _ _ h2, h3.imp h⟩
theorem own_base {W : World} {base n sz : Nat} {e : TypeId} {v : Value} {xs : List Value} (h : W.ownsRow base e sz v n xs) {k : Nat} (hk : v.ownBlock = some k) : base ≤ k := by
  rcases h.2 with ⟨rfl, _⟩ | ⟨g, cap, cur, rfl, hbg, _⟩
  · simp [Value.ownBlock] at hk
  · simp only [Value.ownBlock, Option.some.injEq] at hk
    omega
theorem len_eq {α : Type} {K : α → List Value → Prop} {w : World} {a : Option Addr} {n c : Nat} {l : List α} (h : rdS K 11 w (.slice a n c) l) : n = l.length := by
  obtain ⟨_, _, e, _⟩ := h
  injection e with _ e2 _
theorem own_slice {W : World} {base n sz : Nat} {e : TypeId} {v : Value} {xs : List Value} (h : W.ownsRow base e sz v n xs) : ∃ A c, v = .slice A n c := by
  rcases h.2 with ⟨rfl, rfl⟩ | ⟨g, cap, cur, rfl, _⟩
  · exact ⟨_, _, rfl⟩
  · exact ⟨_, _, rfl⟩
theorem text_len (k : Nat) (l : List (Nn k)) : (textR k l).1.length ≤ 65536 := by
  by_cases h : (textR k l).2 = 0
  · rw [text_of k l h]
    exact ((text_zero k l).1 h).2
  · unfold textR at h ⊢
    split
    · simp
    · rename_i h1
      split
      · simp
      · rename_i h2
        rw [if_neg h1, if_neg h2] at h
        exact absurd rfl h
theorem bytes_app (a b : List UInt8) : (⟨(a ++ b).toArray⟩ : ByteArray) = ⟨a.toArray⟩ ++ ⟨b.toArray⟩ := by
  apply ByteArray.ext
  simp
theorem add_small (a b c : Nat) (h : c = a + b) (hc : c ≤ 4000000) : wrap64 ((a : Int) + (b : Int)) = (c : Int) := by rw [wrap64_small (x := (a : Int) + (b : Int)) (by omega) (by omega)]; omega
set_option maxRecDepth 100000 in
set_option maxHeartbeats 1000000 in
theorem joins_calls (k : Nat) (hk : k + 1 ≤ 1500000) (l m : List (Nn (k + 1))) (v1 v2 : Value) (w : World) (hT : LexTabs w) (hr1 : rdL (k + 1) w v1 l) (hr2 : rdL (k + 1) w v2 m) (hw : wtL (k + 1) l + wtL (k + 1) m ≤ 2000000)
    (hv1 : v1 = .slice none 0 0 ∨ ∃ a n c, v1 = .slice (some a) n c) (hv2 : v2 = .slice none 0 0 ∨ ∃ a n c, v2 = .slice (some a) n c) :
    Calls Tryd.prog 3 #[v1, v2] w fun e w' => e = .returned (.bool true) ∧ Below w.heap.size w w' := by
  obtain ⟨i0, hi, hz0, hz1, hz2⟩ := info_parts infoN
  have hl1 : l.length ≤ 2000000 := Nat.le_trans (wtZ_pos (wtN k) l) (by have : wtL (k + 1) l = sumL (wtZ (wtN k)) l := rfl; omega)
  have hm1 : m.length ≤ 2000000 := Nat.le_trans (wtZ_pos (wtN k) m) (by have : wtL (k + 1) m = sumL (wtZ (wtN k)) m := rfl; omega)
  have hwa : wtL (k + 1) (l ++ m) ≤ 2000000 := by have h : wtL (k + 1) (l ++ m) = wtL (k + 1) l + wtL (k + 1) m := sumL_append _ _ _; omega
  have HF1 := Lib.hid fun (w1 : World) (hb : Below w.heap.size w w1) => few_calls (k + 1) l v1 w1 (rdL_below hr1 hb) (by omega)
  have HF2 := Lib.hid fun (w1 : World) (hb : Below w.heap.size w w1) => few_calls (k + 1) m v2 w1 (rdL_below hr2 hb) (by omega)
  have HT1 := Lib.hid fun (w1 : World) (hb : Below w.heap.size w w1) => text_all (k + 1) hk l v1 w1 (hT.below hb) (rdL_below hr1 hb) (by omega)
  have HT2 := Lib.hid fun (w1 : World) (hb : Below w.heap.size w w1) => text_all (k + 1) hk m v2 w1 (hT.below hb) (rdL_below hr2 hb) (by omega)
  have HC1 := Lib.hid fun (w1 : World) (hb : Below w.heap.size w w1) => scount_all (k + 1) l v1 w1 (rdL_below hr1 hb) (by omega)
  have HC2 := Lib.hid fun (w1 : World) (hb : Below w.heap.size w w1) => scount_all (k + 1) m v2 w1 (rdL_below hr2 hb) (by omega)
  have HSH := Lib.hid fun (w1 : World) (hb : Below w.heap.size w w1) => shown_calls w1 (hT.below hb)
  have HR1 := Lib.hid hr1
  have HR2 := Lib.hid hr2
  have HWA := Lib.hid hwa
  have HTT := Lib.hid hT
  have HV1 := Lib.hid hv1
  have HV2 := Lib.hid hv2
  have HL1 := Lib.hid hl1
  have HM1 := Lib.hid hm1
  have HKK := Lib.hid hk
  clear hr1 hr2 hw hv1 hv2 hT hl1 hm1 hwa hk
  have hB0 : Below w.heap.size w w := Below.refl _ _
  have HB0 := Lib.hid hB0
  clear hB0
  cases hf1 : fewR (k + 1) l
  · rw [hf1] at HF1
    obtain ⟨A1, c1, rfl⟩ := slice_is HR1.out
    go_enter Tryd.func3, Tryd.ntmps3
    go_wp2_with (go_at_call 5; with_reducible refine (HF1.out _ HB0.out).mono ?_; rintro e w1 ⟨rfl, hd1⟩)
    go_ret
    exact ⟨rfl, hd1.below⟩
  cases hf2 : fewR (k + 1) m
  · rw [hf1] at HF1
    rw [hf2] at HF2
    obtain ⟨A1, c1, rfl⟩ := slice_is HR1.out
    obtain ⟨A2, c2, rfl⟩ := slice_is HR2.out
    go_enter Tryd.func3, Tryd.ntmps3
    go_wp2_with (first | (go_at_call 5; with_reducible refine (HF1.out _ HB0.out).mono ?_; rintro e w1 ⟨rfl, hd1⟩; have HB1 := Lib.hid hd1.below; clear hd1) | (go_at_call 5; with_reducible refine (HF2.out _ HB1.out).mono ?_; rintro e w2 ⟨rfl, hd2⟩; have HB2 := Lib.hid (HB1.out.trans (hd2.below.mono HB1.out.size)); clear hd2))
    go_ret
    exact ⟨rfl, HB2.out⟩
  rw [hf1] at HF1
  rw [hf2] at HF2
  have hs1 := slice_is HR1.out
  have hs2 := slice_is HR2.out
  have HS1 := Lib.hid hs1
  have HS2 := Lib.hid hs2
  clear hs1 hs2 hf1 hf2
  go_enter Tryd.func3, Tryd.ntmps3
  go_upto_region 4 with (first | (go_at_call 5; with_reducible refine (HF1.out _ HB0.out).mono ?_; rintro e w1 ⟨rfl, hd1⟩; have HB1 := Lib.hid hd1.below; clear hd1) | (go_at_call 5; with_reducible refine (HF2.out _ HB1.out).mono ?_; rintro e w2 ⟨rfl, hd2⟩; have HB2 := Lib.hid (HB1.out.trans (hd2.below.mono HB1.out.size)); clear hd2))
  go_cut [5] from 20 (fun v5 wc => Hid (∃ ns, wc.ownsRow w.heap.size 33 11 v5 l.length ns ∧ RowL (rdN (k + 1) w) l ns) ∧ Below w.heap.size w wc)
  case first =>
    rcases HV1.out with rfl | ⟨a, n, c, rfl⟩
    · have hnil : l = [] := row_nil HR1.out rfl
      have HN : Hid (∃ ns, w2.ownsRow w.heap.size 33 11 (.slice none 0 0) l.length ns ∧ RowL (rdN (k + 1) w) l ns) := Lib.hid ⟨[], by rw [hnil]; exact World.ownsRow_nil _ _ _ _, by rw [hnil]; rfl⟩
      clear hnil
      go_wp2_with (at_builtin; refine wpList_append_own_none rfl _ _ 22 rfl w.heap.size 33 i0 11 Tryd.underlying22 hi _ 0 [] rfl (World.ownsRow_nil _ _ _ _) rfl ?_)
      go_meet
      exact ⟨HN, HB2.out⟩
    · have hn := len_eq HR1.out
      subst hn
      obtain ⟨ns, r1, r2⟩ := row_some HR1.out
      have hl := r1.len
      have h1 := row_one (K := rdN k) (w := w) r1
      have hnews : ∀ j u, ns[j]? = some u → w2.cell? (a.add j) = some u := fun j u hu => (HB2.out.cell (World.block_lt_of_cell? w _ (r2 j u hu))).trans (r2 j u hu)
      have HRW := Lib.hid r1
      have hl1 := HL1.out
      clear r1 r2
      go_wp2_with (at_builtin; refine wpList_append_own _ rfl _ _ 22 rfl w.heap.size 33 i0 zeroN 11 144 Tryd.underlying22 hi hz0 hz1 hz2 rfl (by decide) _ 0 [] rfl (World.ownsRow_nil _ _ _ _) a l.length c ns rfl hl hnews h1 (by unfold maxLen; omega) (by omega) HB2.out.size ?_)
      intro v' w3 hown hgrow hnil
      have hf : Below w.heap.size w w3 := HB2.out.grown hgrow HB2.out.size (fun k e => by cases e)
      have HN : Hid (∃ ns, w3.ownsRow w.heap.size 33 11 v' l.length ns ∧ RowL (rdN (k + 1) w) l ns) := Lib.hid ⟨ns, by simpa using hown, HRW.out⟩
      clear hown hgrow hnil h1 hl hnews
      go_wp2_with fail
      go_meet
      exact ⟨HN, hf⟩
  case rest =>
    obtain ⟨HN, hB3⟩ := hcut
    have HB3 := Lib.hid hB3
    clear hB3
    go_upto_region 5 with fail
    go_cut [5] from 20 (fun v5 wd => Hid (∃ ns, wd.ownsRow w.heap.size 33 11 v5 (l ++ m).length ns ∧ RowL (rdN (k + 1) w) (l ++ m) ns) ∧ Below w.heap.size w wd)
    case first =>
      obtain ⟨ns, hown, hrow⟩ := HN.out
      obtain ⟨A5, c5, e5⟩ := own_slice hown
      subst e5
      rcases HV2.out with rfl | ⟨a, n, c, rfl⟩
      · have hnil : m = [] := row_nil HR2.out rfl
        have HN2 : Hid (∃ ns, wc.ownsRow w.heap.size 33 11 (.slice A5 l.length c5) (l ++ m).length ns ∧ RowL (rdN (k + 1) w) (l ++ m) ns) := Lib.hid ⟨ns, by rw [hnil, List.append_nil]; exact hown, by rw [hnil, List.append_nil]; exact hrow⟩
        clear hnil hrow
        go_wp2_with (at_builtin; refine wpList_append_own_none rfl _ _ 22 rfl w.heap.size 33 i0 11 Tryd.underlying22 hi _ _ _ rfl hown rfl ?_)
        go_meet
        exact ⟨HN2, HB3.out⟩
      · have hn := len_eq HR2.out
        subst hn
        obtain ⟨ns2, r1, r2⟩ := row_some HR2.out
        have hl := r1.len
        have h1 := row_one (K := rdN k) (w := w) r1
        have hnews : ∀ j u, ns2[j]? = some u → wc.cell? (a.add j) = some u := fun j u hu => (HB3.out.cell (World.block_lt_of_cell? w _ (r2 j u hu))).trans (r2 j u hu)
        have HRW := Lib.hid (hrow.app r1)
        have hl1 := HL1.out
        have hm1 := HM1.out
        clear r1 r2 hrow
        go_wp2_with (at_builtin; refine wpList_append_own _ rfl _ _ 22 rfl w.heap.size 33 i0 zeroN 11 144 Tryd.underlying22 hi hz0 hz1 hz2 rfl (by decide) _ _ _ rfl hown a m.length c ns2 rfl hl hnews h1 (by unfold maxLen; omega) (by omega) HB3.out.size ?_)
        intro v' w3 hown' hgrow hnil
        have hf : Below w.heap.size w w3 := HB3.out.grown hgrow HB3.out.size (fun k e => own_base hown e)
        have HN2 : Hid (∃ ns, w3.ownsRow w.heap.size 33 11 v' (l ++ m).length ns ∧ RowL (rdN (k + 1) w) (l ++ m) ns) := Lib.hid ⟨ns ++ ns2, by rw [List.length_append]; exact hown', HRW.out⟩
        clear hown hown' hgrow hnil h1 hl hnews
        go_wp2_with fail
        go_meet
        exact ⟨HN2, hf⟩
    case rest =>
      obtain ⟨HN2, hB4⟩ := hcut
      have HB4 := Lib.hid hB4
      clear HN hB4
      obtain ⟨ns, hown, hrow⟩ := HN2.out
      obtain ⟨A5, c5, e5⟩ := own_slice hown
      subst e5
      have hread : rdL (k + 1) wc (.slice A5 (l ++ m).length c5) (l ++ m) := own_reads hown (hrow.imp (fun x cs h => rdN_keep (k + 1) (fun p u hc => (HB4.out.cell (World.block_lt_of_cell? w _ hc)).trans hc) x cs h))
      rw [List.length_append] at hread
      have HTA := Lib.hid fun (w1 : World) (hb : Below wc.heap.size wc w1) => text_all (k + 1) HKK.out (l ++ m) _ w1 (HTT.out.below (HB4.out.trans (hb.mono HB4.out.size))) (rdL_below hread hb) HWA.out
      have HCA := Lib.hid fun (w1 : World) (hb : Below wc.heap.size wc w1) => scount_all (k + 1) (l ++ m) _ w1 (rdL_below hread hb) HWA.out
      obtain ⟨A1, c1, rfl⟩ := HS1.out
      obtain ⟨A2, c2, rfl⟩ := HS2.out
      have HOK := Lib.hid (joins_ok (k + 1) l m)
      have HBAD := Lib.hid (joins_bad (k + 1) l m)
      have hcs := scnt_app (k + 1) l m
      have hcl := scnt_le (k + 1) (l ++ m)
      have hws := add_small _ _ _ hcs (by have := HWA.out; omega)
      have HLA : Hid (((textR (k + 1) l).1.length + (textR (k + 1) m).1.length) ≤ 9223372036854775807) := Lib.hid (by have h1 := text_len (k + 1) l; have h2 := text_len (k + 1) m; omega)
      have HWS := Lib.hid hws
      clear hread hown hrow HN2 hcs hcl hws HR1 HR2 HV1 HV2 HF1 HF2 HS1 HS2
      generalize textR (k + 1) (l ++ m) = TA at *
      generalize textR (k + 1) l = T1 at *
      generalize textR (k + 1) m = T2 at *
      generalize scnt (k + 1) (l ++ m) = CA at *
      generalize scnt (k + 1) l = C1 at *
      generalize scnt (k + 1) m = C2 at *
      obtain ⟨t1, e1⟩ := T1
      obtain ⟨t2, e2⟩ := T2
      obtain ⟨ta, ea⟩ := TA
      dsimp only at HT1 HT2 HTA HOK HBAD HLA
      by_cases hg : ea = 0
      · subst hg
        obtain ⟨z1, z2, z3⟩ := HOK.out rfl
        subst z1 z2 z3
        rw [bytes_app] at HTA
        have hs1 : (⟨t1.toArray⟩ : ByteArray).size = t1.length := by simp [ByteArray.size]
        have hs2 : (⟨t2.toArray⟩ : ByteArray).size = t2.length := by simp [ByteArray.size]
        have hla : (⟨t1.toArray⟩ : ByteArray).size + (⟨t2.toArray⟩ : ByteArray).size ≤ 9223372036854775807 := by rw [hs1, hs2]; exact HLA.out
        clear hs1 hs2 HOK HBAD HLA
        generalize (⟨t1.toArray⟩ : ByteArray) = S1 at *
        generalize (⟨t2.toArray⟩ : ByteArray) = S2 at *
        have s2 := eq_false (show ¬ 9223372036854775807 < S1.size + S2.size by omega)
        clear hla
        have hws := HWS.out
        go_wp2_with (first | (go_at_call 6; with_reducible refine (HT1.out _ HB4.out).mono ?_; rintro e w5 ⟨rfl, hb⟩; have HX5 := Lib.hid hb; clear hb) | (go_at_call 6; with_reducible refine (HT2.out _ (HB4.out.trans (HX5.out.mono HB4.out.size))).mono ?_; rintro e w6 ⟨rfl, hb⟩; have HX6 := Lib.hid (HX5.out.trans (hb.mono HX5.out.size)); clear hb) | (go_at_call 6; with_reducible refine (HTA.out _ HX6.out).mono ?_; rintro e w7 ⟨rfl, hb⟩; have HX7 := Lib.hid (HX6.out.trans (hb.mono HX6.out.size)); clear hb) | (go_at_call 7; with_reducible refine (HCA.out _ HX7.out).mono ?_; rintro e w8 ⟨rfl, hb⟩; have HX8 := Lib.hid (HX7.out.trans (hb.mono HX7.out.size)); clear hb) | (go_at_call 7; with_reducible refine (HC1.out _ (HB4.out.trans (HX8.out.mono HB4.out.size))).mono ?_; rintro e w9 ⟨rfl, hb⟩; have HX9 := Lib.hid (HX8.out.trans (hb.mono HX8.out.size)); clear hb) | (go_at_call 7; with_reducible refine (HC2.out _ (HB4.out.trans (HX9.out.mono HB4.out.size))).mono ?_; rintro e w10 ⟨rfl, hb⟩; have HX10 := Lib.hid (HX9.out.trans (hb.mono HX9.out.size)); clear hb) | (go_at_call 8; with_reducible refine (HSH.out _ (HB4.out.trans (HX10.out.mono HB4.out.size))).mono ?_; rintro e w11 ⟨rfl, hb⟩; have HX11 := Lib.hid (HX10.out.trans (hb.mono HX10.out.size)); clear hb))
        go_ret
        exact ⟨rfl, HB4.out.trans (HX11.out.mono HB4.out.size)⟩
      · have q1 : (ea != 0) = true := by simp [hg]
        cases p1 : (e1 != 0)
        · cases p2 : (e2 != 0)
          · have hz : ea = 7 := by
              rcases HBAD.out hg with h | h | h
              · simp at p1; exact absurd p1 h
              · simp at p2; exact absurd p2 h
              · exact h
            subst hz
            clear hg q1
            have hws := HWS.out
            go_wp2_with (first | (go_at_call 6; with_reducible refine (HT1.out _ HB4.out).mono ?_; rintro e w5 ⟨rfl, hb⟩; have HX5 := Lib.hid hb; clear hb) | (go_at_call 6; with_reducible refine (HT2.out _ (HB4.out.trans (HX5.out.mono HB4.out.size))).mono ?_; rintro e w6 ⟨rfl, hb⟩; have HX6 := Lib.hid (HX5.out.trans (hb.mono HX5.out.size)); clear hb) | (go_at_call 6; with_reducible refine (HTA.out _ HX6.out).mono ?_; rintro e w7 ⟨rfl, hb⟩; have HX7 := Lib.hid (HX6.out.trans (hb.mono HX6.out.size)); clear hb) | (go_at_call 7; with_reducible refine (HCA.out _ HX7.out).mono ?_; rintro e w8 ⟨rfl, hb⟩; have HX8 := Lib.hid (HX7.out.trans (hb.mono HX7.out.size)); clear hb) | (go_at_call 7; with_reducible refine (HC1.out _ (HB4.out.trans (HX8.out.mono HB4.out.size))).mono ?_; rintro e w9 ⟨rfl, hb⟩; have HX9 := Lib.hid (HX8.out.trans (hb.mono HX8.out.size)); clear hb) | (go_at_call 7; with_reducible refine (HC2.out _ (HB4.out.trans (HX9.out.mono HB4.out.size))).mono ?_; rintro e w10 ⟨rfl, hb⟩; have HX10 := Lib.hid (HX9.out.trans (hb.mono HX9.out.size)); clear hb) | (go_at_call 8; with_reducible refine (HSH.out _ (HB4.out.trans (HX10.out.mono HB4.out.size))).mono ?_; rintro e w11 ⟨rfl, hb⟩; have HX11 := Lib.hid (HX10.out.trans (hb.mono HX10.out.size)); clear hb))
            go_ret
            exact ⟨rfl, HB4.out.trans (HX11.out.mono HB4.out.size)⟩
          · clear hg
            have hws := HWS.out
            go_wp2_with (first | (go_at_call 6; with_reducible refine (HT1.out _ HB4.out).mono ?_; rintro e w5 ⟨rfl, hb⟩; have HX5 := Lib.hid hb; clear hb) | (go_at_call 6; with_reducible refine (HT2.out _ (HB4.out.trans (HX5.out.mono HB4.out.size))).mono ?_; rintro e w6 ⟨rfl, hb⟩; have HX6 := Lib.hid (HX5.out.trans (hb.mono HX5.out.size)); clear hb) | (go_at_call 6; with_reducible refine (HTA.out _ HX6.out).mono ?_; rintro e w7 ⟨rfl, hb⟩; have HX7 := Lib.hid (HX6.out.trans (hb.mono HX6.out.size)); clear hb) | (go_at_call 7; with_reducible refine (HCA.out _ HX7.out).mono ?_; rintro e w8 ⟨rfl, hb⟩; have HX8 := Lib.hid (HX7.out.trans (hb.mono HX7.out.size)); clear hb) | (go_at_call 7; with_reducible refine (HC1.out _ (HB4.out.trans (HX8.out.mono HB4.out.size))).mono ?_; rintro e w9 ⟨rfl, hb⟩; have HX9 := Lib.hid (HX8.out.trans (hb.mono HX8.out.size)); clear hb) | (go_at_call 7; with_reducible refine (HC2.out _ (HB4.out.trans (HX9.out.mono HB4.out.size))).mono ?_; rintro e w10 ⟨rfl, hb⟩; have HX10 := Lib.hid (HX9.out.trans (hb.mono HX9.out.size)); clear hb) | (go_at_call 8; with_reducible refine (HSH.out _ (HB4.out.trans (HX10.out.mono HB4.out.size))).mono ?_; rintro e w11 ⟨rfl, hb⟩; have HX11 := Lib.hid (HX10.out.trans (hb.mono HX10.out.size)); clear hb))
            go_ret
            exact ⟨rfl, HB4.out.trans (HX11.out.mono HB4.out.size)⟩
        · clear hg
          have hws := HWS.out
          go_wp2_with (first | (go_at_call 6; with_reducible refine (HT1.out _ HB4.out).mono ?_; rintro e w5 ⟨rfl, hb⟩; have HX5 := Lib.hid hb; clear hb) | (go_at_call 6; with_reducible refine (HT2.out _ (HB4.out.trans (HX5.out.mono HB4.out.size))).mono ?_; rintro e w6 ⟨rfl, hb⟩; have HX6 := Lib.hid (HX5.out.trans (hb.mono HX5.out.size)); clear hb) | (go_at_call 6; with_reducible refine (HTA.out _ HX6.out).mono ?_; rintro e w7 ⟨rfl, hb⟩; have HX7 := Lib.hid (HX6.out.trans (hb.mono HX6.out.size)); clear hb) | (go_at_call 7; with_reducible refine (HCA.out _ HX7.out).mono ?_; rintro e w8 ⟨rfl, hb⟩; have HX8 := Lib.hid (HX7.out.trans (hb.mono HX7.out.size)); clear hb) | (go_at_call 7; with_reducible refine (HC1.out _ (HB4.out.trans (HX8.out.mono HB4.out.size))).mono ?_; rintro e w9 ⟨rfl, hb⟩; have HX9 := Lib.hid (HX8.out.trans (hb.mono HX8.out.size)); clear hb) | (go_at_call 7; with_reducible refine (HC2.out _ (HB4.out.trans (HX9.out.mono HB4.out.size))).mono ?_; rintro e w10 ⟨rfl, hb⟩; have HX10 := Lib.hid (HX9.out.trans (hb.mono HX9.out.size)); clear hb) | (go_at_call 8; with_reducible refine (HSH.out _ (HB4.out.trans (HX10.out.mono HB4.out.size))).mono ?_; rintro e w11 ⟨rfl, hb⟩; have HX11 := Lib.hid (HX10.out.trans (hb.mono HX10.out.size)); clear hb))
          go_ret
          exact ⟨rfl, HB4.out.trans (HX11.out.mono HB4.out.size)⟩
end Go.Proofs.YtaoepeiadhdbaaaDoor.ND
