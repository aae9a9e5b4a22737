/- The law ShowInside, walked. -/
import Derived.Test.YtaoepeiadhdbaaaDoorShJoinA
import Derived.Test.YtaoepeiadhdbaaaDoorLawJoins21
namespace Go.Proofs.YtaoepeiadhdbaaaDoor.ND
open Go.Shelf Go.Sort Go.Proofs.YtaoepeiadhdbaaaDoor.P Go.RowKit Go.Proofs.YtaoepeiadhdbaaaDoorW.PrintWords Go.Proofs.YtaoepeiadhdbaaaDoorW.PrintLast Go.Proofs.YtaoepeiadhdbaaaDoorW.PrintMore
set_option linter.unusedVariables false
set_option linter.unusedSimpArgs false
set_option maxRecDepth 100000 in
set_option maxHeartbeats 1000000 in
theorem inside_calls (k : Nat) (hk : k + 1 ≤ 1500000) (l : List (Nn k)) (v : Value) (w : World) (hT : LexTabs w) (hr : rdL k w v l) (hw : wtL k l ≤ 1900000) :
    Calls Tryd.prog 4 #[v] w fun e w' => e = .returned (.bool true) ∧ Below w.heap.size w w' := by
  have HF1 := Lib.hid fun (w1 : World) (hb : Below w.heap.size w w1) => few_calls k l v w1 (rdL_below hr hb) (by omega)
  have HT1 := Lib.hid fun (w1 : World) (hb : Below w.heap.size w w1) => text_all k (by omega) l v w1 (hT.below hb) (rdL_below hr hb) (by omega)
  have HTG := Lib.hid fun (w1 : World) (hb : Below w.heap.size w w1) => group_text k hk l v w1 (hT.below hb) (rdL_below hr hb) hw
  have HTF := Lib.hid fun (w1 : World) (hb : Below w.heap.size w w1) => frac_text k hk l v w1 (hT.below hb) (rdL_below hr hb) hw
  have HTS := Lib.hid fun (w1 : World) (hb : Below w.heap.size w w1) => sub_text k hk l v w1 (hT.below hb) (rdL_below hr hb) hw
  have HSH := Lib.hid fun (w1 : World) (hb : Below w.heap.size w w1) => shown_calls w1 (hT.below hb)
  have hs1 := slice_is hr
  have HBAD := Lib.hid (inside_bad k l)
  have HOK := Lib.hid (inside_ok k l)
  have hlen := text_len k l
  clear hr hw hT
  have hB0 : Below w.heap.size w w := Below.refl _ _
  have HB0 := Lib.hid hB0
  clear hB0
  obtain ⟨A1, c1, rfl⟩ := hs1
  cases hf1 : fewR k l
  · rw [hf1] at HF1
    go_enter Tryd.func4, Tryd.ntmps4
    go_wp2_with (go_at_call 5; with_reducible refine (HF1.out _ HB0.out).mono ?_; rintro e w1 ⟨rfl, hd1⟩)
    go_ret
    exact ⟨rfl, hd1.below⟩
  rw [hf1] at HF1
  clear hf1
  generalize textR (k + 1) (gpN k l) = TG at *
  generalize textR (k + 1) (frN k l) = TF at *
  generalize textR (k + 1) (sbN k l) = TS at *
  generalize textR k l = T1 at *
  obtain ⟨t1, e1⟩ := T1
  obtain ⟨tg, eg⟩ := TG
  obtain ⟨tf, ef⟩ := TF
  obtain ⟨ts, es⟩ := TS
  dsimp only at HT1 HTG HTF HTS HBAD HOK hlen
  by_cases he : e1 = 0
  · subst he
    have hok := HOK.out rfl
    clear HBAD HOK
    rcases hok with rfl | rfl | ⟨rfl, rfl⟩ | ⟨rfl, rfl, rfl⟩ | ⟨rfl, rfl, rfl, q1, q2, q3⟩
    · clear hlen
      go_enter Tryd.func4, Tryd.ntmps4
      go_wp2_with (first | (go_at_call 5; with_reducible refine (HF1.out _ HB0.out).mono ?_; rintro e w1 ⟨rfl, hd1⟩; have HX1 := Lib.hid hd1.below; clear hd1) | (go_at_call 6; with_reducible refine (HT1.out _ HX1.out).mono ?_; rintro e w2 ⟨rfl, hb⟩; have HX2 := Lib.hid (HX1.out.trans (hb.mono HX1.out.size)); clear hb) | (go_at_call 6; with_reducible refine (HTG.out _ HX2.out).mono ?_; rintro e w3 ⟨rfl, hb⟩; have HX3 := Lib.hid (HX2.out.trans (hb.mono HX2.out.size)); clear hb) | (go_at_call 6; with_reducible refine (HTF.out _ HX3.out).mono ?_; rintro e w4 ⟨rfl, hb⟩; have HX4 := Lib.hid (HX3.out.trans (hb.mono HX3.out.size)); clear hb) | (go_at_call 6; with_reducible refine (HTS.out _ HX4.out).mono ?_; rintro e w5 ⟨rfl, hb⟩; have HX5 := Lib.hid (HX4.out.trans (hb.mono HX4.out.size)); clear hb) | (go_at_call 8; with_reducible refine (HSH.out _ HX5.out).mono ?_; rintro e w6 ⟨rfl, hb⟩; have HX6 := Lib.hid (HX5.out.trans (hb.mono HX5.out.size)); clear hb))
      go_ret
      exact ⟨rfl, HX6.out⟩
    · clear hlen
      go_enter Tryd.func4, Tryd.ntmps4
      go_wp2_with (first | (go_at_call 5; with_reducible refine (HF1.out _ HB0.out).mono ?_; rintro e w1 ⟨rfl, hd1⟩; have HX1 := Lib.hid hd1.below; clear hd1) | (go_at_call 6; with_reducible refine (HT1.out _ HX1.out).mono ?_; rintro e w2 ⟨rfl, hb⟩; have HX2 := Lib.hid (HX1.out.trans (hb.mono HX1.out.size)); clear hb) | (go_at_call 6; with_reducible refine (HTG.out _ HX2.out).mono ?_; rintro e w3 ⟨rfl, hb⟩; have HX3 := Lib.hid (HX2.out.trans (hb.mono HX2.out.size)); clear hb) | (go_at_call 6; with_reducible refine (HTF.out _ HX3.out).mono ?_; rintro e w4 ⟨rfl, hb⟩; have HX4 := Lib.hid (HX3.out.trans (hb.mono HX3.out.size)); clear hb) | (go_at_call 6; with_reducible refine (HTS.out _ HX4.out).mono ?_; rintro e w5 ⟨rfl, hb⟩; have HX5 := Lib.hid (HX4.out.trans (hb.mono HX4.out.size)); clear hb) | (go_at_call 8; with_reducible refine (HSH.out _ HX5.out).mono ?_; rintro e w6 ⟨rfl, hb⟩; have HX6 := Lib.hid (HX5.out.trans (hb.mono HX5.out.size)); clear hb))
      go_ret
      exact ⟨rfl, HX6.out⟩
    · clear hlen
      go_enter Tryd.func4, Tryd.ntmps4
      go_wp2_with (first | (go_at_call 5; with_reducible refine (HF1.out _ HB0.out).mono ?_; rintro e w1 ⟨rfl, hd1⟩; have HX1 := Lib.hid hd1.below; clear hd1) | (go_at_call 6; with_reducible refine (HT1.out _ HX1.out).mono ?_; rintro e w2 ⟨rfl, hb⟩; have HX2 := Lib.hid (HX1.out.trans (hb.mono HX1.out.size)); clear hb) | (go_at_call 6; with_reducible refine (HTG.out _ HX2.out).mono ?_; rintro e w3 ⟨rfl, hb⟩; have HX3 := Lib.hid (HX2.out.trans (hb.mono HX2.out.size)); clear hb) | (go_at_call 6; with_reducible refine (HTF.out _ HX3.out).mono ?_; rintro e w4 ⟨rfl, hb⟩; have HX4 := Lib.hid (HX3.out.trans (hb.mono HX3.out.size)); clear hb) | (go_at_call 6; with_reducible refine (HTS.out _ HX4.out).mono ?_; rintro e w5 ⟨rfl, hb⟩; have HX5 := Lib.hid (HX4.out.trans (hb.mono HX4.out.size)); clear hb) | (go_at_call 8; with_reducible refine (HSH.out _ HX5.out).mono ?_; rintro e w6 ⟨rfl, hb⟩; have HX6 := Lib.hid (HX5.out.trans (hb.mono HX5.out.size)); clear hb))
      go_ret
      exact ⟨rfl, HX6.out⟩
    · clear hlen
      go_enter Tryd.func4, Tryd.ntmps4
      go_wp2_with (first | (go_at_call 5; with_reducible refine (HF1.out _ HB0.out).mono ?_; rintro e w1 ⟨rfl, hd1⟩; have HX1 := Lib.hid hd1.below; clear hd1) | (go_at_call 6; with_reducible refine (HT1.out _ HX1.out).mono ?_; rintro e w2 ⟨rfl, hb⟩; have HX2 := Lib.hid (HX1.out.trans (hb.mono HX1.out.size)); clear hb) | (go_at_call 6; with_reducible refine (HTG.out _ HX2.out).mono ?_; rintro e w3 ⟨rfl, hb⟩; have HX3 := Lib.hid (HX2.out.trans (hb.mono HX2.out.size)); clear hb) | (go_at_call 6; with_reducible refine (HTF.out _ HX3.out).mono ?_; rintro e w4 ⟨rfl, hb⟩; have HX4 := Lib.hid (HX3.out.trans (hb.mono HX3.out.size)); clear hb) | (go_at_call 6; with_reducible refine (HTS.out _ HX4.out).mono ?_; rintro e w5 ⟨rfl, hb⟩; have HX5 := Lib.hid (HX4.out.trans (hb.mono HX4.out.size)); clear hb) | (go_at_call 8; with_reducible refine (HSH.out _ HX5.out).mono ?_; rintro e w6 ⟨rfl, hb⟩; have HX6 := Lib.hid (HX5.out.trans (hb.mono HX5.out.size)); clear hb))
      go_ret
      exact ⟨rfl, HX6.out⟩
    · subst q1 q2 q3
      rw [bytes_app, bytes_app] at HTG HTF HTS
      have hs1 : (⟨t1.toArray⟩ : ByteArray).size = t1.length := by simp [ByteArray.size]
      rw [← hs1] at hlen
      clear hs1
      generalize (⟨t1.toArray⟩ : ByteArray) = S1 at *
      have g1 := eq_false (show ¬ 9223372036854775807 < 1 + S1.size by omega)
      have g2 := eq_false (show ¬ 9223372036854775807 < 1 + S1.size + 1 by omega)
      have g3 := eq_false (show ¬ 9223372036854775807 < 6 + S1.size by omega)
      have g4 := eq_false (show ¬ 9223372036854775807 < 6 + S1.size + 3 by omega)
      have g5 := eq_false (show ¬ 9223372036854775807 < 3 + S1.size by omega)
      have g6 := eq_false (show ¬ 9223372036854775807 < 3 + S1.size + 1 by omega)
      clear hlen
      go_enter Tryd.func4, Tryd.ntmps4
      go_wp2_with (first | (go_at_call 5; with_reducible refine (HF1.out _ HB0.out).mono ?_; rintro e w1 ⟨rfl, hd1⟩; have HX1 := Lib.hid hd1.below; clear hd1) | (go_at_call 6; with_reducible refine (HT1.out _ HX1.out).mono ?_; rintro e w2 ⟨rfl, hb⟩; have HX2 := Lib.hid (HX1.out.trans (hb.mono HX1.out.size)); clear hb) | (go_at_call 6; with_reducible refine (HTG.out _ HX2.out).mono ?_; rintro e w3 ⟨rfl, hb⟩; have HX3 := Lib.hid (HX2.out.trans (hb.mono HX2.out.size)); clear hb) | (go_at_call 6; with_reducible refine (HTF.out _ HX3.out).mono ?_; rintro e w4 ⟨rfl, hb⟩; have HX4 := Lib.hid (HX3.out.trans (hb.mono HX3.out.size)); clear hb) | (go_at_call 6; with_reducible refine (HTS.out _ HX4.out).mono ?_; rintro e w5 ⟨rfl, hb⟩; have HX5 := Lib.hid (HX4.out.trans (hb.mono HX4.out.size)); clear hb) | (go_at_call 8; with_reducible refine (HSH.out _ HX5.out).mono ?_; rintro e w6 ⟨rfl, hb⟩; have HX6 := Lib.hid (HX5.out.trans (hb.mono HX5.out.size)); clear hb))
      go_ret
      exact ⟨rfl, HX6.out⟩
  · obtain ⟨n1, n2, n3⟩ := HBAD.out he
    have q1 : (e1 != 0) = true := by simp [he]
    have q2 : (eg != 0) = true := by simp [n1]
    have q3 : (ef != 0) = true := by simp [n2]
    have q4 : (es != 0) = true := by simp [n3]
    clear HBAD HOK n1 n2 n3 he hlen
    go_enter Tryd.func4, Tryd.ntmps4
    go_wp2_with (first | (go_at_call 5; with_reducible refine (HF1.out _ HB0.out).mono ?_; rintro e w1 ⟨rfl, hd1⟩; have HX1 := Lib.hid hd1.below; clear hd1) | (go_at_call 6; with_reducible refine (HT1.out _ HX1.out).mono ?_; rintro e w2 ⟨rfl, hb⟩; have HX2 := Lib.hid (HX1.out.trans (hb.mono HX1.out.size)); clear hb) | (go_at_call 6; with_reducible refine (HTG.out _ HX2.out).mono ?_; rintro e w3 ⟨rfl, hb⟩; have HX3 := Lib.hid (HX2.out.trans (hb.mono HX2.out.size)); clear hb) | (go_at_call 6; with_reducible refine (HTF.out _ HX3.out).mono ?_; rintro e w4 ⟨rfl, hb⟩; have HX4 := Lib.hid (HX3.out.trans (hb.mono HX3.out.size)); clear hb) | (go_at_call 6; with_reducible refine (HTS.out _ HX4.out).mono ?_; rintro e w5 ⟨rfl, hb⟩; have HX5 := Lib.hid (HX4.out.trans (hb.mono HX4.out.size)); clear hb) | (go_at_call 8; with_reducible refine (HSH.out _ HX5.out).mono ?_; rintro e w6 ⟨rfl, hb⟩; have HX6 := Lib.hid (HX5.out.trans (hb.mono HX5.out.size)); clear hb))
    go_ret
    exact ⟨rfl, HX6.out⟩
end Go.Proofs.YtaoepeiadhdbaaaDoor.ND
