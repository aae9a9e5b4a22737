/- The writer's list, Check, Text; the plain law. -/
import Derived.Test.YtaoepeiadhdbaaaDoorShNuc
import Derived.Test.YtaoepeiadhdbaaaDoorNdRight
import Derived.Deep.CutBlock
namespace Go.Proofs.YtaoepeiadhdbaaaDoor.ND
open Go.Shelf Go.Sort Go.Proofs.YtaoepeiadhdbaaaDoor.P Go.RowKit Go.Proofs.YtaoepeiadhdbaaaDoorW.PrintWords Go.Proofs.YtaoepeiadhdbaaaDoorW.PrintLast Go.Proofs.YtaoepeiadhdbaaaDoorW.PrintMore
set_option linter.unusedVariables false
set_option linter.unusedSimpArgs false
theorem nuc_calls {α : Type} (K : World → α → List Value → Prop) (f : List α → List UInt8) (G : List α → Prop) (w0 : World) (b : Nat) (hT : LexTabs w0) (hF : LC K f G w0 b)
    (x : Nz α) (Ap : Option Addr) (cp : Nat) (Ar : Option Addr) (cr : Nat) (Au : Option Addr) (lu cu : Nat) (Ab : Option Addr) (lb cb : Nat) (out : List UInt8) (w : World) (hG : ∀ p ∈ x.parts, G p) (hown : ownB x = true)
    (hp : rdS (fun l cs => ∃ v, cs = [v] ∧ rdS (K w0) 11 w0 v l) 1 w0 (.slice Ap x.parts.length cp) x.parts) (hr : rdS (fun (n : Int) cs => cs = [.int .i64 n] ∧ inI n) 1 w0 (.slice Ar x.runes.length cr) x.runes)
    (hps : x.parts.length ≤ 2000000) (hw : Wb w0.heap.size b out w) (hb : Below w0.heap.size w0 w) (hlen : out.length + (nucL f x).length ≤ 140737488355328) :
    Calls Tryd.prog 20 #[.pointer (some ⟨b, 0, none⟩), .agg #[.int .i64 x.kind, .int .i64 x.cls, .int .i64 x.rune, .int .i64 x.n, .int .i64 x.lim, .slice Ap x.parts.length cp, .slice Ar x.runes.length cr, .bool x.hs, .bool x.hb, .slice Au lu cu, .slice Ab lb cb]] w fun e w' => e = .returned (.tuple #[]) ∧ Wb w0.heap.size b (out ++ nucL f x) w' ∧ Fr w0.heap.size b w w' := by
  obtain ⟨kind, cls, rune, n, lim, parts, runes, hs, hbb, sup, sub⟩ := x
  dsimp only at hG hown hp hr hps hlen ⊢
  by_cases h0 : kind = 0
  · subst h0
    exact nuc_0 K f G w0 b hT hF cls rune n lim parts Ap cp Ar runes cr hs hbb Au lu cu Ab lb cb out w hG hp hr hps hw hb _ rfl hlen
  by_cases h1 : kind = 1
  · subst h1
    have h2 : 0 ≤ cls ∧ cls ≤ 7 := by
      simp [ownB] at hown
      omega
    obtain rfl | rfl | rfl | rfl | rfl | rfl | rfl | rfl : cls = 0 ∨ cls = 1 ∨ cls = 2 ∨ cls = 3 ∨ cls = 4 ∨ cls = 5 ∨ cls = 6 ∨ cls = 7 := by omega
    · exact nuc_1_0 K f G w0 b hT hF rune n lim parts Ap cp Ar runes cr hs hbb Au lu cu Ab lb cb out w hG hp hr hps hw hb _ rfl hlen
    · exact nuc_1_1 K f G w0 b hT hF rune n lim parts Ap cp Ar runes cr hs hbb Au lu cu Ab lb cb out w hG hp hr hps hw hb _ rfl hlen
    · exact nuc_1_2 K f G w0 b hT hF rune n lim parts Ap cp Ar runes cr hs hbb Au lu cu Ab lb cb out w hG hp hr hps hw hb _ rfl hlen
    · exact nuc_1_3 K f G w0 b hT hF rune n lim parts Ap cp Ar runes cr hs hbb Au lu cu Ab lb cb out w hG hp hr hps hw hb _ rfl hlen
    · exact nuc_1_4 K f G w0 b hT hF rune n lim parts Ap cp Ar runes cr hs hbb Au lu cu Ab lb cb out w hG hp hr hps hw hb _ rfl hlen
    · exact nuc_1_5 K f G w0 b hT hF rune n lim parts Ap cp Ar runes cr hs hbb Au lu cu Ab lb cb out w hG hp hr hps hw hb _ rfl hlen
    · exact nuc_1_6 K f G w0 b hT hF rune n lim parts Ap cp Ar runes cr hs hbb Au lu cu Ab lb cb out w hG hp hr hps hw hb _ rfl hlen
    · exact nuc_1_7 K f G w0 b hT hF rune n lim parts Ap cp Ar runes cr hs hbb Au lu cu Ab lb cb out w hG hp hr hps hw hb _ rfl hlen
  by_cases h2 : kind = 2
  · subst h2
    have h3 : n = 0 ∨ n = 1 := by
      simp [ownB] at hown
      omega
    rcases h3 with rfl | rfl
    · exact nuc_2_0 K f G w0 b hT hF cls rune lim parts Ap cp Ar runes cr hs hbb Au lu cu Ab lb cb out w hG hp hr hps hw hb _ rfl hlen
    · exact nuc_2_1 K f G w0 b hT hF cls rune lim parts Ap cp Ar runes cr hs hbb Au lu cu Ab lb cb out w hG hp hr hps hw hb _ rfl hlen
  by_cases h3 : kind = 3
  · subst h3
    have h4 : parts.length = 1 ∨ parts.length = 2 := by
      simp [ownB] at hown
      omega
    match parts, h4 with
    | [p0], _ => exact nuc_3_1 K f G w0 b hT hF cls rune n lim p0 Ap cp Ar runes cr hs hbb Au lu cu Ab lb cb out w hG hp hr hps hw hb _ rfl hlen
    | [p0, p1], _ => exact nuc_3_2 K f G w0 b hT hF cls rune n lim p0 p1 Ap cp Ar runes cr hs hbb Au lu cu Ab lb cb out w hG hp hr hps hw hb _ rfl hlen
  by_cases h6 : kind = 6
  · subst h6
    exact nuc_6 K f G w0 b hT hF cls rune n lim parts Ap cp Ar runes cr hs hbb Au lu cu Ab lb cb out w hG hp hr hps hw hb _ rfl hlen
  by_cases h7 : kind = 7
  · subst h7
    have h8 : runes.length = parts.length + 1 := by
      simp [ownB, delimsB] at hown
      omega
    exact nuc_7 K f G w0 b hT hF cls rune n lim parts Ap cp Ar runes cr hs hbb Au lu cu Ab lb cb out w hG hp hr hps h8 hw hb _ rfl hlen
  by_cases h8 : kind = 8
  · subst h8
    have h9 : 1 ≤ n := by
      simp [ownB] at hown
      omega
    exact nuc_8 K f G w0 b hT hF cls rune n lim parts Ap cp Ar runes cr hs hbb Au lu cu Ab lb cb out w hG hp hr hps h9 hw hb _ rfl hlen
  by_cases h10 : kind = 10
  · subst h10
    have h9 : 0 ≤ n ∧ n < 4 := by
      simp [ownB] at hown
      omega
    obtain rfl | rfl | rfl | rfl : n = 0 ∨ n = 1 ∨ n = 2 ∨ n = 3 := by omega
    · exact nuc_10_0 K f G w0 b hT hF cls rune lim parts Ap cp Ar runes cr hs hbb Au lu cu Ab lb cb out w hG hp hr hps hw hb _ rfl hlen
    · exact nuc_10_1 K f G w0 b hT hF cls rune lim parts Ap cp Ar runes cr hs hbb Au lu cu Ab lb cb out w hG hp hr hps hw hb _ rfl hlen
    · exact nuc_10_2 K f G w0 b hT hF cls rune lim parts Ap cp Ar runes cr hs hbb Au lu cu Ab lb cb out w hG hp hr hps hw hb _ rfl hlen
    · exact nuc_10_3 K f G w0 b hT hF cls rune lim parts Ap cp Ar runes cr hs hbb Au lu cu Ab lb cb out w hG hp hr hps hw hb _ rfl hlen
  by_cases h11 : kind = 11
  · subst h11
    have h9 : -1000 ≤ n ∧ n ≤ 1000 := by
      simp [ownB] at hown
      omega
    exact nuc_11 K f G w0 b hT hF cls rune n lim parts Ap cp Ar runes cr hs hbb Au lu cu Ab lb cb out w hG hp hr hps h9.1 h9.2 hw hb _ rfl hlen
  by_cases h4 : kind = 4
  · subst h4
    exact nuc_4 K f G w0 b hT hF cls rune n lim parts Ap cp Ar runes cr hs hbb Au lu cu Ab lb cb out w hG hp hr hps hw hb _ rfl hlen
  by_cases h5 : kind = 5
  · subst h5
    exact nuc_5 K f G w0 b hT hF cls rune n lim parts Ap cp Ar runes cr hs hbb Au lu cu Ab lb cb out w hG hp hr hps hw hb _ rfl hlen
  by_cases h9 : kind = 9
  · subst h9
    exact nuc_9 K f G w0 b hT hF cls rune n lim parts Ap cp Ar runes cr hs hbb Au lu cu Ab lb cb out w hG hp hr hps hw hb _ rfl hlen
  simp [ownB, h0, h1, h2, h3, h4, h5, h6, h7, h8, h9, h10, h11] at hown
end Go.Proofs.YtaoepeiadhdbaaaDoor.ND
namespace Go.Proofs.YtaoepeiadhdbaaaDoor.ND
open Go.Shelf Go.Sort Go.Proofs.YtaoepeiadhdbaaaDoor.P Go.RowKit Go.Proofs.YtaoepeiadhdbaaaDoorW.PrintWords Go.Proofs.YtaoepeiadhdbaaaDoorW.PrintLast Go.Proofs.YtaoepeiadhdbaaaDoorW.PrintMore
set_option linter.unusedVariables false
set_option linter.unusedSimpArgs false
set_option maxHeartbeats 2000000 in
set_option maxRecDepth 100000 in
theorem list_step {α : Type} (K : World → α → List Value → Prop) (f : List α → List UInt8) (G : List α → Prop) (w0 : World) (b : Nat) (hT : LexTabs w0) (hF : LC K f G w0 b)
    (l : List (Nz α)) (A : Option Addr) (c : Nat) (out : List UInt8) (w : World) (hr : rdS (rdZ K w0) 11 w0 (.slice A l.length c) l) (hlen : l.length ≤ 2000000)
    (hl : ∀ x ∈ l, ownB x = true ∧ x.parts.length ≤ 2000000 ∧ G x.sup ∧ G x.sub ∧ ∀ p ∈ x.parts, G p) (hw : Wb w0.heap.size b out w) (hb : Below w0.heap.size w0 w) (hM : out.length + (lstL f l).length ≤ 140737488355328) :
    Calls Tryd.prog 11 #[.pointer (some ⟨b, 0, none⟩), .slice A l.length c] w fun e w' => e = .returned (.tuple #[]) ∧ Wb w0.heap.size b (out ++ lstL f l) w' ∧ Fr w0.heap.size b w w' := by
  have HR := Lib.hid hr
  have HFF := Lib.hid hF
  have HLL := Lib.hid hl
  have HW := Lib.hid hw
  have HB := Lib.hid hb
  have HM := Lib.hid hM
  have HTT := Lib.hid hT
  clear hr hF hl hw hb hM hT
  go_enter Tryd.func11, Tryd.ntmps11
  go_wp2
  go_loopg [8] l.length (fun kq v8 w' => ∃ (i : Nat) (o' : List UInt8), v8 = .int .i64 (i : Int) ∧ Hid (kq + i = l.length) ∧ Hid (o' ++ lstL f (l.drop i) = out ++ lstL f l) ∧ Hid (Wb w0.heap.size b o' w') ∧ Hid (Fr w0.heap.size b w w'))
  case atStart => exact ⟨0, out, rfl, Lib.hid rfl, Lib.hid (by rw [List.drop_zero]), HW, Lib.hid (Fr.refl _ _ _)⟩
  case round =>
    obtain ⟨i, o', rfl, HI, HO, HW1, HF1⟩ := hrel
    by_cases hend : i = l.length
    · have hc : decide ((i : Int) < (l.length : Int)) = false := decide_eq_false (by omega)
      have HO2 : Hid (o' = out ++ lstL f l) := Lib.hid (by
        have := HO.out
        rw [hend, List.drop_length] at this
        simpa [lstL] using this)
      go_wp2
      go_end0
      exact ⟨rfl, by rw [← HO2.out]; exact HW1.out, HF1.out⟩
    · have hlt : i < l.length := by have := HI.out; omega
      have hc : decide ((i : Int) < (l.length : Int)) = true := decide_eq_true (by omega)
      have HBR := Lib.hid (HB.out.trans HF1.out.below)
      obtain ⟨ad, Ap, cp, Ar, cr, Au, cu, Ab, cb, rfl, c0, c1, c2, c3, c4, c5, c6, c7, c8, c9, c10, hp, hru, hu, hsb, _⟩ := elem_at HR.out HBR.out i l[i] (List.getElem?_eq_getElem hlt)
      obtain ⟨hown, hxp, g1, g2, g3⟩ := HLL.out l[i] (List.getElem_mem hlt)
      have HO1 : Hid (o' ++ (itemL f l[i] ++ lstL f (l.drop (i + 1))) = out ++ lstL f l) := Lib.hid (by
        have := HO.out
        rw [List.drop_eq_getElem_cons hlt, lstL] at this
        exact this)
      generalize hx : l[i] = x at *
      obtain ⟨go', rfl⟩ : ∃ g', gk = g' + 1 := ⟨gk - 1, by have := HI.out; omega⟩
      have HI2 : Hid (go' + (i + 1) = l.length) := Lib.hid (by have := HI.out; omega)
      have HWI := Lib.hid (wrap_nat i _ hlt hlen)
      have HP := Lib.hid hp
      have HRU := Lib.hid hru
      have HU := Lib.hid hu
      have HS := Lib.hid hsb
      have HOW := Lib.hid hown
      have HXP := Lib.hid hxp
      have G1 := Lib.hid g1
      have G2 := Lib.hid g2
      have G3 := Lib.hid g3
      clear hp hru hu hsb hown hxp g1 g2 g3
      obtain ⟨Wa, hWa⟩ : ∃ Wa, wr.alloc (Obj.cells #[.int .i64 x.kind, .int .i64 x.cls, .int .i64 x.rune, .int .i64 x.n, .int .i64 x.lim, .slice Ap x.parts.length cp, .slice Ar x.runes.length cr, .bool x.hs, .bool x.hb, .slice Au x.sup.length cu, .slice Ab x.sub.length cb] 33) = Wa := ⟨_, rfl⟩
      have hbox := heap_alloc_new wr (Obj.cells #[.int .i64 x.kind, .int .i64 x.cls, .int .i64 x.rune, .int .i64 x.n, .int .i64 x.lim, .slice Ap x.parts.length cp, .slice Ar x.runes.length cr, .bool x.hs, .bool x.hb, .slice Au x.sup.length cu, .slice Ab x.sub.length cb] 33)
      have hFA := (Fr.refl w0.heap.size b wr).alloc HBR.out.size (Obj.cells #[.int .i64 x.kind, .int .i64 x.cls, .int .i64 x.rune, .int .i64 x.n, .int .i64 x.lim, .slice Ap x.parts.length cp, .slice Ar x.runes.length cr, .bool x.hs, .bool x.hb, .slice Au x.sup.length cu, .slice Ab x.sub.length cb] 33)
      have hwa := HW1.out.alloc (Obj.cells #[.int .i64 x.kind, .int .i64 x.cls, .int .i64 x.rune, .int .i64 x.n, .int .i64 x.lim, .slice Ap x.parts.length cp, .slice Ar x.runes.length cr, .bool x.hs, .bool x.hb, .slice Au x.sup.length cu, .slice Ab x.sub.length cb] 33)
      rw [hWa] at hbox hFA hwa
      have HBX : Hid (∀ w2, Fr w0.heap.size b Wa w2 → _) := Lib.hid fun w2 hf => box_kept hbox HW1.out hf
      have HFA := Lib.hid hFA
      have HX0 := Lib.hid hwa
      have HBA := Lib.hid (HBR.out.trans hFA.below)
      have HWE := Lib.hid hWa
      obtain ⟨k, hk⟩ : ∃ k, wr.heap.size = k := ⟨_, rfl⟩
      rw [hk] at HBX
      have HK := Lib.hid hk
      obtain ⟨O1, hO1⟩ : ∃ O1, o' ++ limW x.lim = O1 := ⟨_, rfl⟩
      obtain ⟨O2, hO2⟩ : ∃ O2, O1 ++ nucL f x = O2 := ⟨_, rfl⟩
      obtain ⟨O3, hO3⟩ : ∃ O3, O2 ++ (if x.hs then 94 :: bracesL f [x.sup] else []) = O3 := ⟨_, rfl⟩
      obtain ⟨O4, hO4⟩ : ∃ O4, O3 ++ (if x.hb then 95 :: bracesL f [x.sub] else []) = O4 := ⟨_, rfl⟩
      have HO4 : Hid (O4 ++ lstL f (l.drop (i + 1)) = out ++ lstL f l) := Lib.hid (by
        rw [← hO4, ← hO3, ← hO2, ← hO1, ← HO1.out]
        simp only [itemL, List.append_assoc])
      have HL4 : Hid (O4.length ≤ 140737488355328) := Lib.hid (by
        have h1 := congrArg List.length HO4.out
        have h2 := HM.out
        simp only [List.length_append] at h1 h2
        omega)
      have HL3 : Hid (O3.length ≤ 140737488355328) := Lib.hid (by have h1 := congrArg List.length hO4; have h2 := HL4.out; rw [List.length_append] at h1; omega)
      have HL2 : Hid (O2.length ≤ 140737488355328) := Lib.hid (by have h1 := congrArg List.length hO3; have h2 := HL3.out; rw [List.length_append] at h1; omega)
      have HL1 : Hid (O1.length ≤ 140737488355328) := Lib.hid (by have h1 := congrArg List.length hO2; have h2 := HL2.out; rw [List.length_append] at h1; omega)
      have HH1 := Lib.hid hO1
      have HH2 := Lib.hid hO2
      have HH3 := Lib.hid hO3
      have HH4 := Lib.hid hO4
      clear hbox hFA hwa hWa hk hO1 hO2 hO3 hO4
      go_upto_block 2 with fail
      rw [HWE.out, HK.out]
      clear c0 c1 c2 c3 c4 c5 c6 c7 c8 c9 c10 hc
      go_cut [8] from 8 to 47 (fun v8 wc => v8 = .int .i64 (i : Int) ∧ Hid (Wb w0.heap.size b O1 wc) ∧ Hid (Fr w0.heap.size b Wa wc))
      case first =>
        by_cases h1 : x.lim = 1
        · have e1 : (x.lim == 1) = true := by simp [h1]
          have HC := Lib.hid (sw_word w0.heap.size b o' ⟨#[108, 105, 109, 105, 116, 115, 32]⟩ [108, 105, 109, 105, 116, 115, 32] rfl Wa HX0.out (by have h2 := HL1.out; rw [← HH1.out, h1] at h2; simpa [limW] using h2) HBA.out.size)
          rw [show o' ++ (92 :: [108, 105, 109, 105, 116, 115, 32]) = O1 by rw [← HH1.out, h1]; rfl] at HC
          clear h1
          go_wp2_with (go_at_call 19; with_reducible refine (HC.out).mono ?_; rintro e w1 ⟨rfl, hw1, hf1⟩)
          go_meet
          exact ⟨rfl, Lib.hid hw1, Lib.hid hf1⟩
        · have e1 : (x.lim == 1) = false := by simp [h1]
          by_cases h2 : x.lim = 2
          · have e2 : (x.lim == 2) = true := by simp [h2]
            have HC := Lib.hid (sw_word w0.heap.size b o' ⟨#[110, 111, 108, 105, 109, 105, 116, 115, 32]⟩ [110, 111, 108, 105, 109, 105, 116, 115, 32] rfl Wa HX0.out (by have h3 := HL1.out; rw [← HH1.out, h2] at h3; simpa [limW] using h3) HBA.out.size)
            rw [show o' ++ (92 :: [110, 111, 108, 105, 109, 105, 116, 115, 32]) = O1 by rw [← HH1.out, h2]; rfl] at HC
            clear h1 h2
            go_wp2_with (go_at_call 19; with_reducible refine (HC.out).mono ?_; rintro e w1 ⟨rfl, hw1, hf1⟩)
            go_meet
            exact ⟨rfl, Lib.hid hw1, Lib.hid hf1⟩
          · have e2 : (x.lim == 2) = false := by simp [h2]
            have HX1 : Hid (Wb w0.heap.size b O1 Wa) := Lib.hid (by rw [← HH1.out, show limW x.lim = [] by simp [limW, h1, h2], List.append_nil]; exact HX0.out)
            clear h1 h2
            go_wp2_with fail
            go_meet
            exact ⟨rfl, HX1, Lib.hid (Fr.refl _ _ _)⟩
      case rest =>
        obtain ⟨rfl, HX1, HY1⟩ := hcut
        have HC := Lib.hid (nuc_calls K f G w0 b HTT.out HFF.out x Ap cp Ar cr Au x.sup.length cu Ab x.sub.length cb O1 wc G3.out HOW.out HP.out HRU.out HXP.out HX1.out (HBA.out.trans HY1.out.below) (by have h3 := HL2.out; rw [← HH2.out, List.length_append] at h3; exact h3))
        rw [HH2.out] at HC
        have c0 := nad_cells (HBX.out _ HY1.out) 0 _ rfl
        have c1 := nad_cells (HBX.out _ HY1.out) 1 _ rfl
        have c2 := nad_cells (HBX.out _ HY1.out) 2 _ rfl
        have c3 := nad_cells (HBX.out _ HY1.out) 3 _ rfl
        have c4 := nad_cells (HBX.out _ HY1.out) 4 _ rfl
        have c5 := nad_cells (HBX.out _ HY1.out) 5 _ rfl
        have c6 := nad_cells (HBX.out _ HY1.out) 6 _ rfl
        have c7 := nad_cells (HBX.out _ HY1.out) 7 _ rfl
        have c8 := nad_cells (HBX.out _ HY1.out) 8 _ rfl
        have c9 := nad_cells (HBX.out _ HY1.out) 9 _ rfl
        have c10 := nad_cells (HBX.out _ HY1.out) 10 _ rfl
        go_upto_if 26 with (go_at_call 20; with_reducible refine (HC.out).mono ?_; clear c0 c1 c2 c3 c4 c5 c6 c7 c8 c9 c10; rintro e w1 ⟨rfl, hw1, hf1⟩; have HX2 := Lib.hid hw1; have HY2 := Lib.hid (HY1.out.trans hf1); have c7 := nad_cells (HBX.out w1 HY2.out) 7 _ rfl; clear hw1 hf1)
        clear c7
        go_cut [8] from 8 to 47 (fun v8 wd => v8 = .int .i64 (i : Int) ∧ Hid (Wb w0.heap.size b O3 wd) ∧ Hid (Fr w0.heap.size b Wa wd))
        case first =>
          have c9 := nad_cells (HBX.out w1 HY2.out) 9 _ rfl
          have HO3 := HH3
          cases hh : x.hs
          · rw [hh] at HO3
            have HX3 : Hid (Wb w0.heap.size b O3 w1) := Lib.hid (by rw [← HO3.out]; simpa using HX2.out)
            go_wp2_with fail
            go_meet
            exact ⟨rfl, HX3, HY2⟩
          · rw [hh] at HO3
            have HLN : Hid (O2.length + (1 + (bracesL f [x.sup]).length) ≤ 140737488355328) := Lib.hid (by have h3 := HL3.out; rw [← HO3.out] at h3; simp only [if_true, List.length_append, List.length_cons] at h3; omega)
            have HC1 := Lib.hid (sw_byte w0.heap.size b O2 94 94 rfl w1 HX2.out (by have := HLN.out; omega) (HY2.out.size HBA.out.size))
            have HC2 := Lib.hid fun (w2 : World) (hw2 : Wb w0.heap.size b (O2 ++ [94]) w2) (hf2 : Fr w0.heap.size b Wa w2) => one_braces K f G w0 b HFF.out x.sup _ (O2 ++ [94]) w2 G1.out HU.out hw2 (HBA.out.trans hf2.below) (by have := HLN.out; rw [List.length_append]; simp only [List.length_cons, List.length_nil]; omega)
            rw [show O2 ++ [94] ++ bracesL f [x.sup] = O3 by rw [← HO3.out]; simp] at HC2
            go_wp2_with (first | (go_at_call 21; with_reducible refine (HC1.out).mono ?_; clear c9; rintro e w2 ⟨rfl, hw2, hf2⟩; have HX3 := Lib.hid hw2; have HY3 := Lib.hid (HY2.out.trans hf2); have c9 := nad_cells (HBX.out w2 HY3.out) 9 _ rfl; clear hw2 hf2) | (go_at_call 22; with_reducible refine (HC2.out _ HX3.out HY3.out).mono ?_; clear c9; rintro e w3 ⟨rfl, hw3, hf3⟩; have HX4 := Lib.hid hw3; have HY4 := Lib.hid (HY3.out.trans hf3); clear hw3 hf3))
            go_meet
            exact ⟨rfl, HX4, HY4⟩
        case rest =>
          obtain ⟨rfl, HX5, HY5⟩ := hcut
          have c8 := nad_cells (HBX.out wc HY5.out) 8 _ rfl
          have c10 := nad_cells (HBX.out wc HY5.out) 10 _ rfl
          have HO4' := HH4
          cases hh : x.hb
          · rw [hh] at HO4' c8
            have HX6 : Hid (Wb w0.heap.size b O4 wc) := Lib.hid (by rw [← HO4'.out]; simpa using HX5.out)
            go_wp2_with fail
            have hwi := HWI.out
            go_roundg go'
            case measure => exact Nat.lt_succ_self _
            case rel => exact ⟨i + 1, _, by first | rfl | (rw [hwi]), HI2, HO4, HX6, Lib.hid (HF1.out.trans (HFA.out.trans HY5.out))⟩
          · rw [hh] at HO4' c8
            have HLN : Hid (O3.length + (1 + (bracesL f [x.sub]).length) ≤ 140737488355328) := Lib.hid (by have h3 := HL4.out; rw [← HO4'.out] at h3; simp only [if_true, List.length_append, List.length_cons] at h3; omega)
            have HC1 := Lib.hid (sw_byte w0.heap.size b O3 95 95 rfl wc HX5.out (by have := HLN.out; omega) (HY5.out.size HBA.out.size))
            have HC2 := Lib.hid fun (w2 : World) (hw2 : Wb w0.heap.size b (O3 ++ [95]) w2) (hf2 : Fr w0.heap.size b Wa w2) => one_braces K f G w0 b HFF.out x.sub _ (O3 ++ [95]) w2 G2.out HS.out hw2 (HBA.out.trans hf2.below) (by have := HLN.out; rw [List.length_append]; simp only [List.length_cons, List.length_nil]; omega)
            rw [show O3 ++ [95] ++ bracesL f [x.sub] = O4 by rw [← HO4'.out]; simp] at HC2
            go_wp2_with (first | (go_at_call 21; with_reducible refine (HC1.out).mono ?_; clear c10; rintro e w2 ⟨rfl, hw2, hf2⟩; have HX3 := Lib.hid hw2; have HY3 := Lib.hid (HY5.out.trans hf2); have c10 := nad_cells (HBX.out w2 HY3.out) 10 _ rfl; clear hw2 hf2) | (go_at_call 22; with_reducible refine (HC2.out _ HX3.out HY3.out).mono ?_; clear c10; rintro e w3 ⟨rfl, hw3, hf3⟩; have HX4 := Lib.hid hw3; have HY4 := Lib.hid (HY3.out.trans hf3); clear hw3 hf3))
            have hwi := HWI.out
            go_roundg go'
            case measure => exact Nat.lt_succ_self _
            case rel => exact ⟨i + 1, _, by first | rfl | (rw [hwi]), HI2, HO4, HX4, Lib.hid (HF1.out.trans (HFA.out.trans HY4.out))⟩
end Go.Proofs.YtaoepeiadhdbaaaDoor.ND
namespace Go.Proofs.YtaoepeiadhdbaaaDoor.ND
open Go.Shelf Go.Sort Go.Proofs.YtaoepeiadhdbaaaDoor.P Go.RowKit Go.Proofs.YtaoepeiadhdbaaaDoorW.PrintWords Go.Proofs.YtaoepeiadhdbaaaDoorW.PrintLast Go.Proofs.YtaoepeiadhdbaaaDoorW.PrintMore
set_option linter.unusedVariables false
set_option linter.unusedSimpArgs false
theorem rightZ_of {α : Type} (f : List α → Bool) (x : Nz α) (h : rightZ f x = true) : ownB x = true ∧ f x.sup = true ∧ f x.sub = true ∧ ∀ p ∈ x.parts, f p = true := by
  unfold rightZ badB at h
  simp only [Bool.and_eq_true, Bool.not_eq_true', Bool.or_eq_false_iff, List.any_eq_false, Bool.not_eq_false'] at h
  obtain ⟨⟨⟨⟨⟨⟨h1, h2⟩, h3⟩, h4⟩, h5⟩, h6⟩, h7⟩ := h
  exact ⟨h1, h5, h6, fun p hp => by have := h7 p hp; simpa using this⟩
theorem list_all (w0 : World) (b : Nat) (hT : LexTabs w0) : ∀ (k : Nat), LC (rdN k) (stx k) (fun q => srt k q = true ∧ wtL k q ≤ 2000000) w0 b
  | 0 => fun p v out w hr hG hw hb hM => by
    obtain ⟨A, c, rfl, hl, h1, h2, h3⟩ := hr
    cases p with
    | cons x l => exact x.elim
    | nil =>
      have h := list_step (α := Empty) (fun _ _ _ => False) (fun _ => []) (fun _ => False) w0 b hT (fun p v out w _ hG => hG.elim) [] A c out w ⟨A, c, rfl, hl, rfl, h2, fun h => absurd h (by simp)⟩ (by simp) (fun x hx => by cases hx) hw hb hM
      exact h
  | k + 1 => fun p v out w hr hG hw hb hM => by
    obtain ⟨A, c, rfl⟩ := slice_is hr
    have hall : ∀ x ∈ p, rightZ (srt k) x = true := by
      have := hG.1
      unfold srt at this
      exact fun x hx => List.all_eq_true.1 this x hx
    have hwt : sumL (wtZ (wtN k)) p ≤ 2000000 := hG.2
    exact list_step (rdN k) (stx k) (fun q => srt k q = true ∧ wtL k q ≤ 2000000) w0 b hT (list_all w0 b hT k) p A c out w hr (Nat.le_trans (wtZ_pos (wtN k) p) hwt)
      (fun x hx => by
        obtain ⟨r1, r2, r3, r4⟩ := rightZ_of _ x (hall x hx)
        exact ⟨r1, Nat.le_trans (wtZ_parts (wtN k) p x hx) hwt, ⟨r2, Nat.le_trans (wt_in (wtN k) hx (.inl rfl)) hwt⟩, ⟨r3, Nat.le_trans (wt_in (wtN k) hx (.inr (.inl rfl))) hwt⟩, fun q hq => ⟨r4 q hq, Nat.le_trans (wt_in (wtN k) hx (.inr (.inr hq))) hwt⟩⟩)
      hw hb hM
/-- What Check answers. -/
def chkR (k : Nat) (l : List (Nn k)) : Int := if 64 < sdep k l then 8 else if 65535 < scnt k l then 7 else if srt k l then 0 else 5
set_option maxHeartbeats 1000000 in
set_option maxRecDepth 100000 in
theorem check_calls (k : Nat) (hk : k ≤ 1500000) (l : List (Nn k)) (v : Value) (w : World) (hT : LexTabs w) (hr : rdL k w v l) (hw : wtL k l ≤ 2000000) :
    Calls Tryd.prog 10 #[v] w fun e w' => e = .returned (.int .i64 (chkR k l)) ∧ Below w.heap.size w w' := by
  have HD := Lib.hid (depth_all k l v w hk hr hw)
  have HN := Lib.hid fun (w1 : World) (hb : Below w.heap.size w w1) => scount_all k l v w1 (rdL_below hr hb) hw
  have HR := Lib.hid fun (w1 : World) (hb : Below w.heap.size w w1) => right_all k l v w1 (hT.below hb) (rdL_below hr hb) hw
  obtain ⟨A, c, rfl⟩ := slice_is hr
  have HC : Hid (chkR k l = if 64 < sdep k l then 8 else if 65535 < scnt k l then 7 else if srt k l then 0 else 5) := Lib.hid rfl
  clear hr hT hw hk
  generalize chkR k l = R at *
  generalize l.length = n at *
  generalize sdep k l = D at *
  generalize scnt k l = N at *
  generalize srt k l = B at *
  by_cases h1 : 64 < D
  · have e1 : decide (64 < D) = true := decide_eq_true h1
    have e2 : decide ((64 : Int) < (D : Int)) = true := decide_eq_true (by omega)
    have HC1 : Hid (R = 8) := Lib.hid (by rw [HC.out, if_pos h1])
    clear h1
    go_enter Tryd.func10, Tryd.ntmps10
    go_wp2_with (go_at_call 17; with_reducible refine (HD.out).mono ?_; rintro e w1 ⟨rfl, hb1⟩)
    go_ret
    exact ⟨by rw [HC1.out]; rfl, hb1⟩
  have e1 : decide (64 < D) = false := decide_eq_false h1
  have e2 : decide ((64 : Int) < (D : Int)) = false := decide_eq_false (by omega)
  by_cases h2 : 65535 < N
  · have e3 : decide (65535 < N) = true := decide_eq_true h2
    have e4 : decide ((65535 : Int) < (N : Int)) = true := decide_eq_true (by omega)
    have HC1 : Hid (R = 7) := Lib.hid (by rw [HC.out, if_neg h1, if_pos h2])
    clear h1 h2
    go_enter Tryd.func10, Tryd.ntmps10
    go_wp2_with (first | (go_at_call 17; with_reducible refine (HD.out).mono ?_; rintro e w1 ⟨rfl, hb1⟩; have HB1 := Lib.hid hb1; clear hb1) | (go_at_call 7; with_reducible refine (HN.out _ HB1.out).mono ?_; rintro e w2 ⟨rfl, hb2⟩))
    go_ret
    exact ⟨by rw [HC1.out]; rfl, HB1.out.trans (hb2.mono HB1.out.size)⟩
  have e3 : decide (65535 < N) = false := decide_eq_false h2
  have e4 : decide ((65535 : Int) < (N : Int)) = false := decide_eq_false (by omega)
  cases B
  · have HC1 : Hid (R = 5) := Lib.hid (by rw [HC.out, if_neg h1, if_neg h2]; rfl)
    clear h1 h2
    go_enter Tryd.func10, Tryd.ntmps10
    go_wp2_with (first | (go_at_call 17; with_reducible refine (HD.out).mono ?_; rintro e w1 ⟨rfl, hb1⟩; have HB1 := Lib.hid hb1; clear hb1) | (go_at_call 7; with_reducible refine (HN.out _ HB1.out).mono ?_; rintro e w2 ⟨rfl, hb2⟩; have HB2 := Lib.hid (HB1.out.trans (hb2.mono HB1.out.size)); clear hb2) | (go_at_call 18; with_reducible refine (HR.out _ HB2.out).mono ?_; rintro e w3 ⟨rfl, hb3⟩))
    go_ret
    exact ⟨by rw [HC1.out]; rfl, HB2.out.trans (hb3.mono HB2.out.size)⟩
  · have HC1 : Hid (R = 0) := Lib.hid (by rw [HC.out, if_neg h1, if_neg h2]; rfl)
    clear h1 h2
    go_enter Tryd.func10, Tryd.ntmps10
    go_wp2_with (first | (go_at_call 17; with_reducible refine (HD.out).mono ?_; rintro e w1 ⟨rfl, hb1⟩; have HB1 := Lib.hid hb1; clear hb1) | (go_at_call 7; with_reducible refine (HN.out _ HB1.out).mono ?_; rintro e w2 ⟨rfl, hb2⟩; have HB2 := Lib.hid (HB1.out.trans (hb2.mono HB1.out.size)); clear hb2) | (go_at_call 18; with_reducible refine (HR.out _ HB2.out).mono ?_; rintro e w3 ⟨rfl, hb3⟩))
    go_ret
    exact ⟨by rw [HC1.out]; rfl, HB2.out.trans (hb3.mono HB2.out.size)⟩
end Go.Proofs.YtaoepeiadhdbaaaDoor.ND
namespace Go.Proofs.YtaoepeiadhdbaaaDoor.ND
open Go.Shelf Go.Sort Go.Proofs.YtaoepeiadhdbaaaDoor.P Go.RowKit Go.Proofs.YtaoepeiadhdbaaaDoorW.PrintWords Go.Proofs.YtaoepeiadhdbaaaDoorW.PrintLast Go.Proofs.YtaoepeiadhdbaaaDoorW.PrintMore
set_option linter.unusedVariables false
set_option linter.unusedSimpArgs false
/-- What Text answers. -/
def textR (k : Nat) (l : List (Nn k)) : List UInt8 × Int := if chkR k l ≠ 0 then ([], chkR k l) else if 65536 < (stx k l).length then ([], 7) else (stx k l, 0)
theorem chk_right (k : Nat) (l : List (Nn k)) (h : chkR k l = 0) : srt k l = true := by
  unfold chkR at h
  split at h
  · cases h
  · split at h
    · cases h
    · split at h
      · assumption
      · cases h
theorem wb_new (w : World) : Wb w.heap.size w.heap.size [] (w.alloc (Obj.cells #[.pointer none, .slice none 0 0] 41)) := by
  have hb := heap_alloc_new w (Obj.cells #[.pointer none, .slice none 0 0] 41)
  exact ⟨.inl ⟨Nat.le_refl _, .slice none 0 0, hb, World.ownsRowF_nil _ _ _ _, by simp [Value.ownBlock]⟩, fun _ => nad_cells hb 1 _ rfl⟩
set_option maxHeartbeats 1000000 in
set_option maxRecDepth 100000 in
theorem text_calls (k : Nat) (hk : k ≤ 1500000) (l : List (Nn k)) (v : Value) (w : World) (hT : LexTabs w) (hr : rdL k w v l) (hw : wtL k l ≤ 2000000) (hM : srt k l = true → (stx k l).length ≤ 140737488355328) :
    Calls Tryd.prog 6 #[v] w fun e w' => e = .returned (.tuple #[.string ⟨(textR k l).1.toArray⟩, .int .i64 (textR k l).2]) ∧ Below w.heap.size w w' := by
  have HC := Lib.hid (check_calls k hk l v w hT hr hw)
  have HL : Hid (∀ (w1 : World), Below w.heap.size w w1 → chkR k l = 0 → _) := Lib.hid fun w1 hb h0 => list_all w1 w1.heap.size (hT.below hb) k l v [] (w1.alloc (Obj.cells #[.pointer none, .slice none 0 0] 41)) (rdL_below hr hb) ⟨chk_right k l h0, hw⟩ (wb_new w1) ((Below.refl _ w1).alloc (Nat.le_refl _) _) (by simpa using hM (chk_right k l h0))
  have HTX : Hid (textR k l = if chkR k l ≠ 0 then ([], chkR k l) else if 65536 < (stx k l).length then ([], 7) else (stx k l, 0)) := Lib.hid rfl
  obtain ⟨A, c, rfl⟩ := slice_is hr
  clear hr hT hw hk hM
  generalize textR k l = TR at *
  generalize l.length = n at *
  generalize chkR k l = R at *
  generalize stx k l = S at *
  by_cases h0 : R = 0
  · subst h0
    have HL2 : Hid (∀ (w1 : World), Below w.heap.size w w1 → Calls Tryd.prog 11 #[.pointer (some ⟨w1.heap.size, 0, none⟩), .slice A n c] (w1.alloc (Obj.cells #[.pointer none, .slice none 0 0] 41)) fun e w' => e = .returned (.tuple #[]) ∧ Wb w1.heap.size w1.heap.size S w' ∧ Fr w1.heap.size w1.heap.size (w1.alloc (Obj.cells #[.pointer none, .slice none 0 0] 41)) w') := Lib.hid fun w1 hb => by
      have h := HL.out w1 hb rfl
      rw [List.nil_append] at h
      exact h
    clear HL
    by_cases h1 : 65536 < S.length
    · have e1 : decide (65536 < S.length) = true := decide_eq_true h1
      have e2 : decide ((65536 : Int) < (S.length : Int)) = true := decide_eq_true (by omega)
      have HT1 : Hid (TR = ([], 7)) := Lib.hid (by rw [HTX.out, if_neg (by simp), if_pos h1])
      clear h1
      go_enter Tryd.func6, Tryd.ntmps6
      go_wp2_with (first | (go_at_call 10; with_reducible refine (HC.out).mono ?_; rintro e w1 ⟨rfl, hb1⟩; have HB1 := Lib.hid hb1; clear hb1) | (go_at_call 11; with_reducible refine (HL2.out _ HB1.out).mono ?_; rintro e w2 ⟨rfl, hw2, hf2⟩; have HX2 := Lib.hid hw2; have HF2 := Lib.hid hf2; clear hw2 hf2) | (go_at_call 12; with_reducible refine (sw_Len _ _ _ _ HX2.out).mono ?_; rintro e w3 ⟨rfl, rfl⟩))
      go_ret2
      exact ⟨by rw [HT1.out]; rfl, HB1.out.trans ((((Below.refl _ w1).alloc (Nat.le_refl _) _).trans HF2.out.below).mono HB1.out.size)⟩
    · have e1 : decide (65536 < S.length) = false := decide_eq_false h1
      have e2 : decide ((65536 : Int) < (S.length : Int)) = false := decide_eq_false (by omega)
      have HT1 : Hid (TR = (S, 0)) := Lib.hid (by rw [HTX.out, if_neg (by simp), if_neg h1])
      clear h1
      go_enter Tryd.func6, Tryd.ntmps6
      go_wp2_with (first | (go_at_call 10; with_reducible refine (HC.out).mono ?_; rintro e w1 ⟨rfl, hb1⟩; have HB1 := Lib.hid hb1; clear hb1) | (go_at_call 11; with_reducible refine (HL2.out _ HB1.out).mono ?_; rintro e w2 ⟨rfl, hw2, hf2⟩; have HX2 := Lib.hid hw2; have HF2 := Lib.hid hf2; clear hw2 hf2) | (go_at_call 12; with_reducible refine (sw_Len _ _ _ _ HX2.out).mono ?_; rintro e w3 ⟨rfl, rfl⟩) | (go_at_call 13; with_reducible refine (sw_String _ _ _ _ HX2.out).mono ?_; rintro e w4 ⟨rfl, hb4⟩))
      go_ret2
      exact ⟨by rw [HT1.out]; rfl, HB1.out.trans (((((Below.refl _ w1).alloc (Nat.le_refl _) _).trans HF2.out.below).trans hb4).mono HB1.out.size)⟩
  · have e0 : (R != 0) = true := by simp [h0]
    have HT1 : Hid (TR = ([], R)) := Lib.hid (by rw [HTX.out, if_pos h0])
    clear h0 HL
    go_enter Tryd.func6, Tryd.ntmps6
    go_wp2_with (go_at_call 10; with_reducible refine (HC.out).mono ?_; rintro e w1 ⟨rfl, hb1⟩)
    go_ret2
    exact ⟨by rw [HT1.out]; rfl, hb1⟩
end Go.Proofs.YtaoepeiadhdbaaaDoor.ND
namespace Go.Proofs.YtaoepeiadhdbaaaDoor.ND
open Go.Proofs.YtaoepeiadhdbaaaDoor.P
set_option linter.unusedVariables false
theorem quoteL_le (c : Int) : (quoteL c).length ≤ 9 := by
  unfold quoteL quoteS
  have h1 := encode_size_le c
  have h2 := hexF_size c
  split
  · simp
  · split
    · simp; omega
    · split
      · simp; omega
      · simp; omega
theorem dec_le (n : Nat) (h : n < 10000) : (Lib.decDigits n).length ≤ 4 := by
  unfold Lib.decDigits
  split
  · simp
  · rw [List.length_append]
    unfold Lib.decDigits
    split
    · simp
    · rw [List.length_append]
      unfold Lib.decDigits
      split
      · simp
      · rw [List.length_append]
        unfold Lib.decDigits
        split
        · simp
        · omega
theorem itoa_le (n : Int) (h : -1000 ≤ n ∧ n ≤ 1000) : (Lib.itoa n).length ≤ 5 := by
  unfold Lib.itoa
  split
  · have := dec_le n.natAbs (by omega)
    have := dec_le (-n).toNat (by omega)
    simp
    omega
  · have := dec_le n.toNat (by omega)
    omega
theorem braces_le {α : Type} (g : α → Nat) (f : List α → List UInt8) (ps : List (List α)) (h : ∀ p ∈ ps, (f p).length ≤ 64 * sumL g p) : (bracesL f ps).length ≤ 64 * sumL (fun p => 1 + sumL g p) ps := by
  induction ps with
  | nil => simp [bracesL]
  | cons p ps ih =>
    have h1 := h p (by simp)
    have h2 := ih (fun q hq => h q (by simp [hq]))
    rw [bracesL, sumL_cons]
    simp only [List.length_cons, List.length_append]
    omega
theorem fence_le {α : Type} (g : α → Nat) (f : List α → List UInt8) : ∀ (ps : List (List α)) (rs : List Int) (b : Bool), (∀ p ∈ ps, (f p).length ≤ 64 * sumL g p) → (fenceL f ps rs b).length ≤ 64 * sumL (fun p => 1 + sumL g p) ps + 16
  | [], rs, b, h => by
    have := quoteL_le (if rs.headD 0 = 0 then 46 else rs.headD 0)
    rw [fenceL, sumL_nil]
    simp only [List.length_append, List.length_cons, List.length_nil, delimL]
    omega
  | p :: ps, rs, b, h => by
    have h1 := h p (by simp)
    have h2 := fence_le g f ps rs.tail false (fun q hq => h q (by simp [hq]))
    have h3 := quoteL_le (if rs.headD 0 = 0 then 46 else rs.headD 0)
    rw [fenceL, sumL_cons]
    have h4 : (if b = true then [92, 108, 101, 102, 116, 32] else [92, 109, 105, 100, 100, 108, 101, 32] : List UInt8).length ≤ 8 := by split <;> decide
    simp only [List.length_append, delimL] at *
    omega
theorem matrix_le {α : Type} (g : α → Nat) (f : List α → List UInt8) (n : Int) : ∀ (ps : List (List α)) (i : Nat), (∀ p ∈ ps, (f p).length ≤ 64 * sumL g p) → (matrixL f n ps i).length ≤ 64 * sumL (fun p => 1 + sumL g p) ps + 1
  | [], i, h => by rw [matrixL, sumL_nil]; decide
  | p :: ps, i, h => by
    have h1 := h p (by simp)
    have h2 := matrix_le g f n ps (i + 1) (fun q hq => h q (by simp [hq]))
    rw [matrixL, sumL_cons]
    have h4 : (if i = 0 then [] else if (i : Int) % n = 0 then [92, 92] else [38] : List UInt8).length ≤ 2 := by (repeat' split) <;> decide
    simp only [List.length_append] at *
    omega
theorem clsW_le (c : Int) : (clsW c).length ≤ 9 := by unfold clsW; (repeat' split) <;> decide
theorem styW_le (c : Int) : (styW c).length ≤ 18 := by unfold styW; (repeat' split) <;> decide
theorem limW_le (c : Int) : (limW c).length ≤ 10 := by unfold limW; (repeat' split) <;> decide
theorem nuc_le {α : Type} (g : α → Nat) (f : List α → List UInt8) (x : Nz α) (hown : ownB x = true) (h : ∀ p ∈ x.parts, (f p).length ≤ 64 * sumL g p) : (nucL f x).length ≤ 64 * sumL (fun p => 1 + sumL g p) x.parts + 24 := by
  have hb := braces_le g f x.parts h
  have hq := quoteL_le x.rune
  have hc := clsW_le x.cls
  have hs := styW_le x.n
  have hfe := fence_le g f x.parts x.runes true h
  have hma := matrix_le g f x.n x.parts 0 h
  unfold nucL
  by_cases h0 : x.kind = 0
  · rw [if_pos h0]; omega
  rw [if_neg h0]
  by_cases h1 : x.kind = 1
  · rw [if_pos h1, List.length_append]
    have : (if x.cls = 0 then [] else 92 :: clsW x.cls : List UInt8).length ≤ 10 := by
      split
      · simp
      · simp only [List.length_cons]; omega
    omega
  rw [if_neg h1]
  by_cases h2 : x.kind = 2
  · rw [if_pos h2, List.length_append]
    have : (92 :: (if x.n = 0 then [97, 116, 111, 112] else [102, 114, 97, 99]) : List UInt8).length ≤ 5 := by split <;> decide
    omega
  rw [if_neg h2]
  by_cases h3 : x.kind = 3
  · rw [if_pos h3, List.length_append, List.length_append]
    have e : bracesL f x.parts = bracesL f (x.parts.take 1) ++ bracesL f (x.parts.drop 1) := by rw [← bracesL_append, List.take_append_drop]
    have e2 := congrArg List.length e
    rw [List.length_append] at e2
    have : (92 :: (if x.parts.length = 1 then [115, 113, 114, 116] else [114, 111, 111, 116]) : List UInt8).length ≤ 5 := by split <;> decide
    omega
  rw [if_neg h3]
  by_cases h6 : x.kind = 6
  · rw [if_pos h6, List.length_append, List.length_append, List.length_append]
    simp only [List.length_cons, List.length_nil]
    omega
  rw [if_neg h6]
  by_cases h7 : x.kind = 7
  · rw [if_pos h7]; omega
  rw [if_neg h7]
  by_cases h8 : x.kind = 8
  · rw [if_pos h8, List.length_append]
    simp only [List.length_cons, List.length_nil]
    omega
  rw [if_neg h8]
  by_cases h10 : x.kind = 10
  · rw [if_pos h10, List.length_cons]; omega
  rw [if_neg h10]
  by_cases h11 : x.kind = 11
  · rw [if_pos h11]
    have hn : -1000 ≤ x.n ∧ x.n ≤ 1000 := by
      unfold ownB at hown
      simp [h11] at hown
      omega
    have := itoa_le x.n hn
    unfold kernL
    simp only [List.length_append, List.length_cons, List.length_nil]
    omega
  rw [if_neg h11, List.length_append]
  have : (92 :: (if x.kind = 4 then [111, 118, 101, 114, 108, 105, 110, 101] else if x.kind = 5 then [117, 110, 100, 101, 114, 108, 105, 110, 101] else [118, 99, 101, 110, 116, 101, 114]) : List UInt8).length ≤ 10 := by (repeat' split) <;> decide
  omega
theorem lst_le {α : Type} (g : α → Nat) (f : List α → List UInt8) (G : List α → Prop) (hf : ∀ p, G p → (f p).length ≤ 64 * sumL g p) (l : List (Nz α)) (h : ∀ x ∈ l, ownB x = true ∧ G x.sup ∧ G x.sub ∧ ∀ p ∈ x.parts, G p) : (lstL f l).length ≤ 64 * sumL (wtZ g) l := by
  induction l with
  | nil => simp [lstL]
  | cons x l ih =>
    have h1 := ih (fun y hy => h y (by simp [hy]))
    obtain ⟨ho, hu, hb, hp⟩ := h x (by simp)
    have h2 := nuc_le g f x ho (fun p hpp => hf p (hp p hpp))
    have h3 := hf _ hu
    have h4 := hf _ hb
    have h5 := limW_le x.lim
    have h6 : wtZ g x = 1 + x.runes.length + sumL (fun p => 1 + sumL g p) x.parts + sumL g x.sup + sumL g x.sub := rfl
    have h7 : (if x.hs = true then 94 :: bracesL f [x.sup] else []).length ≤ 64 * sumL g x.sup + 3 := by
      split
      · simp only [bracesL, List.length_cons, List.length_append, List.length_nil]; omega
      · simp
    have h8 : (if x.hb = true then 95 :: bracesL f [x.sub] else []).length ≤ 64 * sumL g x.sub + 3 := by
      split
      · simp only [bracesL, List.length_cons, List.length_append, List.length_nil]; omega
      · simp
    rw [lstL, sumL_cons, itemL]
    simp only [List.length_append]
    omega
theorem stx_le : ∀ (k : Nat) (l : List (Nn k)), srt k l = true → (stx k l).length ≤ 64 * wtL k l
  | 0, l, _ => by simp [stx]
  | k + 1, l, h => by
    have hall : ∀ x ∈ l, rightZ (srt k) x = true := by
      unfold srt at h
      exact fun x hx => List.all_eq_true.1 h x hx
    exact lst_le (wtN k) (stx k) (fun q => srt k q = true) (stx_le k) l (fun x hx => by
      obtain ⟨r1, r2, r3, r4⟩ := rightZ_of _ x (hall x hx)
      exact ⟨r1, r2, r3, r4⟩)
/-- Text, without a condition on its length. -/
theorem text_all (k : Nat) (hk : k ≤ 1500000) (l : List (Nn k)) (v : Value) (w : World) (hT : LexTabs w) (hr : rdL k w v l) (hw : wtL k l ≤ 2000000) :
    Calls Tryd.prog 6 #[v] w fun e w' => e = .returned (.tuple #[.string ⟨(textR k l).1.toArray⟩, .int .i64 (textR k l).2]) ∧ RowKit.Below w.heap.size w w' :=
  text_calls k hk l v w hT hr hw (fun h => by have := stx_le k l h; omega)
end Go.Proofs.YtaoepeiadhdbaaaDoor.ND
namespace Go.Proofs.YtaoepeiadhdbaaaDoor.ND
set_option linter.unusedVariables false
theorem depM_app0 {α : Type} (f : List α → Nat) (l m : List (Nz α)) : depM f (l ++ m) 0 = max (depM f l 0) (depM f m 0) := by rw [depM_append, depM_max]
theorem cnt_app0 {α : Type} (f : List α → Nat) (l m : List (Nz α)) : (l ++ m).length + sumL (cntY f) (l ++ m) = (l.length + sumL (cntY f) l) + (m.length + sumL (cntY f) m) := by
  rw [sumL_append, List.length_append]
  omega
theorem sdep_app (k : Nat) (l m : List (Nn k)) : sdep k (l ++ m) = max (sdep k l) (sdep k m) := by
  cases k with
  | zero => rfl
  | succ k => exact depM_app0 (sdep k) l m
theorem scnt_app (k : Nat) (l m : List (Nn k)) : scnt k (l ++ m) = scnt k l + scnt k m := by
  cases k with
  | zero => rfl
  | succ k => exact cnt_app0 (scnt k) l m
theorem srt_app (k : Nat) (l m : List (Nn k)) : srt k (l ++ m) = (srt k l && srt k m) := by
  cases k with
  | zero => rfl
  | succ k => exact List.all_append
theorem stx_app (k : Nat) (l m : List (Nn k)) : stx k (l ++ m) = stx k l ++ stx k m := by
  cases k with
  | zero => rfl
  | succ k => exact lstL_append _ l m
theorem chk_zero (k : Nat) (l : List (Nn k)) : chkR k l = 0 ↔ sdep k l ≤ 64 ∧ scnt k l ≤ 65535 ∧ srt k l = true := by
  unfold chkR
  by_cases h1 : 64 < sdep k l
  · rw [if_pos h1]; constructor
    · intro h; cases h
    · intro h; omega
  rw [if_neg h1]
  by_cases h2 : 65535 < scnt k l
  · rw [if_pos h2]; constructor
    · intro h; cases h
    · intro h; omega
  rw [if_neg h2]
  cases h3 : srt k l
  · constructor
    · intro h; cases h
    · intro h; cases h.2.2
  · constructor
    · intro h; exact ⟨by omega, by omega, rfl⟩
    · intro h; rfl
theorem text_zero (k : Nat) (l : List (Nn k)) : (textR k l).2 = 0 ↔ chkR k l = 0 ∧ (stx k l).length ≤ 65536 := by
  unfold textR
  by_cases h : chkR k l = 0
  · rw [if_neg (by simp [h])]
    by_cases h2 : 65536 < (stx k l).length
    · rw [if_pos h2]
      constructor
      · intro h; cases h
      · intro h; omega
    · rw [if_neg h2]
      constructor
      · intro _; exact ⟨h, by omega⟩
      · intro _; rfl
  · rw [if_pos h]
    constructor
    · intro h'; exact absurd h' h
    · intro h'; exact absurd h'.1 h
theorem text_of (k : Nat) (l : List (Nn k)) (h : (textR k l).2 = 0) : (textR k l).1 = stx k l := by
  have h1 := (text_zero k l).1 h
  unfold textR
  rw [if_neg (by simp [h1.1]), if_neg (by omega)]
theorem joins_ok (k : Nat) (l m : List (Nn k)) (h : (textR k (l ++ m)).2 = 0) : (textR k l).2 = 0 ∧ (textR k m).2 = 0 ∧ (textR k (l ++ m)).1 = (textR k l).1 ++ (textR k m).1 := by
  have h0 := text_of k _ h
  obtain ⟨h1, h2⟩ := (text_zero k _).1 h
  obtain ⟨h3, h4, h5⟩ := (chk_zero k _).1 h1
  rw [sdep_app] at h3
  rw [scnt_app] at h4
  rw [srt_app, Bool.and_eq_true] at h5
  rw [stx_app, List.length_append] at h2
  have e1 : (textR k l).2 = 0 := (text_zero k l).2 ⟨(chk_zero k l).2 ⟨by omega, by omega, h5.1⟩, by omega⟩
  have e2 : (textR k m).2 = 0 := (text_zero k m).2 ⟨(chk_zero k m).2 ⟨by omega, by omega, h5.2⟩, by omega⟩
  exact ⟨e1, e2, by rw [h0, text_of k l e1, text_of k m e2, stx_app]⟩
theorem joins_bad (k : Nat) (l m : List (Nn k)) (h : (textR k (l ++ m)).2 ≠ 0) : (textR k l).2 ≠ 0 ∨ (textR k m).2 ≠ 0 ∨ (textR k (l ++ m)).2 = 7 := by
  by_cases hl : (textR k l).2 = 0
  · by_cases hm : (textR k m).2 = 0
    · right; right
      obtain ⟨a1, a2⟩ := (text_zero k l).1 hl
      obtain ⟨b1, b2⟩ := (text_zero k m).1 hm
      obtain ⟨a3, a4, a5⟩ := (chk_zero k l).1 a1
      obtain ⟨b3, b4, b5⟩ := (chk_zero k m).1 b1
      have hd : ¬ 64 < sdep k (l ++ m) := by rw [sdep_app]; omega
      have hs : srt k (l ++ m) = true := by rw [srt_app, a5, b5]; rfl
      by_cases hc : 65535 < scnt k (l ++ m)
      · have : chkR k (l ++ m) = 7 := by unfold chkR; rw [if_neg hd, if_pos hc]
        unfold textR
        rw [this]
        rfl
      · have hz : chkR k (l ++ m) = 0 := (chk_zero k _).2 ⟨by omega, by omega, hs⟩
        by_cases hx : (stx k (l ++ m)).length ≤ 65536
        · exact absurd ((text_zero k _).2 ⟨hz, hx⟩) h
        · unfold textR
          rw [if_neg (by simp [hz]), if_pos (by omega)]
    · exact .inr (.inl hm)
  · exact .inl hl
end Go.Proofs.YtaoepeiadhdbaaaDoor.ND
