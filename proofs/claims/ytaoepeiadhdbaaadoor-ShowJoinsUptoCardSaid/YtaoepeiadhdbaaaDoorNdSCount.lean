/- show.Count of noads, walked. -/
import Derived.Test.YtaoepeiadhdbaaaDoorNdCounts
import Derived.Test.YtaoepeiadhdbaaaDoorKeptT
import Derived.Lib.SmallJoins
import Derived.Deep.CutRange
namespace Go.Proofs.YtaoepeiadhdbaaaDoor.ND
open Go.Shelf Go.Sort Go.Proofs.YtaoepeiadhdbaaaDoor.P Go.RowKit Go.Proofs.YtaoepeiadhdbaaaDoorW.PrintWords Go.Proofs.YtaoepeiadhdbaaaDoorW.PrintLast Go.Proofs.YtaoepeiadhdbaaaDoorW.PrintMore
set_option linter.unusedVariables false
set_option linter.unusedSimpArgs false
set_option maxRecDepth 100000 in
set_option maxHeartbeats 1000000 in
theorem scount_step {α : Type} (K : World → α → List Value → Prop) (f : List α → Nat) (hK : ∀ {w w' : World}, Below w.heap.size w w' → ∀ (x : α) (cs : List Value), K w x cs → K w' x cs)
    (G : List α → Prop) (HF : ∀ (l : List α) (v : Value) (w : World), rdS (K w) 11 w v l → G l → Calls Tryd.prog 7 #[v] w fun e w' => e = .returned (.int .i64 (f l)) ∧ Below w.heap.size w w')
    (l : List (Nz α)) (A : Option Addr) (c : Nat) (w : World) (hr : rdS (rdZ K w) 11 w (.slice A l.length c) l) (hlen : l.length ≤ 2000000) (T : Nat) (hT : T = l.length + sumL (cntY f) l) (hT4 : T ≤ 4000000) (hpl : ∀ x ∈ l, x.parts.length ≤ 2000000 ∧ G x.sup ∧ G x.sub ∧ ∀ p ∈ x.parts, G p) :
    Calls Tryd.prog 7 #[.slice A l.length c] w fun e w' => e = .returned (.int .i64 (T : Int)) ∧ Below w.heap.size w w' := by
  have HR := Lib.hid hr
  have HTT := Lib.hid hT
  have HT4 := Lib.hid hT4
  have HPL := Lib.hid hpl
  clear hr hT hT4 hpl
  go_enter Tryd.func7, Tryd.ntmps7
  go_wp2
  go_loopg [3, 12] l.length (fun kq v3 v12 w' => ∃ (i : Nat) (n : Int), v3 = .int .i64 n ∧ v12 = .int .i64 (i : Int) ∧ Hid (kq + i = l.length) ∧ Hid (0 ≤ n ∧ n + ((sumL (cntY f) (l.drop i) : Nat) : Int) = (T : Int)) ∧ Below w.heap.size w w')
  case atStart => exact ⟨0, _, rfl, rfl, Lib.hid rfl, Lib.hid ⟨by omega, by rw [List.drop_zero, HTT.out]; omega⟩, Drawn0.below (by repeat (first | exact Drawn0.refl _ | apply Drawn0.step))⟩
  case round =>
    obtain ⟨i, n, rfl, rfl, HI, HN, hB⟩ := hrel
    by_cases hend : i = l.length
    · have hc : decide ((i : Int) < (l.length : Int)) = false := decide_eq_false (by omega)
      have hn : n = (T : Int) := by
        have := HN.out
        rw [hend, List.drop_length, sumL_nil] at this
        omega
      subst hn
      go_wp2
      go_ret
      exact ⟨rfl, hB⟩
    · have hlt : i < l.length := by have := HI.out; omega
      have hc : decide ((i : Int) < (l.length : Int)) = true := decide_eq_true (by omega)
      obtain ⟨ad, Ap, cp, Ar, cr, Au, cu, Ab, cb, rfl, c0, c1, c2, c3, c4, c5, c6, c7, c8, c9, c10, hp, hru, hu, hsb, _⟩ := elem_at HR.out hB i l[i] (List.getElem?_eq_getElem hlt)
      have hdrop := List.drop_eq_getElem_cons hlt
      obtain ⟨hxp, g1, g2, g3⟩ := HPL.out l[i] (List.getElem_mem hlt)
      have hY : sumL (cntY f) (l.drop i) = cntY f l[i] + sumL (cntY f) (l.drop (i + 1)) := by rw [hdrop, sumL_cons]
      generalize hx : l[i] = x at *
      obtain ⟨t, ht01, htt⟩ : ∃ t : Nat, t = (if toldB x.lim then 1 else 0) ∧ cntY f x = t + (f x.sup + f x.sub) + sumL f x.parts := ⟨_, rfl, rfl⟩
      obtain ⟨s1, s2, s3, s4, s5⟩ := num_count n t (f x.sup) (f x.sub) (sumL f x.parts) (sumL (cntY f) (l.drop (i + 1))) T HN.out.1 (by have := HN.out.2; rw [hY, htt] at this; exact this) HT4.out
      obtain ⟨go', rfl⟩ : ∃ g', gk = g' + 1 := ⟨gk - 1, by have := HI.out; omega⟩
      have HI2 : Hid (go' + (i + 1) = l.length) := Lib.hid (by have := HI.out; omega)
      have HWI := Lib.hid (wrap_nat i _ hlt hlen)
      have HS1 := Lib.hid s1
      have HS2 := Lib.hid s2
      have HS3 := Lib.hid s3
      have HN0 := Lib.hid (And.intro s4 s5)
      have HCp : Hid (∀ (p : List α) (v : Value), rdS (K w) 11 w v p → G p → ∀ w1, Below w.heap.size w w1 → Calls Tryd.prog 7 #[v] w1 fun e w' => e = .returned (.int .i64 (f p)) ∧ Below w1.heap.size w1 w') := Lib.hid fun p v hv hg w1 hb1 => HF p v w1 (rdS_imp hv (fun p u hc => (hb1.cell (World.block_lt_of_cell? w _ hc)).trans hc) (hK hb1)) hg
      have HP := Lib.hid hp
      have HXP := Lib.hid hxp
      have HT := Lib.hid fun w => told_calls x.kind x.cls x.rune x.n x.lim Ap x.parts.length cp Ar x.runes.length cr x.hs x.hb Au x.sup.length cu Ab x.sub.length cb w
      have HU := Lib.hid (HCp.out _ _ hu g1)
      have HS := Lib.hid (HCp.out _ _ hsb g2)
      have HG3 := Lib.hid g3
      clear g1 g2 g3 hp hru hu hsb hdrop hxp hY s1 s2 s3 s4 s5 htt HF
      go_upto_if 17 with (go_at_call 14; with_reducible refine (HT.out _).mono ?_; rintro e w1 ⟨rfl, hb1⟩; dsimp only)
      have hblk := (hb1.block wr.heap.size (by simp)).trans (heap_alloc_new wr _)
      have hB1 : Below w.heap.size w w1 := (hB.alloc hB.size _).trans (hb1.mono (by have := hB.size; simp; omega))
      have HT01 := Lib.hid ht01
      have HB1 := Lib.hid hB1
      clear ht01
      have HBK := Lib.hid hblk
      clear hblk hB1 hc c0 c1 c2 c3 c4 c5 c6 c7 c8 c9 c10 hb1
      go_cut [3, 12] from 12 to 41 (fun v3 v12 wc => v3 = .int .i64 (n + (t : Int)) ∧ v12 = .int .i64 (i : Int) ∧ wc = w1)
      case first =>
        have s2 := HS2.out
        have ht01 := HT01.out
        cases htl : toldB x.lim
        · rw [htl] at ht01
          subst ht01
          go_wp2_with fail
          go_meet
          exact ⟨by simp, rfl, rfl⟩
        · rw [htl] at ht01
          subst ht01
          go_wp2_with fail
          go_meet
          exact ⟨by first | rfl | (exact congrArg _ s2), rfl, rfl⟩
      case rest =>
        obtain ⟨rfl, rfl, rfl⟩ := hcut
        have d5 := Joins.cell_of_block HBK.out 5
        have d9 := Joins.cell_of_block HBK.out 9
        have d10 := Joins.cell_of_block HBK.out 10
        simp only [List.getElem?_toArray, List.getElem?_cons_succ, List.getElem?_cons_zero] at d5 d9 d10
        have k9 := kept_cell d9
        have k10 := kept_cell d10
        have hUk : ∀ p : Kept wc, _ := fun p => kept_calls (p := p) (HU.out p.w' (HB1.out.trans (p.h.mono HB1.out.size)))
        have hSk : ∀ p : Kept wc, _ := fun p => kept_calls (p := p) (HS.out p.w' (HB1.out.trans (p.h.mono HB1.out.size)))
        have hmx : Tryd.prog.follows .mixedOrders = true := by kernel_rfl
        go_upto_region 7 with fail
        refine wp_region_kept hmx (by kernel_rfl) ?_
        repeat (go_big_quiet_step (first | (with_reducible exact hUk _) | (with_reducible exact hSk _)))
        refine wpQuiet_nil ?_
        rintro _ ⟨pw, rfl⟩
        have p5 := kept_cell d5 pw
        have hBp : Below w.heap.size w pw.w' := HB1.out.trans (pw.h.mono HB1.out.size)
        have s1 := HS1.out
        have s3 := HS3.out
        first | rw [s1, s3] | rw [s3] | skip
        clear s1 s3 k9 k10 d5 d9 d10 hUk hSk
        go_wp2_with fail
        go_loopg [3, 32] x.parts.length (fun kq v3 v32 w' => ∃ (j : Nat) (n' : Int), v3 = .int .i64 n' ∧ v32 = .int .i64 (j : Int) ∧ Hid (kq + j = x.parts.length) ∧ Hid (0 ≤ n' ∧ n' + ((sumL f (x.parts.drop j) + sumL (cntY f) (l.drop (i + 1)) : Nat) : Int) = (T : Int)) ∧ Below w.heap.size w w')
        case atStart => exact ⟨0, _, rfl, rfl, Lib.hid rfl, Lib.hid (by rw [List.drop_zero]; exact HN0.out), hBp⟩
        case round =>
          obtain ⟨j, n', rfl, rfl, HJ, HM, hD⟩ := hrel
          clear p5 hBp
          by_cases hpend : j = x.parts.length
          · have hcj : decide ((j : Int) < (x.parts.length : Int)) = false := decide_eq_false (by omega)
            have HN2 : Hid (0 ≤ n' ∧ n' + ((sumL (cntY f) (l.drop (i + 1)) : Nat) : Int) = (T : Int)) := Lib.hid (by
              have := HM.out
              rw [hpend, List.drop_length, sumL_nil, Nat.zero_add] at this
              exact this)
            repeat (first | go_skip | go_guarded | go_step)
            have hwi := HWI.out
            go_roundg go'
            case measure => exact Nat.lt_succ_self _
            case rel => exact ⟨i + 1, n', rfl, by first | rfl | (rw [hwi]), HI2, HN2, hD⟩
          · have hjlt : j < x.parts.length := by have := HJ.out; omega
            have hcj : decide ((j : Int) < (x.parts.length : Int)) = true := decide_eq_true (by omega)
            obtain ⟨gj, rfl⟩ : ∃ g', gk = g' + 1 := ⟨gk - 1, by have := HJ.out; omega⟩
            have HJ2 : Hid (gj + (j + 1) = x.parts.length) := Lib.hid (by have := HJ.out; omega)
            obtain ⟨ap, vp', rfl, hpc, hpv⟩ := part_at HP.out j x.parts[j] (List.getElem?_eq_getElem hjlt)
            have hpc' := (hD.cell (World.block_lt_of_cell? w _ hpc)).trans hpc
            have hdj := List.drop_eq_getElem_cons hjlt
            obtain ⟨m1, m2, m3⟩ := num_part n' (f x.parts[j]) (sumL f (x.parts.drop (j + 1))) (sumL (cntY f) (l.drop (i + 1))) T HM.out.1 (by have := HM.out.2; rw [hdj, sumL_cons] at this; exact this) HT4.out
            have HC := Lib.hid (HCp.out _ _ hpv (HG3.out _ (List.getElem_mem hjlt)) _ hD)
            have HM1 := Lib.hid m1
            have HM2 := Lib.hid (And.intro m2 m3)
            have HWJ := Lib.hid (wrap_nat j _ hjlt HXP.out)
            clear m1 m2 m3 hdj hpc hpv
            go_wp2_with (go_at_call 7; with_reducible refine (HC.out).mono ?_; rintro e w3 ⟨rfl, hb3⟩)
            have m1 := HM1.out
            have hwj := HWJ.out
            go_roundg gj
            case measure => exact Nat.lt_succ_self _
            case rel => exact ⟨j + 1, n' + (f x.parts[j] : Int), by first | rfl | (rw [m1]), by first | rfl | (rw [hwj]), HJ2, HM2, hD.trans (hb3.mono hD.size)⟩
set_option maxRecDepth 100000 in
set_option maxHeartbeats 1000000 in
theorem scount_nil (A : Option Addr) (c : Nat) (w : World) : Calls Tryd.prog 7 #[.slice A 0 c] w fun e w' => e = .returned (.int .i64 0) ∧ Below w.heap.size w w' := by
  go_enter Tryd.func7, Tryd.ntmps7
  go_wp2
  go_loopg [3, 12] 0 (fun kq v3 v12 w' => v3 = .int .i64 0 ∧ v12 = .int .i64 0 ∧ Drawn0 w w')
  case atStart => exact ⟨rfl, rfl, by repeat (first | exact Drawn0.refl _ | apply Drawn0.step)⟩
  case round =>
    obtain ⟨rfl, rfl, hD⟩ := hrel
    go_wp2
    go_ret
    exact ⟨rfl, hD.below⟩
theorem wtZ_parts {α : Type} (g : α → Nat) (l : List (Nz α)) (x : Nz α) (h : x ∈ l) : x.parts.length ≤ sumL (wtZ g) l := by
  have h1 := sumL_mem (wtZ g) h
  have h2 := sumL_len (fun p => 1 + sumL g p) x.parts (fun _ _ => by omega)
  have h3 : wtZ g x = 1 + x.runes.length + sumL (fun p => 1 + sumL g p) x.parts + sumL g x.sup + sumL g x.sub := rfl
  omega
/-- What lies in a list weighs no more. -/
theorem wt_in {α : Type} (g : α → Nat) {l : List (Nz α)} {x : Nz α} (h : x ∈ l) {p : List α} (hp : p = x.sup ∨ p = x.sub ∨ p ∈ x.parts) : sumL g p ≤ sumL (wtZ g) l := by
  have h1 := sumL_mem (wtZ g) h
  have h3 : wtZ g x = 1 + x.runes.length + sumL (fun p => 1 + sumL g p) x.parts + sumL g x.sup + sumL g x.sub := rfl
  rcases hp with rfl | rfl | hp
  · omega
  · omega
  · have := sumL_mem (fun p => 1 + sumL g p) hp
    omega
theorem scount_all : ∀ (k : Nat) (l : List (Nn k)) (v : Value) (w : World), rdL k w v l → wtL k l ≤ 2000000 → Calls Tryd.prog 7 #[v] w fun e w' => e = .returned (.int .i64 (scnt k l)) ∧ Below w.heap.size w w'
  | 0, l, v, w, h, _ => by
    obtain ⟨A, c, rfl⟩ := slice_is h
    cases l with
    | nil => exact scount_nil A c w
    | cons x l => exact x.elim
  | k + 1, l, v, w, h, hw => by
    obtain ⟨A, c, rfl⟩ := slice_is h
    have hT := scnt_le (k + 1) l
    exact scount_step (rdN k) (scnt k) (fun {w w'} hb x cs hx => rdN_keep k (fun p u hc => (hb.cell (World.block_lt_of_cell? w _ hc)).trans hc) x cs hx) (fun q => sumL (wtN k) q ≤ 2000000) (fun q v w hq hq2 => scount_all k q v w hq hq2)
      l A c w h (Nat.le_trans (wtZ_pos (wtN k) l) hw) _ rfl (by have h1 : scnt (k + 1) l = l.length + sumL (cntY (scnt k)) l := rfl; omega) (fun x hx => ⟨Nat.le_trans (wtZ_parts (wtN k) l x hx) hw, Nat.le_trans (wt_in (wtN k) hx (.inl rfl)) hw, Nat.le_trans (wt_in (wtN k) hx (.inr (.inl rfl))) hw, fun p hp => Nat.le_trans (wt_in (wtN k) hx (.inr (.inr hp))) hw⟩)
end Go.Proofs.YtaoepeiadhdbaaaDoor.ND
