/- show.depth of noads, walked. -/
import Derived.Test.YtaoepeiadhdbaaaDoorNdSCount
namespace Go.Proofs.YtaoepeiadhdbaaaDoor.ND
open Go.Shelf Go.Sort Go.Proofs.YtaoepeiadhdbaaaDoor.P Go.RowKit Go.Proofs.YtaoepeiadhdbaaaDoorW.PrintWords Go.Proofs.YtaoepeiadhdbaaaDoorW.PrintLast Go.Proofs.YtaoepeiadhdbaaaDoorW.PrintMore
set_option linter.unusedVariables false
set_option linter.unusedSimpArgs false
/-- What lies in the block of a noad's copy. -/
theorem nad_cells {w : World} {b : Nat} {cs : Array Value} {t : TypeId} {fz : Nat × Nat} (h : w.heap[b]? = some (.cells cs t fz)) (i : Nat) (v : Value) (hi : cs[i]? = some v) : w.cell? ⟨b, i, none⟩ = some v := (Joins.cell_of_block h i).trans hi
theorem blk_lt {w : World} {b : Nat} {o : Obj} (h : w.heap[b]? = some o) : b < w.heap.size := by
  rcases Nat.lt_or_ge b w.heap.size with h' | h'
  · exact h'
  · simp [Array.getElem?_eq_none h'] at h
theorem max_cast (o F : Nat) (h : F ≤ 3000000) : max (o : Int) (wrap64 (1 + (F : Int))) = ((max o (1 + F) : Nat) : Int) := by rw [wrap64_small (x := 1 + (F : Int)) (by omega) (by omega)]; omega
theorem max_cast2 (o F : Nat) : max (o : Int) (F : Int) = ((max o F : Nat) : Int) := by omega
theorem inc_cast (o : Nat) (h : o ≤ 3000001) : wrap64 ((o : Int) + 1) = ((o + 1 : Nat) : Int) := by rw [wrap64_small (x := (o : Int) + 1) (by omega) (by omega)]; omega
set_option maxRecDepth 100000 in
set_option maxHeartbeats 1000000 in
theorem depth_step {α : Type} (K : World → α → List Value → Prop) (f : List α → Nat) (hf : ∀ l, f l ≤ 3000000) (hK : ∀ {w w' : World}, Below w.heap.size w w' → ∀ (x : α) (cs : List Value), K w x cs → K w' x cs)
    (G : List α → Prop) (HF : ∀ (l : List α) (v : Value) (w : World), rdS (K w) 11 w v l → G l → Calls Tryd.prog 17 #[v] w fun e w' => e = .returned (.int .i64 (f l)) ∧ Below w.heap.size w w')
    (l : List (Nz α)) (A : Option Addr) (c : Nat) (w : World) (hr : rdS (rdZ K w) 11 w (.slice A l.length c) l) (hlen : l.length ≤ 2000000) (hpl : ∀ x ∈ l, x.parts.length ≤ 2000000 ∧ G x.sup ∧ G x.sub ∧ ∀ p ∈ x.parts, G p) :
    Calls Tryd.prog 17 #[.slice A l.length c] w fun e w' => e = .returned (.int .i64 ((depM f l 0 : Nat) : Int)) ∧ Below w.heap.size w w' := by
  have HR := Lib.hid hr
  have HPL := Lib.hid hpl
  have HLE := Lib.hid hf
  clear hr hpl hf
  go_enter Tryd.func17, Tryd.ntmps17
  go_wp2
  go_loopg [3, 11] l.length (fun kq v3 v11 w' => ∃ (i : Nat) (n : Nat), v3 = .int .i64 (n : Int) ∧ v11 = .int .i64 (i : Int) ∧ Hid (kq + i = l.length) ∧ Hid (depM f (l.drop i) n = depM f l 0) ∧ Below w.heap.size w w')
  case atStart => exact ⟨0, 0, rfl, rfl, Lib.hid rfl, Lib.hid (by rw [List.drop_zero]), Drawn0.below (by repeat (first | exact Drawn0.refl _ | apply Drawn0.step))⟩
  case round =>
    obtain ⟨i, n, rfl, rfl, HI, HN, hB⟩ := hrel
    by_cases hend : i = l.length
    · have hc : decide ((i : Int) < (l.length : Int)) = false := decide_eq_false (by omega)
      have hn : n = depM f l 0 := by
        have := HN.out
        rw [hend, List.drop_length] at this
        exact this
      subst hn
      go_wp2
      go_ret
      exact ⟨rfl, hB⟩
    · have hlt : i < l.length := by have := HI.out; omega
      have hc : decide ((i : Int) < (l.length : Int)) = true := decide_eq_true (by omega)
      obtain ⟨ad, Ap, cp, Ar, cr, Au, cu, Ab, cb, rfl, c0, c1, c2, c3, c4, c5, c6, c7, c8, c9, c10, hp, hru, hu, hsb, _⟩ := elem_at HR.out hB i l[i] (List.getElem?_eq_getElem hlt)
      have hdrop := List.drop_eq_getElem_cons hlt
      obtain ⟨hxp, g1, g2, g3⟩ := HPL.out l[i] (List.getElem_mem hlt)
      have hY : depM f (l.drop i) n = depM f (l.drop (i + 1)) (max n (depZ f l[i])) := by rw [hdrop]; rfl
      generalize hx : l[i] = x at *
      have hN2 : depM f (l.drop (i + 1)) (max n (depZ f x)) = depM f l 0 := hY.symm.trans HN.out
      obtain ⟨go', rfl⟩ : ∃ g', gk = g' + 1 := ⟨gk - 1, by have := HI.out; omega⟩
      have HI2 : Hid (go' + (i + 1) = l.length) := Lib.hid (by have := HI.out; omega)
      have HWI := Lib.hid (wrap_nat i _ hlt hlen)
      have HCp : Hid (∀ (p : List α) (v : Value), rdS (K w) 11 w v p → G p → ∀ w1, Below w.heap.size w w1 → Calls Tryd.prog 17 #[v] w1 fun e w' => e = .returned (.int .i64 (f p)) ∧ Below w1.heap.size w1 w') := Lib.hid fun p v hv hg w1 hb1 => HF p v w1 (rdS_imp hv (fun p u hc => (hb1.cell (World.block_lt_of_cell? w _ hc)).trans hc) (hK hb1)) hg
      have HP := Lib.hid hp
      have HXP := Lib.hid hxp
      have HN2 := Lib.hid hN2
      have HT := Lib.hid fun w => told_calls x.kind x.cls x.rune x.n x.lim Ap x.parts.length cp Ar x.runes.length cr x.hs x.hb Au x.sup.length cu Ab x.sub.length cb w
      have HU := Lib.hid (HCp.out _ _ hu g1)
      have HS := Lib.hid (HCp.out _ _ hsb g2)
      have HG3 := Lib.hid g3
      clear g1 g2 g3 hp hru hu hsb hdrop hxp hY hN2 HF
      by_cases hk : x.kind = 10 ∨ x.kind = 11
      · have hz : max n (depZ f x) = n := by unfold depZ; rw [if_pos hk]; omega
        have HN3 : Hid (depM f (l.drop (i + 1)) n = depM f l 0) := Lib.hid (by have := HN2.out; rwa [hz] at this)
        have hb : Below w.heap.size w (wr.alloc (Obj.cells #[.int .i64 x.kind, .int .i64 x.cls, .int .i64 x.rune, .int .i64 x.n, .int .i64 x.lim, .slice Ap x.parts.length cp, .slice Ar x.runes.length cr, .bool x.hs, .bool x.hb, .slice Au x.sup.length cu, .slice Ab x.sub.length cb] 33)) := hB.alloc hB.size _
        have HB2 := Lib.hid hb
        clear hz hb
        cases hk10 : (x.kind == 10)
        · have hk11 : (x.kind == 11) = true := by rcases hk with h | h <;> simp_all
          clear hk
          repeat (first | go_skip | go_guarded | go_step)
          have hwi := HWI.out
          go_roundg go'
          case measure => exact Nat.lt_succ_self _
          case rel => exact ⟨i + 1, n, rfl, by first | rfl | (rw [hwi]), HI2, HN3, HB2.out⟩
        · clear hk
          repeat (first | go_skip | go_guarded | go_step)
          have hwi := HWI.out
          go_roundg go'
          case measure => exact Nat.lt_succ_self _
          case rel => exact ⟨i + 1, n, rfl, by first | rfl | (rw [hwi]), HI2, HN3, HB2.out⟩
      · have hk10 : (x.kind == 10) = false := by simp; omega
        have hk11 : (x.kind == 11) = false := by simp; omega
        have HZ : Hid (depZ f x = depT (toldB x.lim) x.hs x.hb (depP f x.parts 1) (f x.sup) (f x.sub)) := Lib.hid (by unfold depZ; rw [if_neg hk])
        clear hk
        go_upto_region 7 with fail
        have hblk := heap_alloc_new wr (Obj.cells #[.int .i64 x.kind, .int .i64 x.cls, .int .i64 x.rune, .int .i64 x.n, .int .i64 x.lim, .slice Ap x.parts.length cp, .slice Ar x.runes.length cr, .bool x.hs, .bool x.hb, .slice Au x.sup.length cu, .slice Ab x.sub.length cb] 33)
        have hB2 : Below w.heap.size w (wr.alloc (Obj.cells #[.int .i64 x.kind, .int .i64 x.cls, .int .i64 x.rune, .int .i64 x.n, .int .i64 x.lim, .slice Ap x.parts.length cp, .slice Ar x.runes.length cr, .bool x.hs, .bool x.hb, .slice Au x.sup.length cu, .slice Ab x.sub.length cb] 33)) := hB.alloc hB.size _
        generalize hb : wr.heap.size = b at *
        generalize wr.alloc (Obj.cells #[.int .i64 x.kind, .int .i64 x.cls, .int .i64 x.rune, .int .i64 x.n, .int .i64 x.lim, .slice Ap x.parts.length cp, .slice Ar x.runes.length cr, .bool x.hs, .bool x.hb, .slice Au x.sup.length cu, .slice Ab x.sub.length cb] 33) = wa at *
        clear c0 c1 c2 c3 c4 c5 c6 c7 c8 c9 c10 hc hB hk10 hk11 hb
        have c5 := nad_cells hblk 5 _ rfl
        have HB2 := Lib.hid hB2
        have HBK := Lib.hid hblk
        clear hblk hB2
        go_wp2_with fail
        go_loopg [6, 26] x.parts.length (fun kq v6 v26 w' => ∃ (j : Nat) (o : Nat), v6 = .int .i64 (o : Int) ∧ v26 = .int .i64 (j : Int) ∧ Hid (kq + j = x.parts.length) ∧ Hid (depP f (x.parts.drop j) o = depP f x.parts 1 ∧ o ≤ 3000001) ∧ Hid (w'.heap[b]? = some (Obj.cells #[.int .i64 x.kind, .int .i64 x.cls, .int .i64 x.rune, .int .i64 x.n, .int .i64 x.lim, .slice Ap x.parts.length cp, .slice Ar x.runes.length cr, .bool x.hs, .bool x.hb, .slice Au x.sup.length cu, .slice Ab x.sub.length cb] 33)) ∧ Below w.heap.size w w')
        case atStart => exact ⟨0, 1, rfl, rfl, Lib.hid rfl, Lib.hid ⟨by rw [List.drop_zero], by omega⟩, HBK, HB2.out⟩
        case round =>
          obtain ⟨j, o, rfl, rfl, HJ, HM, HBJ, hD⟩ := hrel
          clear c5
          by_cases hpend : j = x.parts.length
          · have hcj : decide ((j : Int) < (x.parts.length : Int)) = false := decide_eq_false (by omega)
            have HO : Hid (o = depP f x.parts 1) := Lib.hid (by
              have := HM.out.1
              rw [hpend, List.drop_length] at this
              exact this)
            have c0 := nad_cells HBJ.out 0 _ rfl
            have c1 := nad_cells HBJ.out 1 _ rfl
            have c2 := nad_cells HBJ.out 2 _ rfl
            have c3 := nad_cells HBJ.out 3 _ rfl
            have c4 := nad_cells HBJ.out 4 _ rfl
            have c5 := nad_cells HBJ.out 5 _ rfl
            have c6 := nad_cells HBJ.out 6 _ rfl
            have c7 := nad_cells HBJ.out 7 _ rfl
            have c8 := nad_cells HBJ.out 8 _ rfl
            have c9 := nad_cells HBJ.out 9 _ rfl
            have c10 := nad_cells HBJ.out 10 _ rfl
            go_upto_if 37 with (go_at_call 14; with_reducible refine (HT.out _).mono ?_; rintro e w1 ⟨rfl, hb1⟩; dsimp only)
            clear c0 c1 c2 c3 c4 c5 c6 c7 c8 c9 c10 hcj
            have HB3 := Lib.hid (hD.trans (hb1.mono hD.size))
            have HBK3 := Lib.hid ((hb1.block b (blk_lt HBJ.out)).trans HBJ.out)
            have HOL := Lib.hid (inc_cast o HM.out.2)
            obtain ⟨o1, ho1⟩ : ∃ o1 : Nat, o1 = if toldB x.lim then o + 1 else o := ⟨_, rfl⟩
            have HO1 := Lib.hid ho1
            clear hb1 ho1 HBJ hD
            go_cut [6, 11] from 11 to 59 (fun v6 v11 wc => v6 = .int .i64 (o1 : Int) ∧ v11 = .int .i64 (i : Int) ∧ wc = w1)
            case first =>
              have ho1 := HO1.out
              have hol := HOL.out
              cases htl : toldB x.lim
              · rw [htl] at ho1
                subst ho1
                go_wp2_with fail
                go_meet
                exact ⟨rfl, rfl, rfl⟩
              · rw [htl] at ho1
                subst ho1
                go_wp2_with fail
                go_meet
                exact ⟨by first | rfl | (exact congrArg _ hol), rfl, rfl⟩
            case rest =>
              obtain ⟨rfl, rfl, rfl⟩ := hcut
              have c7 := nad_cells HBK3.out 7 _ rfl
              go_upto_if 41 with fail
              clear c7
              obtain ⟨o2, ho2⟩ : ∃ o2 : Nat, o2 = if x.hs then max o1 (1 + f x.sup) else o1 := ⟨_, rfl⟩
              have HO2 := Lib.hid ho2
              clear ho2
              go_cut [6, 11] from 11 to 59 (fun v6 v11 wd => v6 = .int .i64 (o2 : Int) ∧ v11 = .int .i64 (i : Int) ∧ Hid (wd.heap[b]? = some (Obj.cells #[.int .i64 x.kind, .int .i64 x.cls, .int .i64 x.rune, .int .i64 x.n, .int .i64 x.lim, .slice Ap x.parts.length cp, .slice Ar x.runes.length cr, .bool x.hs, .bool x.hb, .slice Au x.sup.length cu, .slice Ab x.sub.length cb] 33)) ∧ Below w.heap.size w wd)
              case first =>
                have ho2 := HO2.out
                cases hh : x.hs
                · rw [hh] at ho2
                  subst ho2
                  go_wp2_with fail
                  go_meet
                  exact ⟨rfl, rfl, HBK3, HB3.out⟩
                · rw [hh] at ho2
                  subst ho2
                  have c9 := nad_cells HBK3.out 9 _ rfl
                  have HC := Lib.hid (HU.out _ HB3.out)
                  have HMX := Lib.hid (max_cast o1 (f x.sup) (HLE.out _))
                  go_wp2_with (go_at_call 17; with_reducible refine (HC.out).mono ?_; rintro e w3 ⟨rfl, hb3⟩)
                  go_meet
                  exact ⟨by first | rfl | (exact congrArg _ HMX.out), rfl, Lib.hid ((hb3.block b (blk_lt HBK3.out)).trans HBK3.out), HB3.out.trans (hb3.mono HB3.out.size)⟩
              case rest =>
                obtain ⟨rfl, rfl, HBK4, hB4⟩ := hcut
                have HB4 := Lib.hid hB4
                clear hB4
                have c8 := nad_cells HBK4.out 8 _ rfl
                go_upto_if 49 with fail
                clear c8
                obtain ⟨o3, ho3⟩ : ∃ o3 : Nat, o3 = if x.hb then max o2 (1 + f x.sub) else o2 := ⟨_, rfl⟩
                have HO3 := Lib.hid ho3
                clear ho3
                go_cut [6, 11] from 11 to 59 (fun v6 v11 wd => v6 = .int .i64 (o3 : Int) ∧ v11 = .int .i64 (i : Int) ∧ Below w.heap.size w wd)
                case first =>
                  have ho3 := HO3.out
                  cases hh : x.hb
                  · rw [hh] at ho3
                    subst ho3
                    go_wp2_with fail
                    go_meet
                    exact ⟨rfl, rfl, HB4.out⟩
                  · rw [hh] at ho3
                    subst ho3
                    have c10 := nad_cells HBK4.out 10 _ rfl
                    have HC := Lib.hid (HS.out _ HB4.out)
                    have HMX := Lib.hid (max_cast o2 (f x.sub) (HLE.out _))
                    go_wp2_with (go_at_call 17; with_reducible refine (HC.out).mono ?_; rintro e w3 ⟨rfl, hb3⟩)
                    go_meet
                    exact ⟨by first | rfl | (exact congrArg _ HMX.out), rfl, HB4.out.trans (hb3.mono HB4.out.size)⟩
                case rest =>
                  obtain ⟨rfl, rfl, hB5⟩ := hcut
                  have HB5 := Lib.hid hB5
                  clear hB5
                  have HN5 : Hid (depM f (l.drop (i + 1)) (max n o3) = depM f l 0) := Lib.hid (by
                    have h1 := HN2.out
                    have h2 : o3 = depZ f x := by rw [HZ.out, HO3.out, HO2.out, HO1.out, HO.out]; rfl
                    rw [h2]
                    exact h1)
                  have HMX := Lib.hid (max_cast2 n o3)
                  go_wp2_with fail
                  have hwi := HWI.out
                  have hmx := HMX.out
                  go_roundg go'
                  case measure => exact Nat.lt_succ_self _
                  case rel => exact ⟨i + 1, max n o3, by first | rfl | (rw [hmx]), by first | rfl | (rw [hwi]), HI2, HN5, HB5.out⟩
          · have hjlt : j < x.parts.length := by have := HJ.out; omega
            have hcj : decide ((j : Int) < (x.parts.length : Int)) = true := decide_eq_true (by omega)
            obtain ⟨gj, rfl⟩ : ∃ g', gk = g' + 1 := ⟨gk - 1, by have := HJ.out; omega⟩
            have HJ2 : Hid (gj + (j + 1) = x.parts.length) := Lib.hid (by have := HJ.out; omega)
            obtain ⟨ap, vp', rfl, hpc, hpv⟩ := part_at HP.out j x.parts[j] (List.getElem?_eq_getElem hjlt)
            have hpc' := (hD.cell (World.block_lt_of_cell? w _ hpc)).trans hpc
            have hdj := List.drop_eq_getElem_cons hjlt
            have hle := HLE.out x.parts[j]
            have HM2 : Hid (depP f (x.parts.drop (j + 1)) (max o (1 + f x.parts[j])) = depP f x.parts 1 ∧ max o (1 + f x.parts[j]) ≤ 3000001) := Lib.hid ⟨by have := HM.out.1; rw [hdj] at this; exact this, by have := HM.out.2; omega⟩
            have HC := Lib.hid (HCp.out _ _ hpv (HG3.out _ (List.getElem_mem hjlt)) _ hD)
            have HWJ := Lib.hid (wrap_nat j _ hjlt HXP.out)
            have HMX := Lib.hid (max_cast o (f x.parts[j]) hle)
            clear hdj hpc hpv hle
            go_wp2_with (go_at_call 17; with_reducible refine (HC.out).mono ?_; rintro e w3 ⟨rfl, hb3⟩)
            have hmx := HMX.out
            have hwj := HWJ.out
            go_roundg gj
            case measure => exact Nat.lt_succ_self _
            case rel => exact ⟨j + 1, max o (1 + f x.parts[j]), by first | rfl | (rw [hmx]), by first | rfl | (rw [hwj]), HJ2, HM2, Lib.hid ((hb3.block b (blk_lt HBJ.out)).trans HBJ.out), hD.trans (hb3.mono hD.size)⟩
set_option maxRecDepth 100000 in
set_option maxHeartbeats 1000000 in
theorem depth_nil (A : Option Addr) (c : Nat) (w : World) : Calls Tryd.prog 17 #[.slice A 0 c] w fun e w' => e = .returned (.int .i64 0) ∧ Below w.heap.size w w' := by
  go_enter Tryd.func17, Tryd.ntmps17
  go_wp2
  go_loopg [3, 11] 0 (fun kq v3 v11 w' => v3 = .int .i64 0 ∧ v11 = .int .i64 0 ∧ Drawn0 w w')
  case atStart => exact ⟨rfl, rfl, by repeat (first | exact Drawn0.refl _ | apply Drawn0.step)⟩
  case round =>
    obtain ⟨rfl, rfl, hD⟩ := hrel
    go_wp2
    go_ret
    exact ⟨rfl, hD.below⟩
theorem depth_all : ∀ (k : Nat) (l : List (Nn k)) (v : Value) (w : World), k ≤ 1500000 → rdL k w v l → wtL k l ≤ 2000000 → Calls Tryd.prog 17 #[v] w fun e w' => e = .returned (.int .i64 (sdep k l)) ∧ Below w.heap.size w w'
  | 0, l, v, w, _, h, _ => by
    obtain ⟨A, c, rfl⟩ := slice_is h
    cases l with
    | nil => exact depth_nil A c w
    | cons x l => exact x.elim
  | k + 1, l, v, w, hk, h, hw => by
    obtain ⟨A, c, rfl⟩ := slice_is h
    exact depth_step (rdN k) (sdep k) (fun l => Nat.le_trans (sdep_le k l) (by omega)) (fun {w w'} hb x cs hx => rdN_keep k (fun p u hc => (hb.cell (World.block_lt_of_cell? w _ hc)).trans hc) x cs hx) (fun q => sumL (wtN k) q ≤ 2000000) (fun q v w hq hq2 => depth_all k q v w (by omega) hq hq2)
      l A c w h (Nat.le_trans (wtZ_pos (wtN k) l) hw) (fun x hx => ⟨Nat.le_trans (wtZ_parts (wtN k) l x hx) hw, Nat.le_trans (wt_in (wtN k) hx (.inl rfl)) hw, Nat.le_trans (wt_in (wtN k) hx (.inr (.inl rfl))) hw, fun p hp => Nat.le_trans (wt_in (wtN k) hx (.inr (.inr hp))) hw⟩)
end Go.Proofs.YtaoepeiadhdbaaaDoor.ND
