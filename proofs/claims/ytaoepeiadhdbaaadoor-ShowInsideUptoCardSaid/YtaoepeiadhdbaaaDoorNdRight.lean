/- show.right of noads, walked. Written by wip/tools/genright.py. -/
import Derived.Test.YtaoepeiadhdbaaaDoorNdOwn
import Derived.Test.YtaoepeiadhdbaaaDoorNdDelimsA
namespace Go.Proofs.YtaoepeiadhdbaaaDoor.ND
open Go.Shelf Go.Sort Go.Proofs.YtaoepeiadhdbaaaDoor.P Go.RowKit Go.Proofs.YtaoepeiadhdbaaaDoorW.PrintWords Go.Proofs.YtaoepeiadhdbaaaDoorW.PrintLast Go.Proofs.YtaoepeiadhdbaaaDoorW.PrintMore
set_option linter.unusedVariables false
set_option linter.unusedSimpArgs false
/-- Is something left of a noad that it has no use for? -/
def leftB {α : Type} (x : Nz α) : Bool := (rCls x != 0) || (rRune x != 0) || (rN x != 0) || (rLim x != 0) || decide (0 < rPl x + rRl x)
def badB {α : Type} (f : List α → Bool) (x : Nz α) : Bool := !(ownB x) || leftB x || (!x.hs && decide (0 < x.sup.length)) || (!x.hb && decide (0 < x.sub.length)) || !(f x.sup) || !(f x.sub)
def rightZ {α : Type} (f : List α → Bool) (x : Nz α) : Bool := !(badB f x) && !(x.parts.any fun p => !(f p))
def srt : (k : Nat) → List (Nn k) → Bool
  | 0 => fun _ => true
  | k + 1 => fun l => l.all (rightZ (srt k))
theorem wrap_two (a b : Nat) (ha : a ≤ 2000000) (hb : b ≤ 2000000) : wrap64 ((a : Int) + (b : Int)) = ((a + b : Nat) : Int) := by rw [wrap64_small (x := (a : Int) + (b : Int)) (by omega) (by omega)]; omega
theorem rPl_le {α : Type} (x : Nz α) (h : x.parts.length ≤ 2000000) : rPl x ≤ 2000000 := by unfold rPl; split <;> omega
theorem rRl_le {α : Type} (x : Nz α) (h : x.runes.length ≤ 2000000) : rRl x ≤ 2000000 := by unfold rRl; split <;> omega
set_option maxRecDepth 100000 in
set_option maxHeartbeats 1000000 in
theorem right1_calls (v : Value) (b : Bool) (w : World) (h : Calls Tryd.prog 18 #[v] w fun e w' => e = .returned (.bool b) ∧ Below w.heap.size w w') :
    Calls Tryd.prog 26 #[v] w fun e w' => e = .returned (.bool (!b)) ∧ Below w.heap.size w w' := by
  have H := Lib.hid h
  clear h
  cases b
  all_goals
    go_enter Tryd.func26, Tryd.ntmps26
    go_wp2_with (go_at_call 18; with_reducible refine (H.out).mono ?_; rintro e w3 ⟨rfl, hb3⟩)
    go_ret
    exact ⟨rfl, hb3⟩
set_option maxRecDepth 100000 in
set_option maxHeartbeats 2000000 in
theorem right_step {α : Type} (K : World → α → List Value → Prop) (f : List α → Bool) (hK : ∀ {w w' : World}, Below w.heap.size w w' → ∀ (x : α) (cs : List Value), K w x cs → K w' x cs)
    (G : List α → Prop) (HF : ∀ (l : List α) (v : Value) (w : World), LexTabs w → rdS (K w) 11 w v l → G l → Calls Tryd.prog 18 #[v] w fun e w' => e = .returned (.bool (f l)) ∧ Below w.heap.size w w')
    (l : List (Nz α)) (A : Option Addr) (c : Nat) (w : World) (hT : LexTabs w) (hr : rdS (rdZ K w) 11 w (.slice A l.length c) l) (hlen : l.length ≤ 2000000) (hpl : ∀ x ∈ l, x.parts.length ≤ 2000000 ∧ x.runes.length ≤ 2000000 ∧ G x.sup ∧ G x.sub ∧ ∀ p ∈ x.parts, G p) :
    Calls Tryd.prog 18 #[.slice A l.length c] w fun e w' => e = .returned (.bool (l.all (rightZ f))) ∧ Below w.heap.size w w' := by
  have HR := Lib.hid hr
  have HPL := Lib.hid hpl
  have HTW := Lib.hid hT
  clear hr hpl hT
  go_enter Tryd.func18, Tryd.ntmps18
  go_wp2
  go_loopg [10] l.length (fun kq v10 w' => ∃ (i : Nat), v10 = .int .i64 (i : Int) ∧ Hid (kq + i = l.length) ∧ Hid (l.all (rightZ f) = (l.drop i).all (rightZ f)) ∧ Below w.heap.size w w')
  case atStart => exact ⟨0, rfl, Lib.hid rfl, Lib.hid (by rw [List.drop_zero]), Drawn0.below (by repeat (first | exact Drawn0.refl _ | apply Drawn0.step))⟩
  case round =>
    obtain ⟨i, rfl, HI, HN, hB⟩ := hrel
    by_cases hend : i = l.length
    · have hc : decide ((i : Int) < (l.length : Int)) = false := decide_eq_false (by omega)
      have HN1 : Hid (l.all (rightZ f) = true) := Lib.hid (by have := HN.out; rw [hend, List.drop_length] at this; exact this)
      go_wp2
      go_ret
      exact ⟨by rw [HN1.out]; rfl, hB⟩
    · have hlt : i < l.length := by have := HI.out; omega
      have hc : decide ((i : Int) < (l.length : Int)) = true := decide_eq_true (by omega)
      obtain ⟨ad, Ap, cp, Ar, cr, Au, cu, Ab, cb, rfl, c0, c1, c2, c3, c4, c5, c6, c7, c8, c9, c10, hp, hru, hu, hsb, _⟩ := elem_at HR.out hB i l[i] (List.getElem?_eq_getElem hlt)
      have hY : (l.drop i).all (rightZ f) = (rightZ f l[i] && (l.drop (i + 1)).all (rightZ f)) := by rw [List.drop_eq_getElem_cons hlt, List.all_cons]
      obtain ⟨hxp, hxr, g1, g2, g3⟩ := HPL.out l[i] (List.getElem_mem hlt)
      generalize hx : l[i] = x at *
      have HN2 := Lib.hid (HN.out.trans hY)
      obtain ⟨go', rfl⟩ : ∃ g', gk = g' + 1 := ⟨gk - 1, by have := HI.out; omega⟩
      have HI2 : Hid (go' + (i + 1) = l.length) := Lib.hid (by have := HI.out; omega)
      have HWI := Lib.hid (wrap_nat i _ hlt hlen)
      have HCp : Hid (∀ (p : List α) (v : Value), rdS (K w) 11 w v p → G p → ∀ w1, Below w.heap.size w w1 → Calls Tryd.prog 18 #[v] w1 fun e w' => e = .returned (.bool (f p)) ∧ Below w1.heap.size w1 w') := Lib.hid fun p v hv hg w1 hb1 => HF p v w1 (HTW.out.below hb1) (rdS_imp hv (fun p u hc => (hb1.cell (World.block_lt_of_cell? w _ hc)).trans hc) (hK hb1)) hg
      have HO : Hid (∀ w1, Below w.heap.size w w1 → _) := Lib.hid fun w1 hb1 => own_calls x Ap cp Ar cr Au x.sup.length cu Ab x.sub.length cb w1 (HTW.out.below hb1) hxp hxr (rdS_imp hru (fun p u hc => (hb1.cell (World.block_lt_of_cell? w _ hc)).trans hc) (fun _ _ h => h))
      have HP := Lib.hid hp
      have HU := Lib.hid (HCp.out _ _ hu g1)
      have HS := Lib.hid (HCp.out _ _ hsb g2)
      have HG3 := Lib.hid g3
      have HXP := Lib.hid hxp
      have HW2 := Lib.hid (wrap_two (rPl x) (rRl x) (rPl_le x hxp) (rRl_le x hxr))
      have hBa : Below w.heap.size w (wr.alloc (Obj.cells #[.int .i64 x.kind, .int .i64 x.cls, .int .i64 x.rune, .int .i64 x.n, .int .i64 x.lim, .slice Ap x.parts.length cp, .slice Ar x.runes.length cr, .bool x.hs, .bool x.hb, .slice Au x.sup.length cu, .slice Ab x.sub.length cb] 33)) := hB.alloc hB.size _
      have HBA := Lib.hid hBa
      have HF2 := Lib.hid HF
      clear hp hru hu hsb hxp hxr hY HF g1 g2 g3 hBa
      go_upto_region 5 with (go_at_call 24; with_reducible refine (HO.out _ HBA.out).mono ?_; rintro e w1 ⟨⟨Ap', cp', Ar', cr', rfl⟩, hb1⟩; dsimp only)
      clear c0 c1 c2 c3 c4 c5 c6 c7 c8 c9 c10 hc HO
      have hblk := ((hb1.block wr.heap.size (by simp)).trans (heap_alloc_new wr (Obj.cells #[.int .i64 x.kind, .int .i64 x.cls, .int .i64 x.rune, .int .i64 x.n, .int .i64 x.lim, .slice Ap x.parts.length cp, .slice Ar x.runes.length cr, .bool x.hs, .bool x.hb, .slice Au x.sup.length cu, .slice Ab x.sub.length cb] 33)))
      have hB1 := HBA.out.trans (hb1.mono HBA.out.size)
      have hB2 : Below w.heap.size w (w1.alloc (Obj.cells #[.int .i64 x.kind, .int .i64 (rCls x), .int .i64 (rRune x), .int .i64 (rN x), .int .i64 (rLim x), .slice Ap' (rPl x) cp', .slice Ar' (rRl x) cr', .bool x.hs, .bool x.hb, .slice Au x.sup.length cu, .slice Ab x.sub.length cb] 33)) := hB1.alloc hB1.size _
      have hblk4 := (heap_alloc_old w1 (Obj.cells #[.int .i64 x.kind, .int .i64 (rCls x), .int .i64 (rRune x), .int .i64 (rN x), .int .i64 (rLim x), .slice Ap' (rPl x) cp', .slice Ar' (rRl x) cr', .bool x.hs, .bool x.hb, .slice Au x.sup.length cu, .slice Ab x.sub.length cb] 33) (blk_lt hblk)).trans hblk
      have hblk6 := heap_alloc_new w1 (Obj.cells #[.int .i64 x.kind, .int .i64 (rCls x), .int .i64 (rRune x), .int .i64 (rN x), .int .i64 (rLim x), .slice Ap' (rPl x) cp', .slice Ar' (rRl x) cr', .bool x.hs, .bool x.hb, .slice Au x.sup.length cu, .slice Ab x.sub.length cb] 33)
      obtain ⟨b6, hb6⟩ : ∃ b, w1.heap.size = b := ⟨_, rfl⟩
      obtain ⟨b4, hb4⟩ : ∃ b, wr.heap.size = b := ⟨_, rfl⟩
      obtain ⟨W3, hW3⟩ : ∃ W3, w1.alloc (Obj.cells #[.int .i64 x.kind, .int .i64 (rCls x), .int .i64 (rRune x), .int .i64 (rN x), .int .i64 (rLim x), .slice Ap' (rPl x) cp', .slice Ar' (rRl x) cr', .bool x.hs, .bool x.hb, .slice Au x.sup.length cu, .slice Ab x.sub.length cb] 33) = W3 := ⟨_, rfl⟩
      rw [hb6, hW3] at hblk6
      rw [hW3] at hB2
      rw [hb4, hW3] at hblk4
      rw [hb6, hb4, hW3]
      have HB2 := Lib.hid hB2
      have HK4 := Lib.hid hblk4
      have HK6 := Lib.hid hblk6
      clear hblk hB1 hB2 hblk4 hblk6 hb6 hb4 hW3 hb1 hB HBA
      go_cut [7, 10] from 10 to 89 (fun v7 v10 wc => v7 = .bool (leftB x) ∧ v10 = .int .i64 (i : Int) ∧ wc = W3)
      case first =>
        have hL : leftB x = ((rCls x != 0) || (rRune x != 0) || (rN x != 0) || (rLim x != 0) || decide (0 < rPl x + rRl x)) := rfl
        have HL := Lib.hid hL
        clear hL
        have hw2 := HW2.out
        have c1 := nad_cells HK6.out 1 _ rfl
        have c2 := nad_cells HK6.out 2 _ rfl
        have c3 := nad_cells HK6.out 3 _ rfl
        have c4 := nad_cells HK6.out 4 _ rfl
        have c5 := nad_cells HK6.out 5 _ rfl
        have c6 := nad_cells HK6.out 6 _ rfl
        generalize rPl x + rRl x = S at *
        generalize rCls x = C1 at *
        generalize rRune x = C2 at *
        generalize rN x = C3 at *
        generalize rLim x = C4 at *
        cases e1 : (C1 != 0)
        rotate_left
        · go_wp2_with fail
          go_meet
          exact ⟨by rw [HL.out, e1]; rfl, rfl, rfl⟩
        cases e2 : (C2 != 0)
        rotate_left
        · go_wp2_with fail
          go_meet
          exact ⟨by rw [HL.out, e1, e2]; rfl, rfl, rfl⟩
        cases e3 : (C3 != 0)
        rotate_left
        · go_wp2_with fail
          go_meet
          exact ⟨by rw [HL.out, e1, e2, e3]; rfl, rfl, rfl⟩
        cases e4 : (C4 != 0)
        rotate_left
        · go_wp2_with fail
          go_meet
          exact ⟨by rw [HL.out, e1, e2, e3, e4]; rfl, rfl, rfl⟩
        go_wp2_with fail
        go_meet
        exact ⟨by rw [HL.out, e1, e2, e3, e4]; first | rfl | simp, rfl, rfl⟩
      case rest =>
        obtain ⟨rfl, rfl, rfl⟩ := hcut
        clear HK6
        go_upto_region 6 with fail
        go_cut [10, 85] from 10 to 89 (fun v10 v85 wd => v10 = .int .i64 (i : Int) ∧ v85 = .bool (badB f x) ∧ Hid (wd.heap[b4]? = some (Obj.cells #[.int .i64 x.kind, .int .i64 x.cls, .int .i64 x.rune, .int .i64 x.n, .int .i64 x.lim, .slice Ap x.parts.length cp, .slice Ar x.runes.length cr, .bool x.hs, .bool x.hb, .slice Au x.sup.length cu, .slice Ab x.sub.length cb] 33)) ∧ Below w.heap.size w wd)
        case first =>
          have HL : Hid (badB f x = (!(ownB x) || leftB x || (!x.hs && decide (0 < x.sup.length)) || (!x.hb && decide (0 < x.sub.length)) || !(f x.sup) || !(f x.sub))) := Lib.hid rfl
          have c7 := nad_cells HK4.out 7 _ rfl
          have c8 := nad_cells HK4.out 8 _ rfl
          have c9 := nad_cells HK4.out 9 _ rfl
          have c10 := nad_cells HK4.out 10 _ rfl
          have HC1 := Lib.hid (HU.out wc HB2.out)
          have HC2 := Lib.hid fun (w3 : World) (hb3 : Below wc.heap.size wc w3) => HS.out w3 (HB2.out.trans (hb3.mono HB2.out.size))
          clear HU HS HP HCp HG3
          generalize ownB x = O at *
          generalize leftB x = Lf at *
          generalize badB f x = BB at *
          generalize f x.sup = Fu at *
          generalize f x.sub = Fb at *
          generalize hhs : x.hs = Hs at *
          generalize hhb : x.hb = Hb at *
          clear hhs hhb
          cases O
          ·
            go_wp2_with fail
            go_meet
            exact ⟨rfl, by rw [HL.out]; first | rfl | (simp only [z1, z2]; rfl) | (rw [z1]; rfl) | (rw [z2]; rfl) | simp [*], HK4, HB2.out⟩
          ·
            cases Lf
            ·
              cases Hs
              ·
                cases z1 : decide (0 < x.sup.length)
                ·
                  cases Hb
                  ·
                    cases z2 : decide (0 < x.sub.length)
                    ·
                      cases Fu
                      ·
                        have d8 := fun (w3 : World) (hb3 : Below wc.heap.size wc w3) => (hb3.cell (World.block_lt_of_cell? wc _ c10)).trans c10
                        have D8 := Lib.hid d8
                        clear d8
                        go_wp2_with (first | (go_at_call 18; with_reducible refine (HC1.out).mono ?_; rintro e w3 ⟨rfl, hb3⟩; have c11 := D8.out w3 hb3; have HBB3 := Lib.hid hb3) | (go_at_call 18; with_reducible refine (HC2.out _ HBB3.out).mono ?_; rintro e w4 ⟨rfl, hb4⟩))
                        go_meet
                        exact ⟨rfl, by rw [HL.out]; first | rfl | (simp only [z1, z2]; rfl) | (rw [z1]; rfl) | (rw [z2]; rfl) | simp [*], Lib.hid ((HBB3.out.block b4 (blk_lt HK4.out)).trans HK4.out), HB2.out.trans (HBB3.out.mono HB2.out.size)⟩
                      ·
                        cases Fb
                        ·
                          have d8 := fun (w3 : World) (hb3 : Below wc.heap.size wc w3) => (hb3.cell (World.block_lt_of_cell? wc _ c10)).trans c10
                          have D8 := Lib.hid d8
                          clear d8
                          go_wp2_with (first | (go_at_call 18; with_reducible refine (HC1.out).mono ?_; rintro e w3 ⟨rfl, hb3⟩; have c11 := D8.out w3 hb3; have HBB3 := Lib.hid hb3) | (go_at_call 18; with_reducible refine (HC2.out _ HBB3.out).mono ?_; rintro e w4 ⟨rfl, hb4⟩))
                          go_meet
                          exact ⟨rfl, by rw [HL.out]; first | rfl | (simp only [z1, z2]; rfl) | (rw [z1]; rfl) | (rw [z2]; rfl) | simp [*], Lib.hid (((HBB3.out.trans (hb4.mono HBB3.out.size)).block b4 (blk_lt HK4.out)).trans HK4.out), HB2.out.trans ((HBB3.out.trans (hb4.mono HBB3.out.size)).mono HB2.out.size)⟩
                        ·
                          have d8 := fun (w3 : World) (hb3 : Below wc.heap.size wc w3) => (hb3.cell (World.block_lt_of_cell? wc _ c10)).trans c10
                          have D8 := Lib.hid d8
                          clear d8
                          go_wp2_with (first | (go_at_call 18; with_reducible refine (HC1.out).mono ?_; rintro e w3 ⟨rfl, hb3⟩; have c11 := D8.out w3 hb3; have HBB3 := Lib.hid hb3) | (go_at_call 18; with_reducible refine (HC2.out _ HBB3.out).mono ?_; rintro e w4 ⟨rfl, hb4⟩))
                          go_meet
                          exact ⟨rfl, by rw [HL.out]; first | rfl | (simp only [z1, z2]; rfl) | (rw [z1]; rfl) | (rw [z2]; rfl) | simp [*], Lib.hid (((HBB3.out.trans (hb4.mono HBB3.out.size)).block b4 (blk_lt HK4.out)).trans HK4.out), HB2.out.trans ((HBB3.out.trans (hb4.mono HBB3.out.size)).mono HB2.out.size)⟩
                    ·
                      go_wp2_with fail
                      go_meet
                      exact ⟨rfl, by rw [HL.out]; first | rfl | (simp only [z1, z2]; rfl) | (rw [z1]; rfl) | (rw [z2]; rfl) | simp [*], HK4, HB2.out⟩
                  ·
                    cases Fu
                    ·
                      have d8 := fun (w3 : World) (hb3 : Below wc.heap.size wc w3) => (hb3.cell (World.block_lt_of_cell? wc _ c10)).trans c10
                      have D8 := Lib.hid d8
                      clear d8
                      go_wp2_with (first | (go_at_call 18; with_reducible refine (HC1.out).mono ?_; rintro e w3 ⟨rfl, hb3⟩; have c11 := D8.out w3 hb3; have HBB3 := Lib.hid hb3) | (go_at_call 18; with_reducible refine (HC2.out _ HBB3.out).mono ?_; rintro e w4 ⟨rfl, hb4⟩))
                      go_meet
                      exact ⟨rfl, by rw [HL.out]; first | rfl | (simp only [z1, z2]; rfl) | (rw [z1]; rfl) | (rw [z2]; rfl) | simp [*], Lib.hid ((HBB3.out.block b4 (blk_lt HK4.out)).trans HK4.out), HB2.out.trans (HBB3.out.mono HB2.out.size)⟩
                    ·
                      cases Fb
                      ·
                        have d8 := fun (w3 : World) (hb3 : Below wc.heap.size wc w3) => (hb3.cell (World.block_lt_of_cell? wc _ c10)).trans c10
                        have D8 := Lib.hid d8
                        clear d8
                        go_wp2_with (first | (go_at_call 18; with_reducible refine (HC1.out).mono ?_; rintro e w3 ⟨rfl, hb3⟩; have c11 := D8.out w3 hb3; have HBB3 := Lib.hid hb3) | (go_at_call 18; with_reducible refine (HC2.out _ HBB3.out).mono ?_; rintro e w4 ⟨rfl, hb4⟩))
                        go_meet
                        exact ⟨rfl, by rw [HL.out]; first | rfl | (simp only [z1, z2]; rfl) | (rw [z1]; rfl) | (rw [z2]; rfl) | simp [*], Lib.hid (((HBB3.out.trans (hb4.mono HBB3.out.size)).block b4 (blk_lt HK4.out)).trans HK4.out), HB2.out.trans ((HBB3.out.trans (hb4.mono HBB3.out.size)).mono HB2.out.size)⟩
                      ·
                        have d8 := fun (w3 : World) (hb3 : Below wc.heap.size wc w3) => (hb3.cell (World.block_lt_of_cell? wc _ c10)).trans c10
                        have D8 := Lib.hid d8
                        clear d8
                        go_wp2_with (first | (go_at_call 18; with_reducible refine (HC1.out).mono ?_; rintro e w3 ⟨rfl, hb3⟩; have c11 := D8.out w3 hb3; have HBB3 := Lib.hid hb3) | (go_at_call 18; with_reducible refine (HC2.out _ HBB3.out).mono ?_; rintro e w4 ⟨rfl, hb4⟩))
                        go_meet
                        exact ⟨rfl, by rw [HL.out]; first | rfl | (simp only [z1, z2]; rfl) | (rw [z1]; rfl) | (rw [z2]; rfl) | simp [*], Lib.hid (((HBB3.out.trans (hb4.mono HBB3.out.size)).block b4 (blk_lt HK4.out)).trans HK4.out), HB2.out.trans ((HBB3.out.trans (hb4.mono HBB3.out.size)).mono HB2.out.size)⟩
                ·
                  go_wp2_with fail
                  go_meet
                  exact ⟨rfl, by rw [HL.out]; first | rfl | (simp only [z1, z2]; rfl) | (rw [z1]; rfl) | (rw [z2]; rfl) | simp [*], HK4, HB2.out⟩
              ·
                cases Hb
                ·
                  cases z2 : decide (0 < x.sub.length)
                  ·
                    cases Fu
                    ·
                      have d8 := fun (w3 : World) (hb3 : Below wc.heap.size wc w3) => (hb3.cell (World.block_lt_of_cell? wc _ c10)).trans c10
                      have D8 := Lib.hid d8
                      clear d8
                      go_wp2_with (first | (go_at_call 18; with_reducible refine (HC1.out).mono ?_; rintro e w3 ⟨rfl, hb3⟩; have c11 := D8.out w3 hb3; have HBB3 := Lib.hid hb3) | (go_at_call 18; with_reducible refine (HC2.out _ HBB3.out).mono ?_; rintro e w4 ⟨rfl, hb4⟩))
                      go_meet
                      exact ⟨rfl, by rw [HL.out]; first | rfl | (simp only [z1, z2]; rfl) | (rw [z1]; rfl) | (rw [z2]; rfl) | simp [*], Lib.hid ((HBB3.out.block b4 (blk_lt HK4.out)).trans HK4.out), HB2.out.trans (HBB3.out.mono HB2.out.size)⟩
                    ·
                      cases Fb
                      ·
                        have d8 := fun (w3 : World) (hb3 : Below wc.heap.size wc w3) => (hb3.cell (World.block_lt_of_cell? wc _ c10)).trans c10
                        have D8 := Lib.hid d8
                        clear d8
                        go_wp2_with (first | (go_at_call 18; with_reducible refine (HC1.out).mono ?_; rintro e w3 ⟨rfl, hb3⟩; have c11 := D8.out w3 hb3; have HBB3 := Lib.hid hb3) | (go_at_call 18; with_reducible refine (HC2.out _ HBB3.out).mono ?_; rintro e w4 ⟨rfl, hb4⟩))
                        go_meet
                        exact ⟨rfl, by rw [HL.out]; first | rfl | (simp only [z1, z2]; rfl) | (rw [z1]; rfl) | (rw [z2]; rfl) | simp [*], Lib.hid (((HBB3.out.trans (hb4.mono HBB3.out.size)).block b4 (blk_lt HK4.out)).trans HK4.out), HB2.out.trans ((HBB3.out.trans (hb4.mono HBB3.out.size)).mono HB2.out.size)⟩
                      ·
                        have d8 := fun (w3 : World) (hb3 : Below wc.heap.size wc w3) => (hb3.cell (World.block_lt_of_cell? wc _ c10)).trans c10
                        have D8 := Lib.hid d8
                        clear d8
                        go_wp2_with (first | (go_at_call 18; with_reducible refine (HC1.out).mono ?_; rintro e w3 ⟨rfl, hb3⟩; have c11 := D8.out w3 hb3; have HBB3 := Lib.hid hb3) | (go_at_call 18; with_reducible refine (HC2.out _ HBB3.out).mono ?_; rintro e w4 ⟨rfl, hb4⟩))
                        go_meet
                        exact ⟨rfl, by rw [HL.out]; first | rfl | (simp only [z1, z2]; rfl) | (rw [z1]; rfl) | (rw [z2]; rfl) | simp [*], Lib.hid (((HBB3.out.trans (hb4.mono HBB3.out.size)).block b4 (blk_lt HK4.out)).trans HK4.out), HB2.out.trans ((HBB3.out.trans (hb4.mono HBB3.out.size)).mono HB2.out.size)⟩
                  ·
                    go_wp2_with fail
                    go_meet
                    exact ⟨rfl, by rw [HL.out]; first | rfl | (simp only [z1, z2]; rfl) | (rw [z1]; rfl) | (rw [z2]; rfl) | simp [*], HK4, HB2.out⟩
                ·
                  cases Fu
                  ·
                    have d8 := fun (w3 : World) (hb3 : Below wc.heap.size wc w3) => (hb3.cell (World.block_lt_of_cell? wc _ c10)).trans c10
                    have D8 := Lib.hid d8
                    clear d8
                    go_wp2_with (first | (go_at_call 18; with_reducible refine (HC1.out).mono ?_; rintro e w3 ⟨rfl, hb3⟩; have c11 := D8.out w3 hb3; have HBB3 := Lib.hid hb3) | (go_at_call 18; with_reducible refine (HC2.out _ HBB3.out).mono ?_; rintro e w4 ⟨rfl, hb4⟩))
                    go_meet
                    exact ⟨rfl, by rw [HL.out]; first | rfl | (simp only [z1, z2]; rfl) | (rw [z1]; rfl) | (rw [z2]; rfl) | simp [*], Lib.hid ((HBB3.out.block b4 (blk_lt HK4.out)).trans HK4.out), HB2.out.trans (HBB3.out.mono HB2.out.size)⟩
                  ·
                    cases Fb
                    ·
                      have d8 := fun (w3 : World) (hb3 : Below wc.heap.size wc w3) => (hb3.cell (World.block_lt_of_cell? wc _ c10)).trans c10
                      have D8 := Lib.hid d8
                      clear d8
                      go_wp2_with (first | (go_at_call 18; with_reducible refine (HC1.out).mono ?_; rintro e w3 ⟨rfl, hb3⟩; have c11 := D8.out w3 hb3; have HBB3 := Lib.hid hb3) | (go_at_call 18; with_reducible refine (HC2.out _ HBB3.out).mono ?_; rintro e w4 ⟨rfl, hb4⟩))
                      go_meet
                      exact ⟨rfl, by rw [HL.out]; first | rfl | (simp only [z1, z2]; rfl) | (rw [z1]; rfl) | (rw [z2]; rfl) | simp [*], Lib.hid (((HBB3.out.trans (hb4.mono HBB3.out.size)).block b4 (blk_lt HK4.out)).trans HK4.out), HB2.out.trans ((HBB3.out.trans (hb4.mono HBB3.out.size)).mono HB2.out.size)⟩
                    ·
                      have d8 := fun (w3 : World) (hb3 : Below wc.heap.size wc w3) => (hb3.cell (World.block_lt_of_cell? wc _ c10)).trans c10
                      have D8 := Lib.hid d8
                      clear d8
                      go_wp2_with (first | (go_at_call 18; with_reducible refine (HC1.out).mono ?_; rintro e w3 ⟨rfl, hb3⟩; have c11 := D8.out w3 hb3; have HBB3 := Lib.hid hb3) | (go_at_call 18; with_reducible refine (HC2.out _ HBB3.out).mono ?_; rintro e w4 ⟨rfl, hb4⟩))
                      go_meet
                      exact ⟨rfl, by rw [HL.out]; first | rfl | (simp only [z1, z2]; rfl) | (rw [z1]; rfl) | (rw [z2]; rfl) | simp [*], Lib.hid (((HBB3.out.trans (hb4.mono HBB3.out.size)).block b4 (blk_lt HK4.out)).trans HK4.out), HB2.out.trans ((HBB3.out.trans (hb4.mono HBB3.out.size)).mono HB2.out.size)⟩
            ·
              go_wp2_with fail
              go_meet
              exact ⟨rfl, by rw [HL.out]; first | rfl | (simp only [z1, z2]; rfl) | (rw [z1]; rfl) | (rw [z2]; rfl) | simp [*], HK4, HB2.out⟩
        case rest =>
          obtain ⟨rfl, rfl, HK5, hB5⟩ := hcut
          have HB5 := Lib.hid hB5
          clear hB5 HK4 HB2
          have HRZ : Hid (rightZ f x = (!(badB f x) && !(x.parts.any fun p => !(f p)))) := Lib.hid rfl
          have HCN := Lib.hid (cont_noads K (fun p => !(f p)) x.parts Ap cp wc (rdS_imp HP.out (fun p u hc => (HB5.out.cell (World.block_lt_of_cell? w _ hc)).trans hc) (fun p cs h => by obtain ⟨v, e, hv⟩ := h; exact ⟨v, e, rdS_imp hv (fun p u hc => (HB5.out.cell (World.block_lt_of_cell? w _ hc)).trans hc) (hK HB5.out)⟩))
            (fun p hp v w1 hv hb1 => right1_calls v (f p) w1 (HF2.out p v w1 (HTW.out.below (HB5.out.trans (hb1.mono HB5.out.size))) (rdS_imp hv (fun p u hc => (hb1.cell (World.block_lt_of_cell? wc _ hc)).trans hc) (hK hb1)) (HG3.out p hp))) HXP.out)
          have c5 := nad_cells HK5.out 5 _ rfl
          clear HU HS HP HCp HG3
          generalize badB f x = BB at *
          generalize (x.parts.any fun p => !(f p)) = CC at *
          cases BB
          · cases CC
            · have HN3 : Hid (l.all (rightZ f) = (l.drop (i + 1)).all (rightZ f)) := Lib.hid (by rw [HN2.out, HRZ.out]; simp)
              go_wp2_with (go_at_call 25; with_reducible refine (HCN.out).mono ?_; rintro e w3 ⟨rfl, hb3⟩)
              have hwi := HWI.out
              go_roundg go'
              case measure => exact Nat.lt_succ_self _
              case rel => exact ⟨i + 1, by first | rfl | (rw [hwi]), HI2, HN3, HB5.out.trans (hb3.mono HB5.out.size)⟩
            · have HN3 : Hid (l.all (rightZ f) = false) := Lib.hid (by rw [HN2.out, HRZ.out]; simp)
              go_wp2_with (go_at_call 25; with_reducible refine (HCN.out).mono ?_; rintro e w3 ⟨rfl, hb3⟩)
              go_ret
              exact ⟨by rw [HN3.out]; rfl, HB5.out.trans (hb3.mono HB5.out.size)⟩
          · have HN3 : Hid (l.all (rightZ f) = false) := Lib.hid (by rw [HN2.out, HRZ.out]; simp)
            clear HCN
            go_wp2_with fail
            go_ret
            exact ⟨by rw [HN3.out]; rfl, HB5.out⟩
set_option maxRecDepth 100000 in
set_option maxHeartbeats 1000000 in
theorem right_nil (A : Option Addr) (c : Nat) (w : World) : Calls Tryd.prog 18 #[.slice A 0 c] w fun e w' => e = .returned (.bool true) ∧ Below w.heap.size w w' := by
  go_enter Tryd.func18, Tryd.ntmps18
  go_wp2
  go_loopg [10] 0 (fun kq v10 w' => v10 = .int .i64 0 ∧ Drawn0 w w')
  case atStart => exact ⟨rfl, by repeat (first | exact Drawn0.refl _ | apply Drawn0.step)⟩
  case round =>
    obtain ⟨rfl, hD⟩ := hrel
    go_wp2
    go_ret
    exact ⟨rfl, hD.below⟩
theorem wtZ_runes {α : Type} (g : α → Nat) (l : List (Nz α)) (x : Nz α) (h : x ∈ l) : x.runes.length ≤ sumL (wtZ g) l := by
  have h1 := sumL_mem (wtZ g) h
  have h3 : wtZ g x = 1 + x.runes.length + sumL (fun p => 1 + sumL g p) x.parts + sumL g x.sup + sumL g x.sub := rfl
  omega
theorem right_all : ∀ (k : Nat) (l : List (Nn k)) (v : Value) (w : World), LexTabs w → rdL k w v l → wtL k l ≤ 2000000 → Calls Tryd.prog 18 #[v] w fun e w' => e = .returned (.bool (srt k l)) ∧ Below w.heap.size w w'
  | 0, l, v, w, _, h, _ => by
    obtain ⟨A, c, rfl⟩ := slice_is h
    cases l with
    | nil => exact right_nil A c w
    | cons x l => exact x.elim
  | k + 1, l, v, w, hT, h, hw => by
    obtain ⟨A, c, rfl⟩ := slice_is h
    exact right_step (rdN k) (srt k) (fun {w w'} hb x cs hx => rdN_keep k (fun p u hc => (hb.cell (World.block_lt_of_cell? w _ hc)).trans hc) x cs hx) (fun q => sumL (wtN k) q ≤ 2000000) (fun q v w hT hq hq2 => right_all k q v w hT hq hq2)
      l A c w hT h (Nat.le_trans (wtZ_pos (wtN k) l) hw) (fun x hx => ⟨Nat.le_trans (wtZ_parts (wtN k) l x hx) hw, Nat.le_trans (wtZ_runes (wtN k) l x hx) hw, Nat.le_trans (wt_in (wtN k) hx (.inl rfl)) hw, Nat.le_trans (wt_in (wtN k) hx (.inr (.inl rfl))) hw, fun p hp => Nat.le_trans (wt_in (wtN k) hx (.inr (.inr hp))) hw⟩)
end Go.Proofs.YtaoepeiadhdbaaaDoor.ND
