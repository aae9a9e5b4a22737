/- Noads counted, told, read one by one. -/
import Derived.Test.YtaoepeiadhdbaaaDoorNd
import Derived.Test.YtaoepeiadhdbaaaDoorPx1
import Derived.Lib.Hide
import Derived.Tactics2
namespace Go.Proofs.YtaoepeiadhdbaaaDoor.ND
open Go.RowKit Go.Proofs.YtaoepeiadhdbaaaDoorW.PrintWords Go.Proofs.YtaoepeiadhdbaaaDoorW.PrintLast Go.Proofs.YtaoepeiadhdbaaaDoorW.PrintMore
set_option linter.unusedVariables false
set_option linter.unusedSimpArgs false
theorem wrap64_small {x : Int} (h0 : -9223372036854775808 ≤ x) (h1 : x ≤ 9223372036854775807) : wrap64 x = x := by unfold wrap64; omega
theorem wrap_nat (j n : Nat) (h : j < n) (hn : n ≤ 2000000) : wrap64 ((j : Int) + 1) = ((j + 1 : Nat) : Int) := (wrap64_small (x := (j : Int) + 1) (by omega) (by omega)).trans (Int.natCast_succ j).symm
def partsR {α : Type} (f : List α → Int → Int) (most : Int) : List (List α) → Int → Int
  | [], n => n
  | p :: ps, n => if n ≤ most then partsR f most ps (n + 1 + f p (most - n)) else n
def loopR {α : Type} (f : List α → Int → Int) (most : Int) : List (Nz α) → Int → Int
  | [], n => n
  | x :: l, n => if n ≤ most then loopR f most l (partsR f most x.parts (n + 1 + x.runes.length + f x.sup (most - n) + f x.sub (most - n))) else n
def cntR : (k : Nat) → List (Nn k) → Int → Int
  | 0 => fun _ _ => 0
  | k + 1 => fun l most => loopR (cntR k) most l 0
/-- Between nought and the weight. -/
theorem parts_bound {α : Type} (g : α → Nat) (f : List α → Int → Int) (hf : ∀ l m, 0 ≤ f l m ∧ f l m ≤ sumL g l) (most : Int) : ∀ (ps : List (List α)) (n : Int), n ≤ partsR f most ps n ∧ partsR f most ps n ≤ n + sumL (fun p => 1 + sumL g p) ps
  | [], n => by unfold partsR; rw [sumL_nil]; omega
  | p :: ps, n => by
    unfold partsR
    rw [sumL_cons]
    split
    · have h1 := hf p (most - n)
      have h2 := parts_bound g f hf most ps (n + 1 + f p (most - n))
      omega
    · omega
theorem loop_bound {α : Type} (g : α → Nat) (f : List α → Int → Int) (hf : ∀ l m, 0 ≤ f l m ∧ f l m ≤ sumL g l) (most : Int) : ∀ (l : List (Nz α)) (n : Int), n ≤ loopR f most l n ∧ loopR f most l n ≤ n + sumL (wtZ g) l
  | [], n => by unfold loopR; rw [sumL_nil]; omega
  | x :: l, n => by
    unfold loopR
    rw [sumL_cons]
    split
    · have h1 := hf x.sup (most - n)
      have h2 := hf x.sub (most - n)
      have h3 := parts_bound g f hf most x.parts (n + 1 + x.runes.length + f x.sup (most - n) + f x.sub (most - n))
      have h4 := loop_bound g f hf most l (partsR f most x.parts (n + 1 + x.runes.length + f x.sup (most - n) + f x.sub (most - n)))
      have h5 : wtZ g x = 1 + x.runes.length + sumL (fun p => 1 + sumL g p) x.parts + sumL g x.sup + sumL g x.sub := rfl
      omega
    · omega
theorem cnt_bound : ∀ (k : Nat) (l : List (Nn k)) (m : Int), 0 ≤ cntR k l m ∧ cntR k l m ≤ wtL k l
  | 0, l, m => by unfold cntR; omega
  | k + 1, l, m => by
    have := loop_bound (wtN k) (cntR k) (cnt_bound k) m l 0
    unfold cntR wtL
    show 0 ≤ loopR (cntR k) m l 0 ∧ loopR (cntR k) m l 0 ≤ ((sumL (wtZ (wtN k)) l : Nat) : Int)
    omega
set_option maxRecDepth 100000 in
set_option maxHeartbeats 4000000 in
theorem count_nil (A : Option Addr) (c : Nat) (most : Int) (w : World) : Calls Tryd.prog 9 #[.slice A 0 c, .int .i64 most] w fun e w' => e = .returned (.int .i64 0) ∧ Drawn0 w w' := by
  go_enter Tryd.func9, Tryd.ntmps9
  go_wp2
  go_loopg [5, 6] 0 (fun kq v5 v6 w' => v5 = .int .i64 0 ∧ v6 = .int .i64 0 ∧ Drawn0 w w')
  case atStart => exact ⟨rfl, rfl, by repeat (first | exact Drawn0.refl _ | apply Drawn0.step)⟩
  case round =>
    obtain ⟨rfl, rfl, hD⟩ := hrel
    go_wp2
    go_ret
    exact ⟨rfl, hD⟩
theorem field_addr (a : Addr) {j : Nat} (hj : 0 < j) : a.add j = ⟨a.block, a.off + j, none⟩ := by
  unfold Addr.add
  rw [if_neg (by omega)]
/-- The cells of an element of a list. -/
theorem list_at {α : Type} {K : World → α → List Value → Prop} {w : World} {A : Option Addr} {c : Nat} {l : List (Nz α)} (h : rdS (rdZ K w) 11 w (.slice A l.length c) l) (i : Nat) (x : Nz α) (hi : l[i]? = some x) : ∃ ad cs, A = some ad ∧ rdZ K w x cs ∧ cs.length = 11 ∧ ∀ j u, cs[j]? = some u → w.cell? (ad.add (i * 11 + j)) = some u := by
  obtain ⟨A', c', e, hl, h1, h2, h3⟩ := h
  injection e with e1 e2 e3
  subst e1 e3
  have hlt : i < l.length := (List.getElem?_eq_some_iff.1 hi).1
  obtain ⟨ad, rfl, hr⟩ := h3 (by omega)
  obtain ⟨cs, g1, g2, g3⟩ := hr i x hi
  exact ⟨ad, cs, rfl, g2, g1, g3⟩
theorem part_at {α : Type} {K : World → α → List Value → Prop} {w : World} {A : Option Addr} {c : Nat} {l : List (List α)} (h : rdS (fun l cs => ∃ v, cs = [v] ∧ rdS (K w) 11 w v l) 1 w (.slice A l.length c) l) (i : Nat) (p : List α) (hi : l[i]? = some p) : ∃ ad v, A = some ad ∧ w.cell? (ad.add i) = some v ∧ rdS (K w) 11 w v p := by
  obtain ⟨A', c', e, hl, h1, h2, h3⟩ := h
  injection e with e1 e2 e3
  subst e1 e3
  have hlt : i < l.length := (List.getElem?_eq_some_iff.1 hi).1
  obtain ⟨ad, rfl, hr⟩ := h3 (by omega)
  obtain ⟨cs, g1, ⟨v, rfl, hv⟩, g3⟩ := hr i p hi
  have := g3 0 v rfl
  rw [Nat.mul_one, Nat.add_zero] at this
  exact ⟨ad, v, rfl, this, hv⟩
theorem slice_is {α : Type} {K : α → List Value → Prop} {sz : Nat} {w : World} {v : Value} {l : List α} (h : rdS K sz w v l) : ∃ A c, v = .slice A l.length c := by
  obtain ⟨A, c, e, _⟩ := h
  exact ⟨A, c, e⟩
theorem wtZ_pos {α : Type} (g : α → Nat) (l : List (Nz α)) : l.length ≤ sumL (wtZ g) l := sumL_len _ _ (fun x _ => by unfold wtZ; omega)
set_option maxRecDepth 100000 in
set_option maxHeartbeats 1000000 in
theorem count_step {α : Type} (K : World → α → List Value → Prop) (g : α → Nat) (f : List α → Int → Int) (hf : ∀ l m, 0 ≤ f l m ∧ f l m ≤ sumL g l)
    (hK : ∀ {w : World} {q : Nat} (x : α) (cs : List Value), K w x cs → K (w.drewN q) x cs)
    (HF : ∀ (l : List α) (v : Value) (m : Int) (w : World), rdS (K w) 11 w v l → sumL g l ≤ 2000000 → -7000000 ≤ m → m ≤ 7000000 → Calls Tryd.prog 9 #[v, .int .i64 m] w fun e w' => e = .returned (.int .i64 (f l m)) ∧ Drawn0 w w')
    (l : List (Nz α)) (A : Option Addr) (c : Nat) (most : Int) (w : World) (hr : rdS (rdZ K w) 11 w (.slice A l.length c) l) (hw : sumL (wtZ g) l ≤ 2000000) (hm0 : -7000000 ≤ most) (hm : most ≤ 7000000) :
    Calls Tryd.prog 9 #[.slice A l.length c, .int .i64 most] w fun e w' => e = .returned (.int .i64 (loopR f most l 0)) ∧ Drawn0 w w' := by
  have hlen : l.length ≤ 2000000 := Nat.le_trans (wtZ_pos g l) hw
  have HR := Lib.hid hr
  clear hr
  go_enter Tryd.func9, Tryd.ntmps9
  go_wp2
  go_loopg [5, 6] l.length (fun kq v5 v6 w' => ∃ (i : Nat) (n : Int), v5 = .int .i64 n ∧ v6 = .int .i64 (i : Int) ∧ Hid (kq + i = l.length) ∧ Hid (loopR f most (l.drop i) n = loopR f most l 0) ∧ Hid (0 ≤ n ∧ n + sumL (wtZ g) (l.drop i) ≤ sumL (wtZ g) l) ∧ Drawn0 w w')
  case atStart => exact ⟨0, 0, rfl, rfl, Lib.hid rfl, Lib.hid rfl, Lib.hid ⟨by omega, by rw [List.drop_zero]; omega⟩, by repeat (first | exact Drawn0.refl _ | apply Drawn0.step)⟩
  case round =>
    obtain ⟨i, n, rfl, rfl, HI, HL, HN, hD⟩ := hrel
    by_cases hend : i = l.length
    · have hc : decide ((i : Int) < (l.length : Int)) = false := decide_eq_false (by omega)
      have hn : n = loopR f most l 0 := by
        have := HL.out
        rw [hend, List.drop_length] at this
        exact this
      subst hn
      go_wp2
      go_ret
      exact ⟨rfl, hD⟩
    · have hlt : i < l.length := by have := HI.out; omega
      have hc : decide ((i : Int) < (l.length : Int)) = true := decide_eq_true (by omega)
      by_cases hmost : n ≤ most
      · have hcm : decide (n ≤ most) = true := decide_eq_true hmost
        obtain ⟨ad, cs, rfl, hz, hcl, hcells⟩ := list_at HR.out i l[i] (List.getElem?_eq_getElem hlt)
        have hdrop := List.drop_eq_getElem_cons hlt
        generalize hx : l[i] = x at *
        obtain ⟨r1, r2, r3, r4, r5, vp, vr, vu, vb, rfl, hp, hru, hu, hsb⟩ := hz
        obtain ⟨Ar, cr, rfl⟩ := slice_is hru
        obtain ⟨Ap, cp, rfl⟩ := slice_is hp
        obtain ⟨⟨q, rfl⟩⟩ := hD
        have hfield : ∀ j u, 0 < j → (w.cell? (ad.add (i * 11 + j)) = some u) → w.cell? ⟨(ad.add (i * 11)).block, (ad.add (i * 11)).off + j, none⟩ = some u := fun j u hj h => by
          rw [← Go.Deep.add_add] at h
          rw [← field_addr _ hj]
          exact h
        have c5 := hfield 5 _ (by decide) (hcells 5 _ rfl)
        have c6 := hfield 6 _ (by decide) (hcells 6 _ rfl)
        have c9 := hfield 9 _ (by decide) (hcells 9 _ rfl)
        have c10 := hfield 10 _ (by decide) (hcells 10 _ rfl)
        have hwx : wtZ g x = 1 + x.runes.length + sumL (fun p => 1 + sumL g p) x.parts + sumL g x.sup + sumL g x.sub := rfl
        have hsum : sumL (wtZ g) (l.drop i) = wtZ g x + sumL (wtZ g) (l.drop (i + 1)) := by rw [hdrop, sumL_cons]
        have hN := HN.out
        have hpl : x.parts.length ≤ 2000000 := by have h9 := sumL_len (fun p => 1 + sumL g p) x.parts (fun _ _ => by omega); omega
        have hmn : IntKind.i64.wrap (most - n) = most - n := by rw [IntKind.wrap_i64]; omega
        have HC : ∀ (l' : List α) (v : Value) (q' : Nat), rdS (K w) 11 w v l' → sumL g l' ≤ 2000000 → Calls Tryd.prog 9 #[v, .int .i64 (most - n)] (w.drewN (q + q')) fun e w'' => e = .returned (.int .i64 (f l' (most - n))) ∧ ∃ m, w'' = w.drewN (q + m) := fun l' v q' h1 h2 => by
          have hk : rdS (K (w.drewN (q + q'))) 11 (w.drewN (q + q')) v l' := rdS_imp h1 (fun p u h => h) hK
          refine (HF l' v (most - n) _ hk h2 (by omega) (by omega)).mono ?_
          rintro e w' ⟨he, ⟨m, hm⟩⟩
          exact ⟨he, q' + m, by rw [hm, World.drewN_drewN, Nat.add_assoc]⟩
        have HU := fun q' => HC x.sup vu q' hu (by omega)
        have HS := fun q' => HC x.sub vb q' hsb (by omega)
        have hb1 := hf x.sup (most - n)
        have hb2 := hf x.sub (most - n)
        have hPR : loopR f most (l.drop (i + 1)) (partsR f most x.parts (n + 1 + x.runes.length + f x.sup (most - n) + f x.sub (most - n))) = loopR f most l 0 := by
          have := HL.out
          rw [hdrop, loopR, if_pos hmost] at this
          exact this
        have hlp := parts_bound g f hf most x.parts (n + 1 + x.runes.length + f x.sup (most - n) + f x.sub (most - n))
        generalize f x.sup (most - n) = F1 at *
        generalize f x.sub (most - n) = F2 at *
        have w1 : IntKind.i64.wrap (n + 1) = n + 1 := by rw [IntKind.wrap_i64]; omega
        have w2 : IntKind.i64.wrap (n + 1 + (x.runes.length : Int)) = n + 1 + (x.runes.length : Int) := by rw [IntKind.wrap_i64]; omega
        have w3 : IntKind.i64.wrap (n + 1 + (x.runes.length : Int) + F1) = n + 1 + (x.runes.length : Int) + F1 := by rw [IntKind.wrap_i64]; omega
        have w4 : IntKind.i64.wrap (n + 1 + (x.runes.length : Int) + F1 + F2) = n + 1 + (x.runes.length : Int) + F1 + F2 := by rw [IntKind.wrap_i64]; omega
        obtain ⟨go', rfl⟩ : ∃ g', gk = g' + 1 := ⟨gk - 1, by have := HI.out; omega⟩
        have HI2 : Hid (go' + (i + 1) = l.length) := Lib.hid (by have := HI.out; omega)
        have HHN := Lib.hid hN
        have HHS := Lib.hid hsum
        have HHW := Lib.hid hwx
        have HHP := Lib.hid hPR
        have HHL := Lib.hid hlp
        have HHB := Lib.hid (And.intro hb1 hb2)
        clear hN hsum hwx hPR hlp hb1 hb2 hdrop
        go_wp2_with fail
        go_quiet (first | (with_reducible exact HU _) | (with_reducible exact HS _))
        clear w1 w2 w3 w4 hmn HU HS HC
        go_wp2_with fail
        go_loopg [5, 7] x.parts.length (fun kq v5 v7 w' => ∃ (j : Nat) (n' : Int), v5 = .int .i64 n' ∧ v7 = .int .i64 (j : Int) ∧ Hid (kq + j = x.parts.length) ∧ Hid (partsR f most (x.parts.drop j) n' = partsR f most x.parts (n + 1 + x.runes.length + F1 + F2)) ∧ Hid (0 ≤ n' ∧ n' + sumL (fun p => 1 + sumL g p) (x.parts.drop j) ≤ n + 1 + x.runes.length + F1 + F2 + sumL (fun p => 1 + sumL g p) x.parts) ∧ Drawn0 w w')
        case atStart => exact ⟨0, n + 1 + x.runes.length + F1 + F2, rfl, rfl, Lib.hid rfl, Lib.hid rfl, Lib.hid ⟨by have := HHN.out; have := HHB.out; omega, by rw [List.drop_zero]; omega⟩, by repeat (first | exact Drawn0.refl _ | apply Drawn0.step)⟩
        case round =>
          obtain ⟨j, n', rfl, rfl, HJ, HP, HM, hD⟩ := hrel
          have hwi := wrap_nat i _ hlt hlen
          have leave : n' = partsR f most x.parts (n + 1 + x.runes.length + F1 + F2) → Hid (loopR f most (l.drop (i + 1)) n' = loopR f most l 0) ∧ Hid (0 ≤ n' ∧ n' + sumL (wtZ g) (l.drop (i + 1)) ≤ sumL (wtZ g) l) := fun h => by
            refine ⟨Lib.hid (by rw [h]; exact HHP.out), Lib.hid ⟨HM.out.1, ?_⟩⟩
            have h1 := HHN.out
            have h2 := HHS.out
            have h3 := HHW.out
            have h4 := HHL.out
            have h5 := HHB.out
            rw [h]
            omega
          obtain ⟨⟨qj, rfl⟩⟩ := hD
          by_cases hpend : j = x.parts.length
          · have hcj : decide ((j : Int) < (x.parts.length : Int)) = false := decide_eq_false (by omega)
            obtain ⟨hL2, hN2⟩ := leave (by
              have := HP.out
              rw [hpend, List.drop_length] at this
              exact this)
            clear leave HP HM
            repeat (first | go_skip | go_guarded | go_step)
            go_roundg go'
            case measure => exact Nat.lt_succ_self _
            case rel => exact ⟨i + 1, n', rfl, by first | rfl | (rw [hwi]), HI2, hL2, hN2, by repeat (first | exact Drawn0.refl _ | apply Drawn0.step)⟩
          · have hjlt : j < x.parts.length := by have := HJ.out; omega
            have hcj : decide ((j : Int) < (x.parts.length : Int)) = true := decide_eq_true (by omega)
            by_cases hm2 : n' ≤ most
            · have hcm2 : decide (n' ≤ most) = true := decide_eq_true hm2
              obtain ⟨gj, rfl⟩ : ∃ g', gk = g' + 1 := ⟨gk - 1, by have := HJ.out; omega⟩
              have HJ2 : Hid (gj + (j + 1) = x.parts.length) := Lib.hid (by have := HJ.out; omega)
              obtain ⟨ap, vp', rfl, hpc, hpv⟩ := part_at hp j x.parts[j] (List.getElem?_eq_getElem hjlt)
              have hpd := List.drop_eq_getElem_cons hjlt
              have hPj : partsR f most (x.parts.drop (j + 1)) (n' + 1 + f x.parts[j] (most - n')) = partsR f most x.parts (n + 1 + x.runes.length + F1 + F2) := by
                have := HP.out
                rw [hpd, partsR, if_pos hm2] at this
                exact this
              have hbj := hf x.parts[j] (most - n')
              have hsj : sumL (fun p => 1 + sumL g p) (x.parts.drop j) = 1 + sumL g x.parts[j] + sumL (fun p => 1 + sumL g p) (x.parts.drop (j + 1)) := by rw [hpd, sumL_cons]
              have hM := HM.out
              have hBig : n + 1 + x.runes.length + F1 + F2 + sumL (fun p => 1 + sumL g p) x.parts ≤ 2000000 := by
                have h1 := HHN.out
                have h2 := HHS.out
                have h3 := HHW.out
                have h5 := HHB.out
                omega
              have hwm : wrap64 (most - n') = most - n' := wrap64_small (by omega) (by omega)
              have hwn : wrap64 (n' + 1) = n' + 1 := wrap64_small (by omega) (by omega)
              have hCj : ∀ q', Calls Tryd.prog 9 #[vp', .int .i64 (most - n')] (w.drewN q') fun e w'' => e = .returned (.int .i64 (f x.parts[j] (most - n'))) ∧ Drawn0 (w.drewN q') w'' := fun q' => HF x.parts[j] vp' (most - n') _ (rdS_imp hpv (fun p u h => h) hK) (by omega) (by omega) (by omega)
              have hN2 : 0 ≤ n' + 1 + f x.parts[j] (most - n') ∧ n' + 1 + f x.parts[j] (most - n') + sumL (fun p => 1 + sumL g p) (x.parts.drop (j + 1)) ≤ n + 1 + x.runes.length + F1 + F2 + sumL (fun p => 1 + sumL g p) x.parts := by omega
              generalize f x.parts[j] (most - n') = F3 at *
              have hw3 : wrap64 (n' + 1 + F3) = n' + 1 + F3 := wrap64_small (by omega) (by omega)
              have hwj := wrap_nat j _ hjlt hpl
              have HCj := Lib.hid hCj
              have HN2 := Lib.hid hN2
              have HPj := Lib.hid hPj
              clear leave HP HM hCj hN2 hPj hbj hsj hM hBig hpd
              clear hf HF hc hcm hwi
              go_wp2_with (go_at_call 9; with_reducible refine (HCj.out _).mono ?_; rintro e w1 ⟨rfl, ⟨⟨q3, rfl⟩⟩⟩)
              go_roundg gj
              case measure => exact Nat.lt_succ_self _
              case rel => exact ⟨j + 1, n' + 1 + F3, by first | rfl | (rw [hw3]), by first | rfl | (rw [hwj]), HJ2, HPj, HN2, by repeat (first | exact Drawn0.refl _ | apply Drawn0.step)⟩
            · have hcm2 : decide (n' ≤ most) = false := decide_eq_false hm2
              obtain ⟨hL2, hN2⟩ := leave (by
                have := HP.out
                rw [List.drop_eq_getElem_cons hjlt, partsR, if_neg hm2] at this
                exact this)
              clear leave HP HM
              repeat (first | go_skip | go_guarded | go_step)
              go_roundg go'
              case measure => exact Nat.lt_succ_self _
              case rel => exact ⟨i + 1, n', rfl, by first | rfl | (rw [hwi]), HI2, hL2, hN2, by repeat (first | exact Drawn0.refl _ | apply Drawn0.step)⟩
      · have hcm : decide (n ≤ most) = false := decide_eq_false hmost
        have hn : n = loopR f most l 0 := by
          have := HL.out
          rw [List.drop_eq_getElem_cons hlt, loopR, if_neg hmost] at this
          exact this
        subst hn
        go_wp2
        go_ret
        exact ⟨rfl, hD⟩
end Go.Proofs.YtaoepeiadhdbaaaDoor.ND
namespace Go.Proofs.YtaoepeiadhdbaaaDoor.ND
open Go.RowKit Go.Proofs.YtaoepeiadhdbaaaDoorW.PrintWords Go.Proofs.YtaoepeiadhdbaaaDoorW.PrintLast Go.Proofs.YtaoepeiadhdbaaaDoorW.PrintMore
set_option linter.unusedVariables false
/-- Are a noad's limits told? -/
def toldB (n : Int) : Bool := (n == 1) || (n == 2)
/-- How many noads a list has, as show.Count counts: each, and what is in it. -/
def cntY {α : Type} (f : List α → Nat) (x : Nz α) : Nat := (if toldB x.lim then 1 else 0) + (f x.sup + f x.sub) + sumL f x.parts
def scnt : (k : Nat) → List (Nn k) → Nat
  | 0 => fun _ => 0
  | k + 1 => fun l => l.length + sumL (cntY (scnt k)) l
theorem cntY_of {α : Type} (f : List α → Nat) (x : Nz α) (b : Bool) (h : toldB x.lim = b) : cntY f x = (if b then 1 else 0) + (f x.sup + f x.sub) + sumL f x.parts := by rw [← h]; rfl
/-- No more than twice the weight. -/
theorem sumL_le {α : Type} (f g : α → Nat) (h : ∀ x, f x ≤ 2 * g x) (l : List α) : sumL f l ≤ 2 * sumL g l := by
  induction l with
  | nil => rw [sumL_nil]; omega
  | cons x l ih => rw [sumL_cons, sumL_cons]; have := h x; omega
theorem sumL_plus {α : Type} (f g : α → Nat) (h : ∀ x, f x ≤ 2 * g x) (l : List α) : l.length + sumL f l ≤ 2 * (sumL (fun x => 1 + g x) l) := by
  induction l with
  | nil => rw [sumL_nil, sumL_nil]; simp
  | cons x l ih => rw [sumL_cons, sumL_cons, List.length_cons]; have := h x; omega
theorem cnt_step {α : Type} (f : List α → Nat) (g : α → Nat) (h : ∀ l, f l ≤ 2 * sumL g l) (l : List (Nz α)) : l.length + sumL (cntY f) l ≤ 2 * sumL (wtZ g) l := by
  induction l with
  | nil => rw [sumL_nil, sumL_nil]; simp
  | cons x l ih =>
    rw [sumL_cons, sumL_cons, List.length_cons]
    have h1 := h x.sup
    have h2 := h x.sub
    have h3 := sumL_plus f (sumL g) h x.parts
    have h4 : wtZ g x = 1 + x.runes.length + sumL (fun p => 1 + sumL g p) x.parts + sumL g x.sup + sumL g x.sub := rfl
    have h5 : cntY f x ≤ 1 + (f x.sup + f x.sub) + sumL f x.parts := by unfold cntY; split <;> omega
    omega
theorem scnt_le : ∀ (k : Nat) (l : List (Nn k)), scnt k l ≤ 2 * wtL k l
  | 0, l => by unfold scnt; omega
  | k + 1, l => cnt_step (scnt k) (wtN k) (scnt_le k) l
theorem num_count (n : Int) (t F G P R T : Nat) (h0 : 0 ≤ n) (h : n + ((t + (F + G) + P + R : Nat) : Int) = (T : Int)) (hT : T ≤ 4000000) :
    wrap64 ((F : Int) + (G : Int)) = (F : Int) + (G : Int) ∧ wrap64 (n + (t : Int)) = n + (t : Int) ∧ wrap64 (n + (t : Int) + ((F : Int) + (G : Int))) = n + (t : Int) + ((F : Int) + (G : Int)) ∧ 0 ≤ n + (t : Int) + ((F : Int) + (G : Int)) ∧ n + (t : Int) + ((F : Int) + (G : Int)) + ((P + R : Nat) : Int) = (T : Int) :=
  ⟨wrap64_small (by omega) (by omega), wrap64_small (by omega) (by omega), wrap64_small (by omega) (by omega), by omega, by omega⟩
theorem num_part (n : Int) (F P R T : Nat) (h0 : 0 ≤ n) (h : n + ((F + P + R : Nat) : Int) = (T : Int)) (hT : T ≤ 4000000) :
    wrap64 (n + (F : Int)) = n + (F : Int) ∧ 0 ≤ n + (F : Int) ∧ n + (F : Int) + ((P + R : Nat) : Int) = (T : Int) :=
  ⟨wrap64_small (by omega) (by omega), by omega, by omega⟩
/-- How deep a list is, as show.depth tells. -/
def depP {α : Type} (f : List α → Nat) : List (List α) → Nat → Nat
  | [], o => o
  | p :: ps, o => depP f ps (max o (1 + f p))
def depT (t hs hb : Bool) (o u b : Nat) : Nat :=
  let o1 := if t then o + 1 else o
  let o2 := if hs then max o1 (1 + u) else o1
  if hb then max o2 (1 + b) else o2
def depZ {α : Type} (f : List α → Nat) (x : Nz α) : Nat := if x.kind = 10 ∨ x.kind = 11 then 0 else depT (toldB x.lim) x.hs x.hb (depP f x.parts 1) (f x.sup) (f x.sub)
def depM {α : Type} (f : List α → Nat) : List (Nz α) → Nat → Nat
  | [], m => m
  | x :: l, m => depM f l (max m (depZ f x))
def sdep : (k : Nat) → List (Nn k) → Nat
  | 0 => fun _ => 0
  | k + 1 => fun l => depM (sdep k) l 0
theorem depP_le {α : Type} (f : List α → Nat) (N : Nat) (hf : ∀ l, f l ≤ N) : ∀ (ps : List (List α)) (o : Nat), o ≤ N + 1 → depP f ps o ≤ N + 1
  | [], o, h => h
  | p :: ps, o, h => by unfold depP; exact depP_le f N hf ps _ (by have := hf p; omega)
theorem depZ_le {α : Type} (f : List α → Nat) (N : Nat) (hf : ∀ l, f l ≤ N) (x : Nz α) : depZ f x ≤ N + 2 := by
  unfold depZ
  split
  · omega
  · have h1 := depP_le f N hf x.parts 1 (by omega)
    have h2 := hf x.sup
    have h3 := hf x.sub
    unfold depT
    simp only
    repeat' split
    all_goals omega
theorem depM_le {α : Type} (f : List α → Nat) (N : Nat) (hf : ∀ l, f l ≤ N) : ∀ (l : List (Nz α)) (m : Nat), m ≤ N + 2 → depM f l m ≤ N + 2
  | [], m, h => h
  | x :: l, m, h => by unfold depM; exact depM_le f N hf l _ (by have := depZ_le f N hf x; omega)
theorem sdep_le : ∀ (k : Nat) (l : List (Nn k)), sdep k l ≤ 2 * k
  | 0, l => by unfold sdep; omega
  | k + 1, l => by have := depM_le (sdep k) (2 * k) (sdep_le k) l 0 (by omega); unfold sdep; omega
theorem depM_max {α : Type} (f : List α → Nat) : ∀ (l : List (Nz α)) (m : Nat), depM f l m = max m (depM f l 0)
  | [], m => by unfold depM; omega
  | x :: l, m => by
    unfold depM
    rw [depM_max f l (max m (depZ f x)), depM_max f l (max 0 (depZ f x))]
    omega
theorem depM_append {α : Type} (f : List α → Nat) : ∀ (l m : List (Nz α)) (o : Nat), depM f (l ++ m) o = depM f m (depM f l o)
  | [], m, o => rfl
  | x :: l, m, o => depM_append f l m (max o (depZ f x))
end Go.Proofs.YtaoepeiadhdbaaaDoor.ND
namespace Go.Proofs.YtaoepeiadhdbaaaDoor.ND
open Go.RowKit Go.Proofs.YtaoepeiadhdbaaaDoorW.PrintWords Go.Proofs.YtaoepeiadhdbaaaDoorW.PrintLast Go.Proofs.YtaoepeiadhdbaaaDoorW.PrintMore
set_option linter.unusedVariables false
set_option linter.unusedSimpArgs false
set_option maxRecDepth 100000 in
set_option maxHeartbeats 1000000 in
theorem told_calls (a0 a1 a2 a3 a4 : Int) (Ap : Option Addr) (lp cp : Nat) (Ar : Option Addr) (lr cr : Nat) (b1 b2 : Bool) (Au : Option Addr) (lu cu : Nat) (Ab : Option Addr) (lb cb : Nat) (w : World) :
    Calls Tryd.prog 14 #[.agg #[.int .i64 a0, .int .i64 a1, .int .i64 a2, .int .i64 a3, .int .i64 a4, .slice Ap lp cp, .slice Ar lr cr, .bool b1, .bool b2, .slice Au lu cu, .slice Ab lb cb]] w fun e w' => e = .returned (.bool (toldB a4)) ∧ Below w.heap.size w w' := by
  have h1 : toldB a4 = ((a4 == 1) || (a4 == 2)) := rfl
  rw [h1]
  cases e1 : (a4 == 1)
  · cases e2 : (a4 == 2)
    all_goals
      go_enter Tryd.func14, Tryd.ntmps14
      go_wp2
      go_ret
      exact ⟨rfl, (Below.refl w.heap.size w).alloc (Nat.le_refl _) _⟩
  · clear h1
    go_enter Tryd.func14, Tryd.ntmps14
    go_wp2
    go_ret
    exact ⟨rfl, (Below.refl w.heap.size w).alloc (Nat.le_refl _) _⟩
end Go.Proofs.YtaoepeiadhdbaaaDoor.ND
namespace Go.Proofs.YtaoepeiadhdbaaaDoor.ND
open Go.RowKit Go.Proofs.YtaoepeiadhdbaaaDoorW.PrintWords
set_option linter.unusedVariables false
theorem elem_at {α : Type} {K : World → α → List Value → Prop} {w w' : World} {A : Option Addr} {c : Nat} {l : List (Nz α)} (h : rdS (rdZ K w) 11 w (.slice A l.length c) l) (hb : Below w.heap.size w w') (i : Nat) (x : Nz α) (hi : l[i]? = some x) :
    ∃ (ad : Addr) (Ap : Option Addr) (cp : Nat) (Ar : Option Addr) (cr : Nat) (Au : Option Addr) (cu : Nat) (Ab : Option Addr) (cb : Nat), A = some ad ∧
      w'.cell? (ad.add (i * 11)) = some (.int .i64 x.kind) ∧
      w'.cell? ⟨(ad.add (i * 11)).block, (ad.add (i * 11)).off + 1, none⟩ = some (.int .i64 x.cls) ∧
      w'.cell? ⟨(ad.add (i * 11)).block, (ad.add (i * 11)).off + 2, none⟩ = some (.int .i64 x.rune) ∧
      w'.cell? ⟨(ad.add (i * 11)).block, (ad.add (i * 11)).off + 3, none⟩ = some (.int .i64 x.n) ∧
      w'.cell? ⟨(ad.add (i * 11)).block, (ad.add (i * 11)).off + 4, none⟩ = some (.int .i64 x.lim) ∧
      w'.cell? ⟨(ad.add (i * 11)).block, (ad.add (i * 11)).off + 5, none⟩ = some (.slice Ap x.parts.length cp) ∧
      w'.cell? ⟨(ad.add (i * 11)).block, (ad.add (i * 11)).off + 6, none⟩ = some (.slice Ar x.runes.length cr) ∧
      w'.cell? ⟨(ad.add (i * 11)).block, (ad.add (i * 11)).off + 7, none⟩ = some (.bool x.hs) ∧
      w'.cell? ⟨(ad.add (i * 11)).block, (ad.add (i * 11)).off + 8, none⟩ = some (.bool x.hb) ∧
      w'.cell? ⟨(ad.add (i * 11)).block, (ad.add (i * 11)).off + 9, none⟩ = some (.slice Au x.sup.length cu) ∧
      w'.cell? ⟨(ad.add (i * 11)).block, (ad.add (i * 11)).off + 10, none⟩ = some (.slice Ab x.sub.length cb) ∧
      rdS (fun l cs => ∃ v, cs = [v] ∧ rdS (K w) 11 w v l) 1 w (.slice Ap x.parts.length cp) x.parts ∧ rdS (fun (n : Int) cs => cs = [.int .i64 n] ∧ inI n) 1 w (.slice Ar x.runes.length cr) x.runes ∧
      rdS (K w) 11 w (.slice Au x.sup.length cu) x.sup ∧ rdS (K w) 11 w (.slice Ab x.sub.length cb) x.sub ∧
      inI x.kind ∧ inI x.cls ∧ inI x.rune ∧ inI x.n ∧ inI x.lim := by
  obtain ⟨ad, cs, rfl, hz, hcl, hcells⟩ := list_at h i x hi
  obtain ⟨r1, r2, r3, r4, r5, vp, vr, vu, vb, rfl, hp, hru, hu, hsb⟩ := hz
  obtain ⟨Ap, cp, rfl⟩ := slice_is hp
  obtain ⟨Ar, cr, rfl⟩ := slice_is hru
  obtain ⟨Au, cu, rfl⟩ := slice_is hu
  obtain ⟨Ab, cb, rfl⟩ := slice_is hsb
  have up : ∀ p u, w.cell? p = some u → w'.cell? p = some u := fun p u hc => (hb.cell (World.block_lt_of_cell? w _ hc)).trans hc
  have hfield : ∀ j u, 0 < j → (w.cell? (ad.add (i * 11 + j)) = some u) → w'.cell? ⟨(ad.add (i * 11)).block, (ad.add (i * 11)).off + j, none⟩ = some u := fun j u hj h => by
    rw [← Go.Deep.add_add] at h
    rw [← field_addr _ hj]
    exact up _ _ h
  exact ⟨ad, Ap, cp, Ar, cr, Au, cu, Ab, cb, rfl, up _ _ (hcells 0 _ rfl), hfield 1 _ (by decide) (hcells 1 _ rfl), hfield 2 _ (by decide) (hcells 2 _ rfl), hfield 3 _ (by decide) (hcells 3 _ rfl), hfield 4 _ (by decide) (hcells 4 _ rfl), hfield 5 _ (by decide) (hcells 5 _ rfl), hfield 6 _ (by decide) (hcells 6 _ rfl), hfield 7 _ (by decide) (hcells 7 _ rfl), hfield 8 _ (by decide) (hcells 8 _ rfl), hfield 9 _ (by decide) (hcells 9 _ rfl), hfield 10 _ (by decide) (hcells 10 _ rfl), hp, hru, hu, hsb, r1, r2, r3, r4, r5⟩
end Go.Proofs.YtaoepeiadhdbaaaDoor.ND
namespace Go.Proofs.YtaoepeiadhdbaaaDoor.ND
open Go.RowKit Go.Proofs.YtaoepeiadhdbaaaDoorW.PrintWords Go.Proofs.YtaoepeiadhdbaaaDoorW.PrintLast Go.Proofs.YtaoepeiadhdbaaaDoorW.PrintMore
set_option linter.unusedVariables false
set_option linter.unusedSimpArgs false
/-- The reference's Count, at lists of any depth. -/
theorem count_all : ∀ (k : Nat) (l : List (Nn k)) (v : Value) (m : Int) (w : World), rdL k w v l → wtL k l ≤ 2000000 → -7000000 ≤ m → m ≤ 7000000 → Calls Tryd.prog 9 #[v, .int .i64 m] w fun e w' => e = .returned (.int .i64 (cntR k l m)) ∧ Drawn0 w w'
  | 0, l, v, m, w, h, _, _, _ => by
    obtain ⟨A, c, rfl⟩ := slice_is h
    cases l with
    | nil => exact count_nil A c m w
    | cons x l => exact x.elim
  | k + 1, l, v, m, w, h, hw, h0, h1 => by
    obtain ⟨A, c, rfl⟩ := slice_is h
    exact count_step (rdN k) (wtN k) (cntR k) (cnt_bound k) (fun {w q} x cs hx => rdN_keep k (w := w) (w' := w.drewN q) (fun p u hp => hp) x cs hx) (count_all k) l A c m w h hw h0 h1
def fewR (k : Nat) (l : List (Nn k)) : Bool := decide (cntR k l 400 ≤ 400)
theorem few_calls (k : Nat) (l : List (Nn k)) (v : Value) (w : World) (h : rdL k w v l) (hw : wtL k l ≤ 2000000) : Calls Tryd.prog 5 #[v] w fun e w' => e = .returned (.bool (fewR k l)) ∧ Drawn0 w w' := by
  have hc := count_all k l v 400 w h hw (by decide) (by decide)
  obtain ⟨A, c, rfl⟩ := slice_is h
  have HC := Lib.hid hc
  clear hc h hw
  unfold fewR
  generalize cntR k l 400 = n at *
  go_enter Tryd.func5, Tryd.ntmps5
  go_wp2_with (go_at_call 9; with_reducible refine (HC.out).mono ?_; rintro e w1 ⟨rfl, hd⟩)
  go_ret
  exact ⟨rfl, hd⟩
end Go.Proofs.YtaoepeiadhdbaaaDoor.ND
