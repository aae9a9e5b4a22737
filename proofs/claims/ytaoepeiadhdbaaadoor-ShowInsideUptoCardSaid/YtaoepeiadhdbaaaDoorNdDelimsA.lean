/- Containers and delimiters. -/
import Derived.Test.YtaoepeiadhdbaaaDoorShRune
namespace Go.Proofs.YtaoepeiadhdbaaaDoor.ND
open Go.Shelf Go.Sort Go.Proofs.YtaoepeiadhdbaaaDoor.P Go.RowKit Go.Proofs.YtaoepeiadhdbaaaDoorW.PrintWords Go.Proofs.YtaoepeiadhdbaaaDoorW.PrintLast Go.Proofs.YtaoepeiadhdbaaaDoorW.PrintMore
set_option linter.unusedVariables false
set_option linter.unusedSimpArgs false
theorem int_at {w : World} {A : Option Addr} {c : Nat} {l : List Int} (h : rdS (fun (n : Int) cs => cs = [.int .i64 n] ∧ inI n) 1 w (.slice A l.length c) l) (i : Nat) (hi : i < l.length) : ∃ ad, A = some ad ∧ w.cell? (ad.add i) = some (.int .i64 l[i]) ∧ inI l[i] := by
  obtain ⟨A', c', e, hl, h1, h2, h3⟩ := h
  injection e with e1 e2 e3
  subst e1 e3
  obtain ⟨ad, rfl, hr⟩ := h3 (by omega)
  obtain ⟨cs, g1, ⟨rfl, hv⟩, g3⟩ := hr i l[i] (List.getElem?_eq_getElem hi)
  have := g3 0 _ rfl
  rw [Nat.mul_one, Nat.add_zero] at this
  exact ⟨ad, rfl, this, hv⟩
set_option maxRecDepth 100000 in
set_option maxHeartbeats 1000000 in
theorem index_noads {α : Type} (K : World → α → List Value → Prop) (g : List α → Bool) (l : List (List α)) (A : Option Addr) (c : Nat) (w : World) (hr : rdS (fun l cs => ∃ v, cs = [v] ∧ rdS (K w) 11 w v l) 1 w (.slice A l.length c) l)
    (HF : ∀ p ∈ l, ∀ (v : Value) (w1 : World), rdS (K w) 11 w v p → Below w.heap.size w w1 → Calls Tryd.prog 26 #[v] w1 fun e w' => e = .returned (.bool (g p)) ∧ Below w1.heap.size w1 w') (hlen : l.length ≤ 2000000) :
    Calls Tryd.prog 37 #[.slice A l.length c, .func (.func 26) #[] #[]] w fun e w' => (∃ r : Int, e = .returned (.int .i64 r) ∧ decide (0 ≤ r) = l.any g) ∧ Below w.heap.size w w' := by
  have HR := Lib.hid hr
  have HFF := Lib.hid HF
  clear hr HF
  go_enter Tryd.func37, Tryd.ntmps37
  go_wp2
  go_loopg [8] l.length (fun kq v8 w' => ∃ (j : Nat), v8 = .int .i64 (j : Int) ∧ Hid (kq + j = l.length) ∧ Hid (l.any g = (l.drop j).any g) ∧ Below w.heap.size w w')
  case atStart => exact ⟨0, rfl, Lib.hid rfl, Lib.hid (by rw [List.drop_zero]), Drawn0.below (by repeat (first | exact Drawn0.refl _ | apply Drawn0.step))⟩
  case round =>
    obtain ⟨j, rfl, HJ, HM, hD⟩ := hrel
    by_cases hpend : j = l.length
    · have hcj : decide ((j : Int) < (l.length : Int)) = false := decide_eq_false (by omega)
      have HN : Hid (l.any g = false) := Lib.hid (by have := HM.out; rw [hpend, List.drop_length] at this; exact this)
      go_wp2
      go_ret
      exact ⟨⟨-1, rfl, by rw [HN.out]; rfl⟩, hD⟩
    · have hjlt : j < l.length := by have := HJ.out; omega
      have hcj : decide ((j : Int) < (l.length : Int)) = true := decide_eq_true (by omega)
      obtain ⟨gj, rfl⟩ : ∃ g', gk = g' + 1 := ⟨gk - 1, by have := HJ.out; omega⟩
      have HJ2 : Hid (gj + (j + 1) = l.length) := Lib.hid (by have := HJ.out; omega)
      obtain ⟨ap, vp', rfl, hpc, hpv⟩ := part_at HR.out j l[j] (List.getElem?_eq_getElem hjlt)
      obtain ⟨Ai, ci, rfl⟩ := slice_is hpv
      have HC := Lib.hid (HFF.out l[j] (List.getElem_mem hjlt) _ _ hpv hD)
      have hpc' := (hD.cell (World.block_lt_of_cell? w _ hpc)).trans hpc
      have HWJ := Lib.hid (wrap_nat j _ hjlt hlen)
      have hdj : (l.drop j).any g = (g l[j] || (l.drop (j + 1)).any g) := by rw [List.drop_eq_getElem_cons hjlt, List.any_cons]
      have HM2 := Lib.hid (HM.out.trans hdj)
      clear hpc hpv hdj
      cases hg : g l[j]
      · rw [hg] at HC HM2
        have HM3 : Hid (l.any g = (l.drop (j + 1)).any g) := Lib.hid (by rw [HM2.out]; simp)
        go_wp2_with (go_at_call 26; with_reducible refine (HC.out).mono ?_; rintro e w3 ⟨rfl, hb3⟩)
        have hwj := HWJ.out
        go_roundg gj
        case measure => exact Nat.lt_succ_self _
        case rel => exact ⟨j + 1, by first | rfl | (rw [hwj]), HJ2, HM3, hD.trans (hb3.mono hD.size)⟩
      · rw [hg] at HC HM2
        have HM3 : Hid (l.any g = true) := Lib.hid (by rw [HM2.out]; simp)
        go_wp2_with (go_at_call 26; with_reducible refine (HC.out).mono ?_; rintro e w3 ⟨rfl, hb3⟩)
        go_ret
        exact ⟨⟨_, rfl, by rw [HM3.out]; exact decide_eq_true (by omega)⟩, hD.trans (hb3.mono hD.size)⟩
set_option maxRecDepth 100000 in
set_option maxHeartbeats 1000000 in
theorem cont_noads {α : Type} (K : World → α → List Value → Prop) (g : List α → Bool) (l : List (List α)) (A : Option Addr) (c : Nat) (w : World) (hr : rdS (fun l cs => ∃ v, cs = [v] ∧ rdS (K w) 11 w v l) 1 w (.slice A l.length c) l)
    (HF : ∀ p ∈ l, ∀ (v : Value) (w1 : World), rdS (K w) 11 w v p → Below w.heap.size w w1 → Calls Tryd.prog 26 #[v] w1 fun e w' => e = .returned (.bool (g p)) ∧ Below w1.heap.size w1 w') (hlen : l.length ≤ 2000000) :
    Calls Tryd.prog 25 #[.slice A l.length c, .func (.func 26) #[] #[]] w fun e w' => e = .returned (.bool (l.any g)) ∧ Below w.heap.size w w' := by
  have HI := Lib.hid (index_noads K g l A c w hr HF hlen)
  clear hr HF
  go_enter Tryd.func25, Tryd.ntmps25
  go_wp2_with (go_at_call 37; with_reducible refine (HI.out).mono ?_; rintro e w3 ⟨⟨r, rfl, hr⟩, hb3⟩; have HRR := Lib.hid hr; clear hr)
  go_ret
  have hr := HRR.out
  exact ⟨by rw [← hr]; first | rfl | (simp [ge_iff_le]), hb3⟩
set_option maxRecDepth 100000 in
set_option maxHeartbeats 1000000 in
theorem index_ints (g : Int → Bool) (l : List Int) (A : Option Addr) (c : Nat) (w : World) (hr : rdS (fun (n : Int) cs => cs = [.int .i64 n] ∧ inI n) 1 w (.slice A l.length c) l)
    (HF : ∀ n ∈ l, ∀ (w1 : World), Below w.heap.size w w1 → Calls Tryd.prog 43 #[.int .i64 n] w1 fun e w' => e = .returned (.bool (g n)) ∧ Below w1.heap.size w1 w') (hlen : l.length ≤ 2000000) :
    Calls Tryd.prog 51 #[.slice A l.length c, .func (.func 43) #[] #[]] w fun e w' => (∃ r : Int, e = .returned (.int .i64 r) ∧ decide (0 ≤ r) = l.any g) ∧ Below w.heap.size w w' := by
  have HR := Lib.hid hr
  have HFF := Lib.hid HF
  clear hr HF
  go_enter Tryd.func51, Tryd.ntmps51
  go_wp2
  go_loopg [8] l.length (fun kq v8 w' => ∃ (j : Nat), v8 = .int .i64 (j : Int) ∧ Hid (kq + j = l.length) ∧ Hid (l.any g = (l.drop j).any g) ∧ Below w.heap.size w w')
  case atStart => exact ⟨0, rfl, Lib.hid rfl, Lib.hid (by rw [List.drop_zero]), Drawn0.below (by repeat (first | exact Drawn0.refl _ | apply Drawn0.step))⟩
  case round =>
    obtain ⟨j, rfl, HJ, HM, hD⟩ := hrel
    by_cases hpend : j = l.length
    · have hcj : decide ((j : Int) < (l.length : Int)) = false := decide_eq_false (by omega)
      have HN : Hid (l.any g = false) := Lib.hid (by have := HM.out; rw [hpend, List.drop_length] at this; exact this)
      go_wp2
      go_ret
      exact ⟨⟨-1, rfl, by rw [HN.out]; rfl⟩, hD⟩
    · have hjlt : j < l.length := by have := HJ.out; omega
      have hcj : decide ((j : Int) < (l.length : Int)) = true := decide_eq_true (by omega)
      obtain ⟨gj, rfl⟩ : ∃ g', gk = g' + 1 := ⟨gk - 1, by have := HJ.out; omega⟩
      have HJ2 : Hid (gj + (j + 1) = l.length) := Lib.hid (by have := HJ.out; omega)
      obtain ⟨ap, rfl, hpc, hpv⟩ := int_at HR.out j hjlt
      have HC := Lib.hid (HFF.out l[j] (List.getElem_mem hjlt) _ hD)
      have hpc' := (hD.cell (World.block_lt_of_cell? w _ hpc)).trans hpc
      have HWJ := Lib.hid (wrap_nat j _ hjlt hlen)
      have hdj : (l.drop j).any g = (g l[j] || (l.drop (j + 1)).any g) := by rw [List.drop_eq_getElem_cons hjlt, List.any_cons]
      have HM2 := Lib.hid (HM.out.trans hdj)
      clear hpc hpv hdj
      cases hg : g l[j]
      · rw [hg] at HC HM2
        have HM3 : Hid (l.any g = (l.drop (j + 1)).any g) := Lib.hid (by rw [HM2.out]; simp)
        go_wp2_with (go_at_call 43; with_reducible refine (HC.out).mono ?_; rintro e w3 ⟨rfl, hb3⟩)
        have hwj := HWJ.out
        go_roundg gj
        case measure => exact Nat.lt_succ_self _
        case rel => exact ⟨j + 1, by first | rfl | (rw [hwj]), HJ2, HM3, hD.trans (hb3.mono hD.size)⟩
      · rw [hg] at HC HM2
        have HM3 : Hid (l.any g = true) := Lib.hid (by rw [HM2.out]; simp)
        go_wp2_with (go_at_call 43; with_reducible refine (HC.out).mono ?_; rintro e w3 ⟨rfl, hb3⟩)
        go_ret
        exact ⟨⟨_, rfl, by rw [HM3.out]; exact decide_eq_true (by omega)⟩, hD.trans (hb3.mono hD.size)⟩
set_option maxRecDepth 100000 in
set_option maxHeartbeats 1000000 in
theorem cont_ints (g : Int → Bool) (l : List Int) (A : Option Addr) (c : Nat) (w : World) (hr : rdS (fun (n : Int) cs => cs = [.int .i64 n] ∧ inI n) 1 w (.slice A l.length c) l)
    (HF : ∀ n ∈ l, ∀ (w1 : World), Below w.heap.size w w1 → Calls Tryd.prog 43 #[.int .i64 n] w1 fun e w' => e = .returned (.bool (g n)) ∧ Below w1.heap.size w1 w') (hlen : l.length ≤ 2000000) :
    Calls Tryd.prog 44 #[.slice A l.length c, .func (.func 43) #[] #[]] w fun e w' => e = .returned (.bool (l.any g)) ∧ Below w.heap.size w w' := by
  have HI := Lib.hid (index_ints  g l A c w hr HF hlen)
  clear hr HF
  go_enter Tryd.func44, Tryd.ntmps44
  go_wp2_with (go_at_call 51; with_reducible refine (HI.out).mono ?_; rintro e w3 ⟨⟨r, rfl, hr⟩, hb3⟩; have HRR := Lib.hid hr; clear hr)
  go_ret
  have hr := HRR.out
  exact ⟨by rw [← hr]; first | rfl | (simp [ge_iff_le]), hb3⟩
end Go.Proofs.YtaoepeiadhdbaaaDoor.ND
namespace Go.Proofs.YtaoepeiadhdbaaaDoor.ND
open Go.Shelf Go.Sort Go.Proofs.YtaoepeiadhdbaaaDoor.P Go.RowKit Go.Proofs.YtaoepeiadhdbaaaDoorW.PrintWords Go.Proofs.YtaoepeiadhdbaaaDoorW.PrintLast Go.Proofs.YtaoepeiadhdbaaaDoorW.PrintMore
set_option linter.unusedVariables false
set_option linter.unusedSimpArgs false
/-- Is a delimiter wrong? -/
def wrongB (c : Int) : Bool := (c != 0) && ((c == 46) || !(runeB c))
set_option maxRecDepth 100000 in
set_option maxHeartbeats 1000000 in
theorem wrong_calls (c : Int) (w : World) (hT : LexTabs w) : Calls Tryd.prog 43 #[.int .i64 c] w fun e w' => e = .returned (.bool (wrongB c)) ∧ Below w.heap.size w w' := by
  have HC := Lib.hid (isRune_calls c w hT)
  have hL : wrongB c = ((c != 0) && ((c == 46) || !(runeB c))) := rfl
  rw [hL]
  clear hL
  cases e1 : (c != 0)
  · clear HC
    go_enter Tryd.func43, Tryd.ntmps43
    go_wp2_with fail
    go_ret
    exact ⟨rfl, Below.refl _ _⟩
  · cases e2 : (c == 46)
    · go_enter Tryd.func43, Tryd.ntmps43
      go_wp2_with (go_at_call 33; with_reducible refine (HC.out).mono ?_; rintro e w3 ⟨rfl, hb3⟩)
      go_ret
      exact ⟨by simp, hb3⟩
    · clear HC
      go_enter Tryd.func43, Tryd.ntmps43
      go_wp2_with fail
      go_ret
      exact ⟨rfl, Below.refl _ _⟩
/-- Are a fence's delimiters right? -/
def delimsB (np : Nat) (runes : List Int) : Bool := decide (0 < np) && (((runes.length : Int) == (np : Int) + 1) && !(runes.any wrongB))
set_option maxRecDepth 100000 in
set_option maxHeartbeats 1000000 in
theorem delims_calls (a0 a1 a2 a3 a4 : Int) (Ap : Option Addr) (lp cp : Nat) (Ar : Option Addr) (rs : List Int) (cr : Nat) (b1 b2 : Bool) (Au : Option Addr) (lu cu : Nat) (Ab : Option Addr) (lb cb : Nat) (w : World) (hlp : lp ≤ 2000000) (hrs : rs.length ≤ 2000000)
    (hr : rdS (fun (n : Int) cs => cs = [.int .i64 n] ∧ inI n) 1 w (.slice Ar rs.length cr) rs) (hT : LexTabs w) :
    Calls Tryd.prog 36 #[.agg #[.int .i64 a0, .int .i64 a1, .int .i64 a2, .int .i64 a3, .int .i64 a4, .slice Ap lp cp, .slice Ar rs.length cr, .bool b1, .bool b2, .slice Au lu cu, .slice Ab lb cb]] w fun e w' => e = .returned (.bool (delimsB lp rs)) ∧ Below w.heap.size w w' := by
  have HC := Lib.hid fun (w1 : World) (hb : Below w.heap.size w w1) => cont_ints wrongB rs Ar cr w1 (rdS_imp hr (fun p u hc => (hb.cell (World.block_lt_of_cell? w _ hc)).trans hc) (fun _ _ h => h)) (fun n hn w2 hb2 => wrong_calls n w2 (hT.below (hb.trans (hb2.mono hb.size)))) hrs
  have HB := Lib.hid fun o : Obj => (Below.refl w.heap.size w).alloc (Nat.le_refl _) o
  have hw : wrap64 ((lp : Int) + 1) = (lp : Int) + 1 := wrap64_small (by omega) (by omega)
  have hL : delimsB lp rs = (decide (0 < lp) && (((rs.length : Int) == (lp : Int) + 1) && !(rs.any wrongB))) := rfl
  rw [hL]
  clear hL hr hT hlp hrs
  cases e1 : decide (0 < lp)
  · clear HC hw
    go_enter Tryd.func36, Tryd.ntmps36
    go_wp2_with fail
    go_ret
    exact ⟨rfl, HB.out _⟩
  · cases e2 : ((rs.length : Int) == (lp : Int) + 1)
    · clear HC
      go_enter Tryd.func36, Tryd.ntmps36
      go_wp2_with fail
      go_ret
      exact ⟨rfl, HB.out _⟩
    · go_enter Tryd.func36, Tryd.ntmps36
      go_wp2_with (go_at_call 44; with_reducible refine (HC.out _ (HB.out _)).mono ?_; rintro e w3 ⟨rfl, hb3⟩)
      go_ret
      exact ⟨by simp, (HB.out _).trans (hb3.mono (HB.out _).size)⟩
end Go.Proofs.YtaoepeiadhdbaaaDoor.ND
