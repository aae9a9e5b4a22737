/- fixed.MulDiv, walked. -/
import Derived.Test.YtfeodnceegkmjaaPx0
import Derived.Test.YtfeodnceegkmjaaPx7
import Derived.Test.YtfeodnceegkmjaaDefers
import Derived.Test.YtfeodnceegkmjaaBinRight
import Derived.Lib.Hide
import Derived.Laws.Rows
import Derived.Laws.NewBlocks
import Derived.Shelf.Abstract
import Derived.Deep.RegionWith
import Derived.Deep.RegionLaw
import Derived.Deep.RegionHeld3
import Derived.Deep.AppendLies
import Derived.RegionTactic
import Derived.ChangeAlike
import Derived.Tactics2
namespace Go.Proofs.Ytfeodnceegkmjaa.P
open Go.RowKit Go.Proofs.YtfeodnceegkmjaaW.PrintWords Go.Proofs.YtfeodnceegkmjaaW.PrintLast Go.Proofs.YtfeodnceegkmjaaW.PrintMore
set_option linter.unusedVariables false
set_option linter.unusedSimpArgs false
attribute [local go_sem] max2_int min2_int max_two min_two max_three min_three max_four min_four
def lenB (x : Int) : Bool := decide (-1073741823 ≤ x) && decide (x ≤ 1073741823)
theorem fixed_is_ev (l : List Int) (hl : l.length ≤ 1000) : Ev (fun k => fixed_Is.f k l) (l.all lenB) := by
  have key : ∀ (d i : Nat), i + d = l.length → Ev (fun k => fixed_Is.l0 k l (l.length : Int) (i : Int)) ((l.drop i).all lenB) := by
    intro d
    induction d with
    | zero =>
      intro i hd
      rw [List.drop_of_length_le (by omega)]
      exact Ev.step (f := fun k => some true) (fun k => by simp only [fixed_Is.l0]; rw [if_neg (by omega)]) (Ev.now _)
    | succ d ih =>
      intro i hd
      rw [rd_drop l i (by omega)]
      simp only [List.all_cons]
      by_cases h1 : rd l (i : Int) < -1073741823
      · have : lenB (rd l (i : Int)) = false := by unfold lenB; rw [decide_eq_false (by omega)]; rfl
        rw [this]
        exact Ev.step (f := fun k => some false) (fun k => by simp only [fixed_Is.l0]; rw [if_pos (by omega), if_pos (by omega), if_pos (by omega), if_pos (by omega)]) (Ev.now _)
      · by_cases h2 : rd l (i : Int) > 1073741823
        · have : lenB (rd l (i : Int)) = false := by unfold lenB; rw [decide_eq_false (p := rd l (i : Int) ≤ 1073741823) (by omega), Bool.and_false]
          rw [this]
          exact Ev.step (f := fun k => some false) (fun k => by simp only [fixed_Is.l0]; rw [if_pos (by omega), if_pos (by omega), if_pos (by omega), if_neg (by omega), if_pos (by omega)]) (Ev.now _)
        · have : lenB (rd l (i : Int)) = true := by unfold lenB; rw [decide_eq_true (p := -1073741823 ≤ rd l (i : Int)) (by omega), decide_eq_true (p := rd l (i : Int) ≤ 1073741823) (by omega)]; rfl
          rw [this, Bool.true_and]
          refine Ev.step (f := fun k => fixed_Is.l0 k l (l.length : Int) ((i + 1 : Nat) : Int)) (fun k => ?_) (ih (i + 1) (by omega))
          simp only [fixed_Is.l0]
          rw [if_pos (by omega), if_pos (by omega), if_pos (by omega), if_neg (by omega), if_neg (by omega), wrap64_small (x := (i : Int) + 1) (by omega) (by omega)]
          rfl
  exact key l.length 0 (by omega)
/-- fixed.need: nothing happens, or the error is thrown. -/
theorem need_calls (e : Int) (A : Option Addr) (c : Nat) (l : List Int) (w : World) (hr : Kd.C (Kd.int .i64) w A l.length l) (hc : l.length ≤ c) (hl : l.length ≤ 1000) :
    Calls Try.prog 40 #[.int .i64 e, .slice A l.length c] w fun en w' => en = (if l.all lenB then .returned (.tuple #[]) else .panicked [{ v := .iface 24 (.int .i64 e), recovered := false }]) ∧ Drawn0 w w' := by
  obtain ⟨k, hk⟩ := Ev.rounds (fixed_is_ev l hl)
  have hI := fixed_Is.calls k A c l _ w hr hc hk
  have HI := Lib.hid hI
  clear hI hr hk
  cases hb : l.all lenB
  · rw [hb] at HI
    clear hb
    simp only [Bool.false_eq_true, if_false]
    go_enter Try.func40, Try.ntmps40
    go_wp2_with (go_at_call 16; refine (HI.out).mono ?_; rintro e w1 ⟨rfl, hd⟩)
    exact ⟨rfl, rfl, hd⟩
  · rw [hb] at HI
    clear hb
    simp only [if_true]
    go_enter Try.func40, Try.ntmps40
    go_wp2_with (go_at_call 16; refine (HI.out).mono ?_; rintro e w1 ⟨rfl, hd⟩)
    go_end0
    exact ⟨rfl, hd⟩
theorem K_row (vs : List Int) (w : World) (g : Nat) (hl : vs.length ≤ 9223372036854775807) (hg : ∀ j : Nat, j < vs.length → w.cell? ⟨g, j, none⟩ = some (.int .i64 (vs.getD j 0))) : Kd.C (Kd.int .i64) w (some ⟨g, 0, none⟩) vs.length vs := by
  refine Kd.C_of_reads (d := 0) ⟨rfl, hl, fun _ => ⟨⟨g, 0, none⟩, rfl, fun j hj => ?_⟩⟩
  have := hg j hj
  rw [show (⟨g, 0, none⟩ : Addr).add j = ⟨g, j, none⟩ by unfold Addr.add; by_cases h : j = 0 <;> simp [h]]
  exact this
/-- The quotient, rounded half away from 0. -/
def mdV (a b c : Int) : Int :=
  if 2 * ((Int.tmod (a * b) c).natAbs : Int) ≥ (c.natAbs : Int) then (if (a * b < 0 ↔ c < 0) then Int.tdiv (a * b) c + 1 else Int.tdiv (a * b) c - 1) else Int.tdiv (a * b) c
theorem md_bounds (a b c : Int) (h : (-1073741823 ≤ a ∧ a ≤ 1073741823) ∧ (-1073741823 ≤ b ∧ b ≤ 1073741823) ∧ (-1073741823 ≤ c ∧ c ≤ 1073741823)) (hz : ¬ c = 0) :
    wrap64 (a * b) = a * b ∧ wrap64 ((a * b).tdiv c) = (a * b).tdiv c ∧ wrap64 (-(a * b).tmod c) = -(a * b).tmod c ∧ wrap64 (-c) = -c ∧ wrap64 ((a * b).tdiv c + 1) = (a * b).tdiv c + 1 ∧ wrap64 ((a * b).tdiv c - 1) = (a * b).tdiv c - 1 ∧
    wrap64 (2 * (a * b).tmod c) = 2 * (a * b).tmod c ∧ wrap64 (2 * -(a * b).tmod c) = 2 * -(a * b).tmod c := by
  obtain ⟨⟨a1, a2⟩, ⟨b1, b2⟩, ⟨c1, c2⟩⟩ := h
  have hpn : (a * b).natAbs ≤ 1073741823 * 1073741823 := by
    rw [Int.natAbs_mul]; exact Nat.mul_le_mul (by omega) (by omega)
  generalize a * b = p at hpn
  have hqn : (p.tdiv c).natAbs ≤ p.natAbs := by rw [Int.natAbs_tdiv]; exact Nat.div_le_self _ _
  have hrn : (p.tmod c).natAbs < c.natAbs := by rw [Int.natAbs_tmod]; exact Nat.mod_lt _ (by omega)
  generalize p.tdiv c = q at hqn
  generalize p.tmod c = r at hrn
  have e : (1073741823 * 1073741823 : Nat) = 1152921502459363329 := by decide
  rw [e] at hpn
  exact ⟨wrap64_small (by omega) (by omega), wrap64_small (by omega) (by omega), wrap64_small (by omega) (by omega), wrap64_small (by omega) (by omega), wrap64_small (by omega) (by omega), wrap64_small (by omega) (by omega), wrap64_small (by omega) (by omega), wrap64_small (by omega) (by omega)⟩
set_option maxHeartbeats 4000000 in
theorem md_body (a b c : Int) (g1 g2 g3 : Nat) (w : World) (h1 : w.cell? ⟨g1, 0, none⟩ = some (.int .i64 a)) (h2 : w.cell? ⟨g2, 0, none⟩ = some (.int .i64 b)) (h3 : w.cell? ⟨g3, 0, none⟩ = some (.int .i64 c)) :
    Calls Try.prog 39 #[.pointer (some ⟨g1, 0, none⟩), .pointer (some ⟨g2, 0, none⟩), .pointer (some ⟨g3, 0, none⟩)] w fun en w' => en = (if lenB a && lenB b && lenB c && decide (c ≠ 0) then .returned (.int .i64 (mdV a b c)) else .panicked [{ v := .iface 24 (.int .i64 1), recovered := false }]) ∧ Below w.heap.size w w' := by
  have hn := need_calls 1 (some ⟨w.heap.size, 0, none⟩) 3 [a, b, c] (w.alloc (.cells #[.int .i64 a, .int .i64 b, .int .i64 c] 3)) (K_row [a, b, c] _ _ (by simp) (by
    intro j hj
    have : j < 3 := hj
    obtain rfl | rfl | rfl : j = 0 ∨ j = 1 ∨ j = 2 := by omega
    all_goals (simp only [World.cell?, heap_alloc_new]; rfl))) (by simp) (by simp)
  have HN := Lib.hid hn
  clear hn
  cases hb : ([a, b, c] : List Int).all lenB
  · rw [hb] at HN
    have hb' : (lenB a && lenB b && lenB c && decide (c ≠ 0)) = false := by
      have : (lenB a && (lenB b && (lenB c && true))) = false := hb
      revert this; cases lenB a <;> cases lenB b <;> cases lenB c <;> simp
    rw [hb']
    simp only [Bool.false_eq_true, if_false] at HN ⊢
    clear hb hb'
    go_enter Try.func39, Try.ntmps39
    go_wp2_with (go_at_call 40; refine (HN.out).mono ?_; rintro e w1 ⟨rfl, hd⟩)
    exact ⟨rfl, rfl, ((Below.refl w.heap.size w).alloc (Nat.le_refl _) _).trans (hd.below.mono (by simp))⟩
  · rw [hb] at HN
    simp only [if_true] at HN
    have hall : lenB a = true ∧ lenB b = true ∧ lenB c = true := by
      have : (lenB a && (lenB b && (lenB c && true))) = true := hb
      revert this; cases lenB a <;> cases lenB b <;> cases lenB c <;> simp
    rw [hall.1, hall.2.1, hall.2.2]
    clear hb
    have hB0 : ∀ w1, Drawn0 (w.alloc (.cells #[.int .i64 a, .int .i64 b, .int .i64 c] 3)) w1 → Below w.heap.size w w1 ∧ w1.cell? ⟨g1, 0, none⟩ = some (.int .i64 a) ∧ w1.cell? ⟨g2, 0, none⟩ = some (.int .i64 b) ∧ w1.cell? ⟨g3, 0, none⟩ = some (.int .i64 c) := fun w1 hd => by
      have hB : Below w.heap.size w w1 := ((Below.refl w.heap.size w).alloc (Nat.le_refl _) _).trans (hd.below.mono (by simp))
      exact ⟨hB, (hB.cell (World.block_lt_of_cell? _ _ h1)).trans h1, (hB.cell (World.block_lt_of_cell? _ _ h2)).trans h2, (hB.cell (World.block_lt_of_cell? _ _ h3)).trans h3⟩
    have HB0 := Lib.hid hB0
    clear hB0
    by_cases hz : c = 0
    · subst hz
      simp only [Bool.true_and, ne_eq, not_true_eq_false, decide_false, Bool.false_eq_true, if_false]
      clear hall
      go_enter Try.func39, Try.ntmps39
      go_wp2_with (go_at_call 40; refine (HN.out).mono ?_; rintro e w1 ⟨rfl, hd⟩; obtain ⟨hb0, k1, k2, k3⟩ := HB0.out w1 hd; have HB := Lib.hid hb0; clear hd hb0 h1 h2 h3)
      exact ⟨rfl, rfl, HB.out⟩
    · have hz1 : (c == 0) = false := by simpa using hz
      have hdz : decide (c ≠ 0) = true := by simpa using hz
      rw [hdz]
      simp only [Bool.true_and, if_true]
      have hA : (-1073741823 ≤ a ∧ a ≤ 1073741823) ∧ (-1073741823 ≤ b ∧ b ≤ 1073741823) ∧ (-1073741823 ≤ c ∧ c ≤ 1073741823) := by
        have h := hall
        unfold lenB at h
        simpa [and_assoc] using h
      have HA := Lib.hid hA
      have HZ := Lib.hid hz
      clear hall hA hdz
      generalize hmv : mdV a b c = mv
      have HM := Lib.hid hmv
      clear hmv
      go_enter Try.func39, Try.ntmps39
      go_wp2_with (go_at_call 40; refine (HN.out).mono ?_; rintro e w1 ⟨rfl, hd⟩; obtain ⟨hb0, k1, k2, k3⟩ := HB0.out w1 hd; have HB := Lib.hid hb0; clear hd hb0 h1 h2 h3)
      obtain ⟨hp, hq, hnr, hnc, hq1, hq2, hr1, hr2⟩ := md_bounds a b c HA.out HZ.out
      rw [hp]
      clear hp
      generalize hpe : a * b = p at hq hnr hq1 hq2 hr1 hr2
      have HPE := Lib.hid hpe
      clear hpe
      have HQ := Lib.hid hq
      have HNR := Lib.hid hnr
      have HNC := Lib.hid hnc
      have HQ1 := Lib.hid hq1
      have HQ2 := Lib.hid hq2
      have HR1 := Lib.hid hr1
      have HR2 := Lib.hid hr2
      clear hq hnr hnc hq1 hq2 hr1 hr2
      go_region
      rw [HQ.out]
      have hnr := HNR.out
      have hnc := HNC.out
      have hq1 := HQ1.out
      have hq2 := HQ2.out
      have hr1 := HR1.out
      have hr2 := HR2.out
      clear HNR HNC HQ1 HQ2 HR1 HR2 HQ
      generalize hqe : p.tdiv c = q at hq1 hq2
      generalize hre : p.tmod c = r at hnr hr1 hr2
      have HQE := Lib.hid hqe
      have HRE := Lib.hid hre
      clear hqe hre
      have KQ1 := Lib.hid hq1
      have KQ2 := Lib.hid hq2
      by_cases hrs : r < -r <;> by_cases hcs : c < -c
      all_goals (try have hrs' : -r ≤ r := by omega)
      all_goals (try have hcs' : -c ≤ c := by omega)
      all_goals (go_wp2_with fail)
      all_goals
        (clear hnr hnc hq1 hq2 hr1 hr2
         have hM := HM.out
         unfold mdV at hM
         rw [HPE.out, HRE.out, HQE.out] at hM
         clear HM HPE HQE HRE HN HB0 HA
         have hz' := HZ.out
         go_ret
         refine ⟨?_, HB.out.trans (Below.refl _ _).drew⟩
         first
           | (have hs := ‹(decide (p < 0) == decide (c < 0)) = true›
              rw [beq_iff_eq, decide_eq_decide] at hs
              have hx : q + 1 = mv := by rw [← hM, if_pos (by omega), if_pos hs]
              rw [← hx]
              first | rfl | (show Ending.returned (Value.int .i64 (wrap64 (q + 1))) = _; rw [KQ1.out]))
           | (have hs := ‹(decide (p < 0) == decide (c < 0)) = false›
              rw [beq_eq_false_iff_ne] at hs
              have hx : q - 1 = mv := by rw [← hM, if_pos (by omega), if_neg (fun hh => hs (decide_eq_decide.2 hh))]
              rw [← hx]
              first | rfl | (show Ending.returned (Value.int .i64 (wrap64 (q - 1))) = _; rw [KQ2.out]))
           | (have hx : q = mv := by rw [← hM, if_neg (by omega)]
              rw [← hx]
              rfl))
theorem c1_idle (p q : Addr) (w : World) :
    CallsD Try.prog 49 #[.pointer (some p), .pointer (some q)] .returning w fun e u' w' => e = .returned (.tuple #[]) ∧ u' = .returning ∧ w' = w := by
  refine callsD_of_wpS Try.func49 rfl fun c₀ cs hu => ?_
  apply wpS_seq
  apply wpS_region
  simp [wpOpsS, go_sem, recoverD, hu, Try.ntmps49, Exit.thenS]
  refine wpS_of_wp ?_
  have htm : (#[Value.pointer (some p), Value.pointer (some q)] ++ ((Array.replicate 6 undef).setIfInBounds 1 Value.nilIface).setIfInBounds 0 Value.nilIface) = #[Value.pointer (some p), Value.pointer (some q), .nilIface, .nilIface, undef, undef, undef, undef] := rfl
  rw [htm]
  clear htm
  go_wp2
  cases c₀
  simp_all [bodyPostS, results, Try.results49]

theorem c1_panicking (L E : Nat) (y : Int) (v : Value) (x : Int) (older : List PanicEntry) (w : World) (hLE : L ≠ E) (hp : w.heap[L]? = some (.cells #[v] 3 (0, 0))) (hq : w.heap[E]? = some (.cells #[.int .i64 x] 24 (0, 0))) :
    CallsD Try.prog 49 #[.pointer (some ⟨L, 0, none⟩), .pointer (some ⟨E, 0, none⟩)] (.panicking ({ v := .iface 24 (.int .i64 y), recovered := false } :: older)) w fun e u' w' =>
      e = .returned (.tuple #[]) ∧ u' = .panicking ({ v := .iface 24 (.int .i64 y), recovered := true } :: older) ∧ w' = ((w.setCell ⟨L, 0, none⟩ (.int .i64 0)).setCell ⟨E, 0, none⟩ (.int .i64 y)).drew := by
  have cL := cell_of_one hp
  have cE := cell_of_one hq
  have fL := free_of_one hp
  have fE := free_of_one hq
  have hta : ∀ W, (Instr.typeAssert (.iface 24 (.int .i64 y)) 20 24 false).run Try.prog W = .ok (.int .i64 y) W := fun _ => by kernel_rfl
  have HP := Lib.hid hp
  have HQ := Lib.hid hq
  clear hp hq
  refine callsD_of_wpS Try.func49 rfl fun c₀ cs hu => ?_
  apply wpS_seq
  apply wpS_region
  simp [wpOpsS, go_sem, recoverD, hu, Try.ntmps49, Exit.thenS]
  refine wpS_of_wp ?_
  have htm : (#[Value.pointer (some ⟨L, 0, none⟩), Value.pointer (some ⟨E, 0, none⟩)] ++ ((Array.replicate 6 undef).setIfInBounds 1 (Value.iface 24 (Value.int IntKind.i64 y))).setIfInBounds 0 (Value.iface 24 (Value.int IntKind.i64 y))) = #[Value.pointer (some ⟨L, 0, none⟩), Value.pointer (some ⟨E, 0, none⟩), (Value.iface 24 (Value.int IntKind.i64 y)), (Value.iface 24 (Value.int IntKind.i64 y)), undef, undef, undef, undef] := rfl
  rw [htm]
  clear htm
  go_wp2
  go_region
  all_goals
    refine (show bodyPostS _ _ _ _ _ _ _ _ _ from ?_)
    cases c₀
    simp [bodyPostS, results, Try.results49, go_sem]

def fixed_MulDiv.f (a b c : Int) : Option (Int × Int) :=
  some (if lenB a && lenB b && lenB c && decide (c ≠ 0) then (if lenB (mdV a b c) then (mdV a b c, 0) else (0, 2)) else (0, 1))
set_option maxHeartbeats 4000000 in
theorem md_caught (a b c : Int) (g1 g2 g3 : Nat) (w : World) (h1 : w.cell? ⟨g1, 0, none⟩ = some (.int .i64 a)) (h2 : w.cell? ⟨g2, 0, none⟩ = some (.int .i64 b)) (h3 : w.cell? ⟨g3, 0, none⟩ = some (.int .i64 c)) (r1 r2 : Int) (hr : fixed_MulDiv.f a b c = some (r1, r2)) :
    Calls Try.prog 38 #[.func (.func 39) #[] #[.pointer (some ⟨g1, 0, none⟩), .pointer (some ⟨g2, 0, none⟩), .pointer (some ⟨g3, 0, none⟩)]] w fun e w' => e = .returned (.tuple #[.int .i64 r1, .int .i64 r2]) ∧ Below w.heap.size w w' := by
  have hmf : ∀ (fn : Fn) (first cap : Array Value) (w : World), (Instr.makeFunc fn first cap).run Try.prog w = .ok (.func fn first cap) w := fun _ _ _ _ => rfl
  have hr := Option.some.inj hr
  generalize hW : (w.alloc (.cells #[.int .i64 0] 3)).alloc (.cells #[.int .i64 0] 24) = W
  have hBW : Below w.heap.size w W := by rw [← hW]; exact ((Below.refl _ _).alloc (Nat.le_refl _) _).alloc (by simp) _
  have hWs : W.heap.size = w.heap.size + 2 := by rw [← hW]; simp
  have hWn : W.heap[w.heap.size]? = some (.cells #[.int .i64 0] 3 (0, 0)) := by rw [← hW, heap_alloc_old _ _ (by simp)]; exact heap_alloc_new w _
  have hWe : W.heap[w.heap.size + 1]? = some (.cells #[.int .i64 0] 24 (0, 0)) := by rw [← hW]; exact heap_alloc2_new w _ _
  have hbody := md_body a b c g1 g2 g3 W ((hBW.cell (World.block_lt_of_cell? _ _ h1)).trans h1) ((hBW.cell (World.block_lt_of_cell? _ _ h2)).trans h2) ((hBW.cell (World.block_lt_of_cell? _ _ h3)).trans h3)
  have HBODY := Lib.hid hbody
  have HBW := Lib.hid hBW
  have HWS := Lib.hid hWs
  have HWN := Lib.hid hWn
  have HWE := Lib.hid hWe
  have HR := Lib.hid hr
  clear hbody hBW hWs hWn hWe hr h1 h2 h3
  cases hg : (lenB a && lenB b && lenB c && decide (c ≠ 0))
  · rw [hg] at HBODY HR
    simp only [Bool.false_eq_true, if_false] at HBODY HR
    go_enter_defers Try.func38, Try.ntmps38
    go_wp2_with fail
    refine HBODY.out.mono ?_
    rintro e w1 ⟨rfl, hb⟩
    refine (show bodyPostD _ _ _ (Exit.panic _) _ _ from ?_)
    refine leaves_cons (f := 49) (args := #[.pointer (some ⟨w.heap.size, 0, none⟩), .pointer (some ⟨w.heap.size + 1, 0, none⟩)]) (by simp) (by simp [go_sem]) ?_
    have n1 := (hb.block _ (by have := HWS.out; omega)).trans HWN.out
    have n2 := (hb.block _ (by have := HWS.out; omega)).trans HWE.out
    refine (c1_panicking w.heap.size (w.heap.size + 1) 1 (.int .i64 0) 0 [] w1 (by omega) n1 n2).mono ?_
    rintro e u' w'' ⟨rfl, rfl, rfl⟩
    have cN := cell_of_one n1
    have cE := cell_of_one n2
    have hr1 := HR.out
    injection hr1 with e1 e2
    subst e1 e2
    simp [Leaves, settle, results, Try.results38, go_sem, cN, cE]
    exact below_drew (((HBW.out.trans (hb.mono (by have := HWS.out; omega))).setCell (Nat.le_refl _) _).setCell (by simp) _)
  · rw [hg] at HBODY HR
    simp only [if_true] at HBODY HR
    generalize hmv : mdV a b c = mv at HBODY HR
    clear hmv
    go_enter_defers Try.func38, Try.ntmps38
    go_wp2_with fail
    refine HBODY.out.mono ?_
    rintro e w1 ⟨rfl, hb⟩
    have n1 := (hb.block _ (by have := HWS.out; omega)).trans HWN.out
    have n2 := (hb.block _ (by have := HWS.out; omega)).trans HWE.out
    have cN := cell_of_one n1
    have cE := cell_of_one n2
    have fN := free_of_one n1
    have fE := free_of_one n2
    have N1 := Lib.hid n1
    have N2 := Lib.hid n2
    have HB1 := Lib.hid hb
    clear n1 n2 hb
    have hlt : w.heap.size < w1.heap.size := by have := HWS.out; have := HB1.out.size; omega
    have hlt1 : w.heap.size + 1 < w1.heap.size := by have := HWS.out; have := HB1.out.size; omega
    have hBs : Below w.heap.size w (w1.setCell ⟨w.heap.size, 0, none⟩ (.int .i64 mv)) := (HBW.out.trans (HB1.out.mono (by have := HWS.out; omega))).setCell (Nat.le_refl _) _
    generalize hw2 : w1.setCell ⟨w.heap.size, 0, none⟩ (.int .i64 mv) = w2 at hBs
    have hs2 : w2.heap.size = w1.heap.size := by rw [← hw2]; simp [World.setCell]
    have m1 : w2.heap[w.heap.size]? = some (.cells #[.int .i64 mv] 3 (0, 0)) := by rw [← hw2]; exact one_setCell N1.out
    have m2 : w2.heap[w.heap.size + 1]? = some (.cells #[.int .i64 0] 24 (0, 0)) := by
      rw [← hw2, Below.heap_setCell _ _ _ _ (by simp)]; exact N2.out
    have hn := need_calls 2 (some ⟨w2.heap.size, 0, none⟩) 1 [mv] (w2.alloc (.cells #[.int .i64 mv] 3)) (K_row [mv] _ _ (by simp) (by
      intro j hj
      have : j < 1 := hj
      obtain rfl : j = 0 := by omega
      simp only [World.cell?, heap_alloc_new]; rfl)) (by simp) (by simp)
    rw [hs2] at hn
    have HN := Lib.hid hn
    have HBS := Lib.hid hBs
    have c2N := cell_of_one m1
    have f2N := free_of_one m1
    have HS2 := Lib.hid hs2
    have hw3 : ∀ w3, Drawn0 (w2.alloc (.cells #[.int .i64 mv] 3)) w3 → Below w.heap.size w w3 ∧ w3.heap[w.heap.size]? = some (.cells #[.int .i64 mv] 3 (0, 0)) ∧ w3.heap[w.heap.size + 1]? = some (.cells #[.int .i64 0] 24 (0, 0)) := fun w3 hd => by
      have hb : Below w2.heap.size w2 w3 := ((Below.refl w2.heap.size w2).alloc (Nat.le_refl _) _).trans (hd.below.mono (by simp))
      exact ⟨HBS.out.trans (hb.mono (by rw [HS2.out]; omega)), (hb.block _ (by rw [HS2.out]; omega)).trans m1, (hb.block _ (by rw [HS2.out]; omega)).trans m2⟩
    have HW3 := Lib.hid hw3
    clear hn hBs m1 m2 hw3
    cases hv : ([mv] : List Int).all lenB
    · rw [hv] at HN
      have hv' : lenB mv = false := by simpa using hv
      rw [hv'] at HR
      simp only [Bool.false_eq_true, if_false] at HN HR
      go_wp2_with (go_at_call 40; refine (HN.out).mono ?_; rintro e w3 ⟨rfl, hd⟩; obtain ⟨hb3, n3, e3⟩ := HW3.out w3 hd)
      refine (show bodyPostD _ _ _ (Exit.panic _) _ _ from ?_)
      refine leaves_cons (f := 49) (args := #[.pointer (some ⟨w.heap.size, 0, none⟩), .pointer (some ⟨w.heap.size + 1, 0, none⟩)]) (by simp) (by simp [go_sem]) ?_
      refine (c1_panicking w.heap.size (w.heap.size + 1) 2 (.int .i64 mv) 0 [] w3 (by omega) n3 e3).mono ?_
      rintro e u' w'' ⟨rfl, rfl, rfl⟩
      have cN3 := cell_of_one n3
      have cE3 := cell_of_one e3
      have hr1 := HR.out
      injection hr1 with e1 e2
      subst e1 e2
      simp [Leaves, settle, results, Try.results38, go_sem, cN3, cE3]
      exact below_drew ((hb3.setCell (Nat.le_refl _) _).setCell (by simp) _)
    · rw [hv] at HN
      have hv' : lenB mv = true := by simpa using hv
      rw [hv'] at HR
      simp only [if_true] at HN HR
      go_wp2_with (go_at_call 40; refine (HN.out).mono ?_; rintro e w3 ⟨rfl, hd⟩; obtain ⟨hb3, n3, e3⟩ := HW3.out w3 hd; have cN3 := cell_of_one n3; have cE3 := cell_of_one e3; have fN3 := free_of_one n3; have fE3 := free_of_one e3; have HB3 := Lib.hid hb3; have N3 := Lib.hid n3; have E3 := Lib.hid e3; clear hd hb3 n3 e3)
      refine leaves_cons (f := 49) (args := #[.pointer (some ⟨w.heap.size, 0, none⟩), .pointer (some ⟨w.heap.size + 1, 0, none⟩)]) (by simp) (by simp [go_sem]) ?_
      refine (c1_idle _ _ _).mono ?_
      rintro e u' w'' ⟨rfl, rfl, rfl⟩
      have hr1 := HR.out
      injection hr1 with e1 e2
      subst e1 e2
      simp [Leaves, settle, results, Try.results38, go_sem, cN3, cE3]
      exact (HB3.out.setCell (Nat.le_refl _) _).setCell (by simp) _
set_option maxHeartbeats 4000000 in
theorem fixed_MulDiv.calls (a0 a1 a2 : Int) (r1 r2 : Int) (w : World) (h : fixed_MulDiv.f a0 a1 a2 = some (r1, r2)) :
    Calls Try.prog 23 #[.int .i64 a0, .int .i64 a1, .int .i64 a2] w fun e w' => e = .returned (.tuple #[.int .i64 r1, .int .i64 r2]) ∧ Below w.heap.size w w' := by
  have hmf : ∀ (fn : Fn) (first cap : Array Value) (w : World), (Instr.makeFunc fn first cap).run Try.prog w = .ok (.func fn first cap) w := fun _ _ _ _ => rfl
  have H := Lib.hid h
  clear h
  go_enter Try.func23, Try.ntmps23
  go_wp2_with (go_at_call 38; refine (md_caught a0 a1 a2 w.heap.size (w.heap.size + 1) (w.heap.size + 1 + 1) _ (by simp [go_sem]) (by simp [go_sem]) (by simp [go_sem]) r1 r2 H.out).mono ?_; rintro e w1 ⟨rfl, hb⟩)
  go_ret2
  exact ⟨rfl, ((((Below.refl w.heap.size w).alloc (Nat.le_refl _) _).alloc (by simp) _).alloc (by simp; try omega) _).trans (hb.mono (by simp; try omega))⟩
end Go.Proofs.Ytfeodnceegkmjaa.P
