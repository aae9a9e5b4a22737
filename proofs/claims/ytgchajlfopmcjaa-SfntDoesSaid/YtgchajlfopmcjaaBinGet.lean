/- bin.Get, walked: numbers off a text from a place on; a missing one is thrown by the reader and caught by the deferred function. No condition but the sizes of what came in. -/
import Derived.Test.YtgchajlfopmcjaaBinTake
import Derived.Test.YtgchajlfopmcjaaBinRight
import Derived.Test.YtgchajlfopmcjaaDefers
import Derived.Deep.RegionWith
import Derived.Deep.RegionLaw
import Derived.Deep.RegionHeld3
import Derived.Deep.AppendLies
import Derived.RegionTactic
import Derived.ChangeAlike
import Derived.Tactics2
namespace Go.Proofs.Ytgchajlfopmcjaa.P
open Go.RowKit Go.Proofs.YtgchajlfopmcjaaW.PrintWords Go.Proofs.YtgchajlfopmcjaaW.PrintLast Go.Proofs.YtgchajlfopmcjaaW.PrintMore Go.Proofs.Ytgchajlfopmcjaa.BN
attribute [local go_sem] max2_int min2_int max_two min_two max_three min_three max_four min_four
set_option maxRecDepth 100000
set_option linter.unusedVariables false
set_option linter.unusedSimpArgs false

theorem get1_idle (p q : Addr) (w : World) :
    CallsD Try.prog 43 #[.pointer (some p), .pointer (some q)] .returning w fun e u' w' => e = .returned (.tuple #[]) ∧ u' = .returning ∧ w' = w := by
  refine callsD_of_wpS Try.func43 rfl fun c₀ cs hu => ?_
  apply wpS_seq
  apply wpS_region
  simp [wpOpsS, go_sem, recoverD, hu, Try.ntmps43, Exit.thenS]
  refine wpS_of_wp ?_
  have htm : (#[Value.pointer (some p), Value.pointer (some q)] ++ ((Array.replicate 6 undef).setIfInBounds 1 Value.nilIface).setIfInBounds 0 Value.nilIface) = #[Value.pointer (some p), Value.pointer (some q), .nilIface, .nilIface, undef, undef, undef, undef] := rfl
  rw [htm]
  clear htm
  go_wp2
  cases c₀
  simp_all [bodyPostS, results, Try.results43]

theorem get1_panicking (L E : Nat) (v : Value) (x : Int) (older : List PanicEntry) (w : World) (hLE : L ≠ E) (hp : w.heap[L]? = some (.cells #[v] 39 (0, 0))) (hq : w.heap[E]? = some (.cells #[.int .i64 x] 24 (0, 0))) :
    CallsD Try.prog 43 #[.pointer (some ⟨L, 0, none⟩), .pointer (some ⟨E, 0, none⟩)] (.panicking ({ v := .iface 24 (.int .i64 4), recovered := false } :: older)) w fun e u' w' =>
      e = .returned (.tuple #[]) ∧ u' = .panicking ({ v := .iface 24 (.int .i64 4), recovered := true } :: older) ∧ w' = ((w.setCell ⟨L, 0, none⟩ (.slice none 0 0)).setCell ⟨E, 0, none⟩ (.int .i64 4)).drew := by
  have cL := cell_of_one hp
  have cE := cell_of_one hq
  have fL := free_of_one hp
  have fE := free_of_one hq
  have hta : ∀ W, (Instr.typeAssert (.iface 24 (.int .i64 4)) 20 24 false).run Try.prog W = .ok (.int .i64 4) W := fun _ => by kernel_rfl
  have HP := Lib.hid hp
  have HQ := Lib.hid hq
  clear hp hq
  refine callsD_of_wpS Try.func43 rfl fun c₀ cs hu => ?_
  apply wpS_seq
  apply wpS_region
  simp [wpOpsS, go_sem, recoverD, hu, Try.ntmps43, Exit.thenS]
  refine wpS_of_wp ?_
  have htm : (#[Value.pointer (some ⟨L, 0, none⟩), Value.pointer (some ⟨E, 0, none⟩)] ++ ((Array.replicate 6 undef).setIfInBounds 1 (Value.iface 24 (Value.int IntKind.i64 4))).setIfInBounds 0 (Value.iface 24 (Value.int IntKind.i64 4))) = #[Value.pointer (some ⟨L, 0, none⟩), Value.pointer (some ⟨E, 0, none⟩), (Value.iface 24 (Value.int IntKind.i64 4)), (Value.iface 24 (Value.int IntKind.i64 4)), undef, undef, undef, undef] := rfl
  rw [htm]
  clear htm
  go_wp2
  go_region
  all_goals
    refine (show bodyPostS _ _ _ _ _ _ _ _ _ from ?_)
    cases c₀
    simp [bodyPostS, results, Try.results43, go_sem]

theorem infoInt : (Try.prog.info? 3).map (fun i => (i.zero, i.size, i.bytes)) = some (some (.int .i64 0), 1, 8) := by kernel_rfl
/-! ### What Get tells -/
/-- The numbers at a text's front; none: a field is missing. -/
def getL : ByteArray → List Int → Option (List Int)
  | _, [] => some []
  | s, n :: r => if s.size < n.natAbs then none else (getL (s.extract n.natAbs s.size) r).map (takeV s n.natAbs n :: ·)
def bin_Get.f (s : ByteArray) (at_ : Int) (l : List Int) : Option (List Int × Int) :=
  if s.size ≤ 140737488351232 ∧ l.length ≤ 1000000000 then
    if at_ < 0 ∨ rightB l = false then some ([], 1) else if at_ > s.size then some ([], 4)
    else match getL (s.extract at_.toNat s.size) l with
      | none => some ([], 4)
      | some r => some (r, 0)
  else none

theorem get_arg1 (a0 : ByteArray) (a1 : Int) (A2 : Option Addr) (c2 : Nat) (l2 : List Int) (w : World) (h : a1 < 0) :
    Calls Try.prog 19 #[.string a0, .int .i64 a1, .slice A2 l2.length c2] w fun e w' => ∃ v0_ : Value, e = .returned (.tuple #[v0_, .int .i64 1]) ∧ Kd.R (Kd.int .i64) 3 w' w.heap.size (fun _ => True) v0_ [] ∧ Below w.heap.size w w' := by
  have hmf : ∀ (fn : Fn) (first cap : Array Value) (w : World), (Instr.makeFunc fn first cap).run Try.prog w = .ok (.func fn first cap) w := fun _ _ _ _ => rfl
  go_enter_defers Try.func19, Try.ntmps19
  go_wp2_with fail
  refine leaves_cons (f := 43) (args := #[.pointer (some ⟨w.heap.size, 0, none⟩), .pointer (some ⟨w.heap.size + 1, 0, none⟩)]) (by simp) (by simp [go_sem]) ?_
  refine (get1_idle _ _ _).mono ?_
  rintro e u' w'' ⟨rfl, rfl, rfl⟩
  simp [Leaves, settle, results, Try.results19, go_sem]
  exact ⟨Kd.R_nil _ _ _ _ _, ((Below.refl _ _).alloc (Nat.le_refl _) _).alloc (by simp) _⟩
theorem get_arg2 (a0 : ByteArray) (a1 : Int) (A2 : Option Addr) (c2 : Nat) (l2 : List Int) (w : World) (hr2 : Kd.C (Kd.int .i64) w A2 l2.length l2) (hc2 : l2.length ≤ c2) (hl : l2.length ≤ 1000000000) (h : 0 ≤ a1) (hr : rightB l2 = false) :
    Calls Try.prog 19 #[.string a0, .int .i64 a1, .slice A2 l2.length c2] w fun e w' => ∃ v0_ : Value, e = .returned (.tuple #[v0_, .int .i64 1]) ∧ Kd.R (Kd.int .i64) 3 w' w.heap.size (fun _ => True) v0_ [] ∧ Below w.heap.size w w' := by
  have hmf : ∀ (fn : Fn) (first cap : Array Value) (w : World), (Instr.makeFunc fn first cap).run Try.prog w = .ok (.func fn first cap) w := fun _ _ _ _ => rfl
  have HR := Aside0.mk hr2
  have HB := Aside0.mk (Below.refl w.heap.size w)
  clear hr2
  go_enter_defers Try.func19, Try.ntmps19
  go_wp2_with fail
  refine (right_any A2 c2 l2 _ (Kd.C_below HR.out (((Below.refl _ _).alloc (Nat.le_refl _) _).alloc (by simp) _)) hc2 (by omega)).mono ?_
  rintro e w' ⟨rfl, ⟨nd, rfl⟩⟩
  go_wp2_with fail
  refine leaves_cons (f := 43) (args := #[.pointer (some ⟨w.heap.size, 0, none⟩), .pointer (some ⟨w.heap.size + 1, 0, none⟩)]) (by simp) (by simp [go_sem]) ?_
  refine (get1_idle _ _ _).mono ?_
  rintro e u' w'' ⟨rfl, rfl, rfl⟩
  simp [Leaves, settle, results, Try.results19, go_sem]
  exact ⟨Kd.R_nil _ _ _ _ _, (((pw_below_drewN (((Below.refl _ _).alloc (Nat.le_refl _) _).alloc (by simp) _) nd).setCell (Nat.le_refl _) _).setCell (by simp) _)⟩

theorem get_past (a0 : ByteArray) (a1 : Int) (A2 : Option Addr) (c2 : Nat) (l2 : List Int) (w : World) (hr2 : Kd.C (Kd.int .i64) w A2 l2.length l2) (hc2 : l2.length ≤ c2) (hl : l2.length ≤ 1000000000) (h : 0 ≤ a1) (hr : rightB l2 = true) (hs : (a0.size : Int) < a1) (hz : a0.size ≤ 140737488351232) :
    Calls Try.prog 19 #[.string a0, .int .i64 a1, .slice A2 l2.length c2] w fun e w' => ∃ v0_ : Value, e = .returned (.tuple #[v0_, .int .i64 4]) ∧ Kd.R (Kd.int .i64) 3 w' w.heap.size (fun _ => True) v0_ [] ∧ Below w.heap.size w w' := by
  have hmf : ∀ (fn : Fn) (first cap : Array Value) (w : World), (Instr.makeFunc fn first cap).run Try.prog w = .ok (.func fn first cap) w := fun _ _ _ _ => rfl
  have HR := Aside0.mk hr2
  clear hr2
  go_enter_defers Try.func19, Try.ntmps19
  go_wp2_with fail
  refine (right_any A2 c2 l2 _ (Kd.C_below HR.out (((Below.refl _ _).alloc (Nat.le_refl _) _).alloc (by simp) _)) hc2 (by omega)).mono ?_
  rintro e w' ⟨rfl, ⟨nd, rfl⟩⟩
  go_wp2_with fail
  refine leaves_cons (f := 43) (args := #[.pointer (some ⟨w.heap.size, 0, none⟩), .pointer (some ⟨w.heap.size + 1, 0, none⟩)]) (by simp) (by simp [go_sem]) ?_
  refine (get1_idle _ _ _).mono ?_
  rintro e u' w'' ⟨rfl, rfl, rfl⟩
  simp [Leaves, settle, results, Try.results19, go_sem]
  exact ⟨Kd.R_nil _ _ _ _ _, (((pw_below_drewN (((Below.refl _ _).alloc (Nat.le_refl _) _).alloc (by simp) _) nd).setCell (Nat.le_refl _) _).setCell (by simp) _)⟩

def GetInv (w : World) (s0 : ByteArray) (l2 : List Int) (k : Nat) (wr : World) : Prop :=
  ∃ (s : ByteArray) (v : Value) (acc : List Int), acc.length = k ∧ s.size ≤ s0.size ∧ getL s0 l2 = (getL s (l2.drop k)).map (acc ++ ·) ∧
    wr.heap[w.heap.size]? = some (.cells #[v] 39 (0, 0)) ∧ wr.heap[w.heap.size + 1]? = some (.cells #[.int .i64 0] 24 (0, 0)) ∧ wr.heap[w.heap.size + 2]? = some (.cells #[.string s] 80 (0, 0)) ∧
    wr.ownsRow w.heap.size 3 1 v k (nums .i64 acc) ∧ Below w.heap.size w wr

theorem right_at (l : List Int) (h : rightB l = true) (k : Nat) (hk : k < l.length) : sizeB (rd l (k : Int)) = true := by
  have := List.all_eq_true.1 h (l[k]) (List.getElem_mem hk)
  simpa [rd, List.getD_eq_getElem?_getD, hk] using this
theorem sizeB_abs {n : Int} (h : sizeB n = true) : ∃ m : Nat, (n = m ∨ n = -m) ∧ 1 ≤ m ∧ m ≤ 4 ∧ n.natAbs = m := by
  simp only [sizeB, Bool.and_eq_true, decide_eq_true_eq] at h
  exact ⟨n.natAbs, by omega, by omega, by omega, rfl⟩
theorem R_of_own {w : World} {base : Nat} {v : Value} {e : Nat} {xs : List Int} (h : w.ownsRow base e 1 v xs.length (nums .i64 xs)) : Kd.R (Kd.int .i64) e w base (fun _ => True) v xs := by
  refine ⟨fun _ _ => trivial, nums .i64 xs, h, by simp [nums, Kd.int, Kd.scalar], fun j p hj => ?_⟩
  have hlt := (List.getElem?_eq_some_iff.1 hj).1
  show ((nums .i64 xs).drop (j * 1)).take 1 = [Value.int .i64 p]
  have hq : (nums .i64 xs)[j]? = some (Value.int .i64 p) := by simp [nums, hj]
  rw [Nat.mul_one, List.drop_eq_getElem_cons (by simpa [nums] using hlt)]
  have := (List.getElem?_eq_some_iff.1 hq).2
  simp [this]

theorem push3 (h : Array Obj) (a b c : Obj) : (((h.push a).push b).push c)[h.size]? = some a ∧ (((h.push a).push b).push c)[h.size + 1]? = some b ∧ (((h.push a).push b).push c)[h.size + 2]? = some c := by
  refine ⟨?_, ?_, ?_⟩
  · rw [Array.getElem?_push, if_neg (by simp; omega), Array.getElem?_push, if_neg (by simp), Array.getElem?_push, if_pos rfl]
  · rw [Array.getElem?_push, if_neg (by simp), Array.getElem?_push, if_pos (by simp)]
  · rw [Array.getElem?_push, if_pos (by simp)]
theorem GetInv.start (w : World) (s : ByteArray) (l2 : List Int) (nd : Nat) : GetInv w s l2 0 ((((w.alloc (.cells #[.slice none 0 0] 39)).alloc (.cells #[.int .i64 0] 24)).drewN nd).alloc (.cells #[.string s] 80)) := by
  have hp := push3 w.heap (.cells #[.slice none 0 0] 39) (.cells #[.int .i64 0] 24) (.cells #[.string s] 80)
  refine ⟨s, .slice none 0 0, [], rfl, Nat.le_refl _, ?_, hp.1, hp.2.1, hp.2.2, own_nil _ _ _ _, below_alloc (pw_below_drewN (((Below.refl _ _).alloc (Nat.le_refl _) _).alloc (by simp) _) nd) _⟩
  simp
theorem GetInv.finish {w : World} {l2 : List Int} {wr : World} {A : Option Addr} {c : Nat} {acc : List Int} (hacc : acc.length = l2.length) (hL : wr.heap[w.heap.size]? = some (.cells #[.slice A l2.length c] 39 (0, 0))) (hE : wr.heap[w.heap.size + 1]? = some (.cells #[.int .i64 0] 24 (0, 0)))
    (hown : wr.ownsRow w.heap.size 3 1 (.slice A l2.length c) l2.length (nums .i64 acc)) (hB : Below w.heap.size w wr) :
    Kd.R (Kd.int .i64) 3 ((wr.setCell ⟨w.heap.size, 0, none⟩ (.slice A l2.length c)).setCell ⟨w.heap.size + 1, 0, none⟩ (.int .i64 0)) w.heap.size (fun _ => True) (.slice A l2.length c) acc ∧ Below w.heap.size w ((wr.setCell ⟨w.heap.size, 0, none⟩ (.slice A l2.length c)).setCell ⟨w.heap.size + 1, 0, none⟩ (.int .i64 0)) := by
  rw [← hacc] at hown
  refine ⟨Kd.R_set (Kd.R_set (R_of_own (by rw [← hacc]; exact hown)) hL (by simp [Kd.int, Kd.scalar]) 0 _) ((Below.heap_setCell _ _ _ _ (by simp)).trans hE) (by simp [Kd.int, Kd.scalar]) 0 _, (hB.setCell (Nat.le_refl _) _).setCell (by simp) _⟩

/-- What stands behind the reader's call. -/
theorem GetInv.behind {w wr w1 : World} {s t : ByteArray} {A : Option Addr} {k c : Nat} {acc : List Int} (hL : wr.heap[w.heap.size]? = some (.cells #[.slice A k c] 39 (0, 0))) (hE : wr.heap[w.heap.size + 1]? = some (.cells #[.int .i64 0] 24 (0, 0)))
    (hown : wr.ownsRow w.heap.size 3 1 (.slice A k c) k (nums .i64 acc)) (hR : wr.heap[w.heap.size + 2]? = some (.cells #[.string s] 80 (0, 0))) (hB : Below w.heap.size w wr)
    (hG1 : w1.heap[w.heap.size + 1 + 1]? = some (.cells #[.string t] 80 (0, 0))) (hB1 : Below (w.heap.size + 1 + 1) wr.drew w1) (hK1 : KeepBut wr.drew w1 (w.heap.size + 1 + 1) none) :
    w1.cell? ⟨w.heap.size, 0, none⟩ = some (.slice A k c) ∧ w.heap.size + 1 + 1 < w1.heap.size ∧ w1.heap[w.heap.size]? = some (.cells #[.slice A k c] 39 (0, 0)) ∧ w1.heap[w.heap.size + 1]? = some (.cells #[.int .i64 0] 24 (0, 0)) ∧
      w1.heap[w.heap.size + 2]? = some (.cells #[.string t] 80 (0, 0)) ∧ w1.ownsRow w.heap.size 3 1 (.slice A k c) k (nums .i64 acc) ∧ Below w.heap.size w w1 := by
  have hL1 : w1.heap[w.heap.size]? = some (.cells #[.slice A k c] 39 (0, 0)) := hK1.blk (w := wr.drew) hL (by omega) (by simp)
  have hE1 : w1.heap[w.heap.size + 1]? = some (.cells #[.int .i64 0] 24 (0, 0)) := hK1.blk (w := wr.drew) hE (by omega) (by simp)
  exact ⟨cell_of_one hL1, blk_lt hG1, hL1, hE1, hG1, hK1.own (w := wr.drew) hown (Ne.symm (own_ne hown hR (by decide))) (by cases Value.ownBlock (.slice A k c) <;> simp), hB.trans ((fun (z : Below w.heap.size wr.drew w1) => (⟨z.os, z.tape, z.output, z.size, z.block⟩ : Below w.heap.size wr w1)) (hB1.mono (by omega)))⟩

/-- What stands behind the append. -/
theorem GetInv.grown {w w1 w2 : World} {t : ByteArray} {A : Option Addr} {k c gg cap : Nat} {acc : List Int} {x : Int} (h : w1.cell? ⟨w.heap.size, 0, none⟩ = some (.slice A k c) ∧ w.heap.size + 1 + 1 < w1.heap.size ∧ w1.heap[w.heap.size]? = some (.cells #[.slice A k c] 39 (0, 0)) ∧ w1.heap[w.heap.size + 1]? = some (.cells #[.int .i64 0] 24 (0, 0)) ∧
      w1.heap[w.heap.size + 2]? = some (.cells #[.string t] 80 (0, 0)) ∧ w1.ownsRow w.heap.size 3 1 (.slice A k c) k (nums .i64 acc) ∧ Below w.heap.size w w1)
    (hown : w2.ownsRow w.heap.size 3 1 (.slice (some ⟨gg, 0, none⟩) (k + 1) cap) (k + 1) (nums .i64 acc ++ [.int .i64 x])) (hg : (w1.alloc (.cells #[.int .i64 x] 3)).grownBy w2 (Value.slice A k c).ownBlock) :
    w2.cell? ⟨w.heap.size, 0, none⟩ = some (.slice A k c) ∧ w2.frozen? ⟨w.heap.size, 0, none⟩ = false ∧ w2.heap[w.heap.size]? = some (.cells #[.slice A k c] 39 (0, 0)) ∧ w2.heap[w.heap.size + 1]? = some (.cells #[.int .i64 0] 24 (0, 0)) ∧
      w2.heap[w.heap.size + 2]? = some (.cells #[.string t] 80 (0, 0)) ∧ w2.ownsRow w.heap.size 3 1 (.slice (some ⟨gg, 0, none⟩) (k + 1) cap) (k + 1) (nums .i64 (acc ++ [x])) ∧ Below w.heap.size w w2 := by
  obtain ⟨hc, hlt, hL, hE, hR, ho, hB⟩ := h
  have hmove : ∀ {i : Nat} {q : TypeId} {cs : Array Value}, i < w1.heap.size → w1.heap[i]? = some (.cells cs q (0, 0)) → 3 ≠ q → w2.heap[i]? = some (.cells cs q (0, 0)) := by
    intro i q cs hi hh hq
    refine (hg.block i (by simp; omega) (own_ne ho hh hq)).trans ((Below.heap_alloc _ _ _ hi).trans hh)
  have hL2 := hmove (by omega) hL (by decide)
  refine ⟨cell_of_one hL2, free_of_one hL2, hL2, hmove (by omega) hE (by decide), hmove (by omega) hR (by decide), by rw [nums_append]; exact hown, ?_⟩
  exact (hB.alloc (by omega) _).grown hg (by simp; omega) (fun j hj => own_base ho j hj)

theorem extract_extract (s : ByteArray) (m : Nat) : (s.extract m s.size).size = s.size - m := by simp
/-- One number more has been taken. -/
theorem GetInv.next {w w2 : World} {s0 s : ByteArray} {l2 acc : List Int} {gg cap k m : Nat} {n : Int} {A : Option Addr} {c : Nat}
    (h : w2.cell? ⟨w.heap.size, 0, none⟩ = some (.slice A k c) ∧ w2.frozen? ⟨w.heap.size, 0, none⟩ = false ∧ w2.heap[w.heap.size]? = some (.cells #[.slice A k c] 39 (0, 0)) ∧ w2.heap[w.heap.size + 1]? = some (.cells #[.int .i64 0] 24 (0, 0)) ∧
      w2.heap[w.heap.size + 2]? = some (.cells #[.string (s.extract m s.size)] 80 (0, 0)) ∧ w2.ownsRow w.heap.size 3 1 (.slice (some ⟨gg, 0, none⟩) (k + 1) cap) (k + 1) (nums .i64 (acc ++ [takeV s m n])) ∧ Below w.heap.size w w2)
    (hg : getL s0 l2 = (getL s (l2.drop k)).map (acc ++ ·)) (hacc : acc.length = k) (hn : n = rd l2 k) (hk : k < l2.length) (hm : n.natAbs = m) (hms : m ≤ s.size) (hss : s.size ≤ s0.size) :
    Hid (GetInv w s0 l2 (k + 1) (w2.setCell ⟨w.heap.size, 0, none⟩ (.slice (some ⟨gg, 0, none⟩) (k + 1) cap))) := by
  obtain ⟨hc, hf, hL, hE, hR, ho, hB⟩ := h
  have hmove : ∀ {i : Nat} {o : Obj}, i ≠ w.heap.size → w2.heap[i]? = some o → (w2.setCell ⟨w.heap.size, 0, none⟩ (.slice (some ⟨gg, 0, none⟩) (k + 1) cap)).heap[i]? = some o := fun hi hh => (Below.heap_setCell _ _ _ _ hi).trans hh
  refine ⟨s.extract m s.size, _, acc ++ [takeV s m n], by simp [hacc], by rw [extract_extract]; omega, ?_, one_setCell hL, hmove (by omega) hE, hmove (by omega) hR, own_setCell ho (own_ne ho hL (by decide)) _, hB.setCell (Nat.le_refl _) _⟩
  rw [hg, rd_drop l2 k hk, ← hn]
  simp only [getL, hm, if_neg (show ¬ s.size < m by omega), Option.map_map]
  congr 1
  funext x
  simp
set_option maxHeartbeats 2000000 in
theorem get_loop (a0 : ByteArray) (a1 : Int) (A2 : Option Addr) (c2 : Nat) (l2 : List Int) (w : World) (hr2 : Kd.C (Kd.int .i64) w A2 l2.length l2) (hc2 : l2.length ≤ c2) (hl : l2.length ≤ 1000000000) (h : 0 ≤ a1) (hr : rightB l2 = true) (hs : a1 ≤ (a0.size : Int)) (hz : a0.size ≤ 140737488351232) (r : List Int × Int)
    (hg : (match getL (a0.extract a1.toNat a0.size) l2 with | none => ([], 4) | some r => (r, 0)) = r) :
    Calls Try.prog 19 #[.string a0, .int .i64 a1, .slice A2 l2.length c2] w fun e w' => ∃ v0_ : Value, e = .returned (.tuple #[v0_, .int .i64 r.2]) ∧ Kd.R (Kd.int .i64) 3 w' w.heap.size (fun _ => True) v0_ r.1 ∧ Below w.heap.size w w' := by
  have hmf : ∀ (fn : Fn) (first cap : Array Value) (w : World), (Instr.makeFunc fn first cap).run Try.prog w = .ok (.func fn first cap) w := fun _ _ _ _ => rfl
  have HR := Aside0.mk hr2
  have HG := Lib.hid hg
  obtain ⟨i0, hi0, hz0, hz1, hz2⟩ := info_parts infoInt
  have hsz : (a0.extract a1.toNat a0.size).size ≤ a0.size := by simp
  clear hr2 hg
  go_enter_defers Try.func19, Try.ntmps19
  go_wp2_with fail
  refine (right_any A2 c2 l2 _ (Kd.C_below HR.out (((Below.refl _ _).alloc (Nat.le_refl _) _).alloc (by simp) _)) hc2 (by omega)).mono ?_
  rintro e w' ⟨rfl, ⟨nd, rfl⟩⟩
  go_wp2_with fail
  have HST := Lib.hid (GetInv.start w (a0.extract a1.toNat a0.size) l2 nd)
  go_loopw [32] (fun i wr => ∃ k : Nat, k ≤ l2.length ∧ i = .int .i64 k ∧ Hid (GetInv w (a0.extract a1.toNat a0.size) l2 k wr)) (fun i _ => l2.length - (intOf i).toNat)
  case atStart => exact ⟨0, Nat.zero_le _, rfl, HST⟩
  case round =>
    clear HST
    obtain ⟨k, hk, rfl, HI⟩ := hrel
    by_cases hlt : k < l2.length
    · obtain ⟨s, v, acc, hacc, hss, hgl, hL, hE, hR, hown, hB⟩ := HI.out
      clear HI
      obtain ⟨A, c, rfl⟩ := own_slice hown
      have hlt' : (k : Int) < (l2.length : Int) := by omega
      obtain ⟨ad, ead, hx⟩ := Kd.at_int HR.out (k : Int) (by omega) hlt'
      cases ead
      replace hx := (hB.cell (World.block_lt_of_cell? w _ hx)).trans hx
      simp only [Int.toNat_natCast] at hx
      have hsize := right_at l2 hr k hlt
      obtain ⟨n, hn⟩ : ∃ n, n = rd l2 k := ⟨_, rfl⟩
      rw [← hn] at hx hsize
      have HN := Lib.hid hn
      clear hn
      obtain ⟨m, hm, h1, h4, hna⟩ := sizeB_abs hsize
      have cL := cell_of_one hL
      have fL := free_of_one hL
      have lB := hB.size
      have H1 := Lib.hid hgl
      have H2 := Lib.hid hL
      have H3 := Lib.hid hE
      have H4 := Lib.hid hacc
      have H5 := Lib.hid hB
      have H6 := Lib.hid hown
      have H7 := Lib.hid hR
      have H8 := Lib.hid hna
      clear hgl hL hE hR hacc hB hown hsize hna
      by_cases hms : m ≤ s.size
      · go_wp2_with fail
        refine wp_region_noPanic ?_
        refine start_ (n := 7) (S := fun w' => w'.cell? ⟨w.heap.size, 0, none⟩ = some (.slice A k c)) (ds := [6]) #[false, false, false, false, false, false, false] (by kernel_rfl) rfl rfl cL (fun hHeld => ?_)
        refine take_ (i := 0) (N := some 36) (v := ?_) (a' := ?_) #[true, false, false, false, false, false, false] rfl rfl (by kernel_rfl) (fun _ _ _ h => h) (Or.inl ⟨by rfl, ?_⟩) hHeld ?_ ?_
        rotate_left
        · intro w' s0
          go_simp
          with_reducible rfl
        rotate_left
        · simp only [Act.put, List.setIfInBounds_toArray, List.set_cons_zero, List.set_cons_succ]
          rfl
        refine pure_ (i := 1) (N := some 37) (v := ?_) (a' := ?_) #[true, true, false, false, false, false, false] rfl rfl (by kernel_rfl) (fun _ _ _ h => h) (Or.inl ⟨by rfl, ?_⟩) ?_ ?_
        rotate_left
        · intro w'
          go_simp
          with_reducible rfl
        rotate_left
        · simp only [Act.put, List.setIfInBounds_toArray, List.set_cons_zero, List.set_cons_succ]
          rfl
        refine pure_ (i := 2) (N := some 38) (v := ?_) (a' := ?_) #[true, true, true, false, false, false, false] rfl rfl (by kernel_rfl) (fun _ _ _ h => h) (Or.inl ⟨by rfl, ?_⟩) ?_ ?_
        rotate_left
        · intro w'
          go_simp
          with_reducible rfl
        rotate_left
        · simp only [Act.put, List.setIfInBounds_toArray, List.set_cons_zero, List.set_cons_succ]
          rfl
        refine one_ (i := 3) (N := some 39) #[true, true, true, true, false, false, false] rfl rfl (by kernel_rfl) (by decide) (fun K hK => ?_)
        refine goes_ Try.func45 (by kernel_rfl) rfl #[.pointer (some ⟨w.heap.size + 1 + 1, 0, none⟩), .int .i64 n] (by rfl) rfl rfl (by (try simp only [List.map_toArray, List.map_cons, List.map_nil]); first | done | rfl) ?_
        refine (take_any (w.heap.size + 1 + 1) s m n _ (by exact H7.out) hm h1 h4 (by omega) hms).mono ?_
        rintro e w1 ⟨rfl, hG1, hB1, hK1⟩
        have HF := Lib.hid (GetInv.behind H2.out H3.out H6.out H7.out H5.out hG1 hB1 hK1)
        clear hG1 hB1 hK1
        refine ⟨_, rfl, ?_⟩
        refine hK.out _ _ HF.out.1 (fun hHeld => ?_)
        clear hK K
        refine norm_ (a' := ?_) ?_ ?_
        rotate_left
        · simp only [Act.put, List.setIfInBounds_toArray, List.set_cons_zero, List.set_cons_succ]
          rfl
        refine one_ (i := 4) (N := some 40) #[true, true, true, true, true, false, false] rfl rfl (by kernel_rfl) (by decide) (fun K hK => ?_)
        go_simp
        refine hK.out _ _ ?_ (fun hHeld => ?_)
        · rw [Below.cell (below_alloc (Below.refl w1.heap.size w1) _) (by have := HF.out.2.1; simp; omega)]; exact HF.out.1
        clear hK K
        refine one_ (i := 5) (N := some 41) #[true, true, true, true, true, true, false] rfl rfl (by kernel_rfl) (by decide) (fun K hK => ?_)
        refine step_append_lies _ rfl (.tmp 36) (.tmp 40) 39 rfl w.heap.size 3 i0 _ 1 8 Try.underlying39 hi0 hz0 hz1 hz2 rfl (by omega) (.slice A k c) k (nums .i64 acc) rfl (HF.out.2.2.2.2.2.1.alloc _) ⟨w1.heap.size, 0, none⟩ 1 1 [.int .i64 (takeV s m n)] rfl rfl (World.news_of_block (cs := #[.int .i64 (takeV s m n)]) (t := 3) (fr := (0, 0)) (heap_alloc_new w1 _)) (by simp [Value.oneCell']) (by omega) (by unfold maxLen; omega) (by omega) (by have := HF.out.2.1; simp; omega) (w1.heap.size + 1) (by simp) ?_
        intro gg cap w2 hown2 hgrow hat hlt2
        have HF2 := Lib.hid (GetInv.grown HF.out hown2 hgrow)
        clear hown2 hgrow hat hlt2
        refine hK.out _ _ HF2.out.1 (fun hHeld => ?_)
        clear hK K
        have cL2 := HF2.out.1
        have fL2 := HF2.out.2.1
        refine norm_ (a' := ?_) ?_ ?_
        rotate_left
        · simp only [Act.put, List.setIfInBounds_toArray, List.set_cons_zero, List.set_cons_succ]
          rfl
        refine last_ (i := 6) (N := none) #[true, true, true, true, true, true, true] rfl rfl (by kernel_rfl) (by decide) (fun K hK => ?_)
        go_simp
        refine hK.out _ _ ?_
        clear hK K
        refine done_ (by kernel_rfl) ?_
        refine NoPanic.normal ?_
        go_wp2
        go_roundw
        case rel => exact ⟨k + 1, by omega, by go_num, GetInv.next HF2.out H1.out H4.out HN.out hlt H8.out hms hss⟩
        case measure => simp [intOf]; omega
      · have hq : ∀ (d : Nat), (Try.f19.results.toList.all (fun r => DF.slotOf r != d) = true) → ∀ (R : Ending → World → Prop) (c : List PanicEntry) (a : Act) (v : Value) (w : World), bodyPostD Try.prog Try.f19 R (.panic c) (a.put (some d) v) w → bodyPostD Try.prog Try.f19 R (.panic c) a w := fun d hd R c a v w h => DF.panic_put hd h
        have HQ := Lib.hid hq
        clear hq
        go_wp2_with fail
        refine start_ (n := 7) (S := fun w' => w'.cell? ⟨w.heap.size, 0, none⟩ = some (.slice A k c)) (ds := [6]) #[false, false, false, false, false, false, false] (by kernel_rfl) rfl rfl cL (fun hHeld => ?_)
        refine take_ (i := 0) (N := some 36) (v := ?_) (a' := ?_) #[true, false, false, false, false, false, false] rfl rfl (by kernel_rfl) (fun c_ a_ w_ h_ => HQ.out 36 (by decide +kernel) _ c_ a_ _ w_ h_) (Or.inl ⟨by rfl, ?_⟩) hHeld ?_ ?_
        rotate_left
        · intro w' s0
          go_simp
          with_reducible rfl
        rotate_left
        · simp only [Act.put, List.setIfInBounds_toArray, List.set_cons_zero, List.set_cons_succ]
          rfl
        refine pure_ (i := 1) (N := some 37) (v := ?_) (a' := ?_) #[true, true, false, false, false, false, false] rfl rfl (by kernel_rfl) (fun c_ a_ w_ h_ => HQ.out 37 (by decide +kernel) _ c_ a_ _ w_ h_) (Or.inl ⟨by rfl, ?_⟩) ?_ ?_
        rotate_left
        · intro w'
          go_simp
          with_reducible rfl
        rotate_left
        · simp only [Act.put, List.setIfInBounds_toArray, List.set_cons_zero, List.set_cons_succ]
          rfl
        refine pure_ (i := 2) (N := some 38) (v := ?_) (a' := ?_) #[true, true, true, false, false, false, false] rfl rfl (by kernel_rfl) (fun c_ a_ w_ h_ => HQ.out 38 (by decide +kernel) _ c_ a_ _ w_ h_) (Or.inl ⟨by rfl, ?_⟩) ?_ ?_
        rotate_left
        · intro w'
          go_simp
          with_reducible rfl
        rotate_left
        · simp only [Act.put, List.setIfInBounds_toArray, List.set_cons_zero, List.set_cons_succ]
          rfl
        refine one_ (i := 3) (N := some 39) #[true, true, true, true, false, false, false] rfl rfl (by kernel_rfl) (by decide) (fun K hK => ?_)
        refine DF.callx_ Try.func45 (by kernel_rfl) rfl #[.pointer (some ⟨w.heap.size + 1 + 1, 0, none⟩), .int .i64 n] (by rfl) rfl (by (try simp only [List.map_toArray, List.map_cons, List.map_nil]); first | done | rfl) ?_
        refine (take_more (w.heap.size + 1 + 1) s m n _ (by exact H7.out) hm h1 h4 (by omega) (by omega)).mono ?_
        rintro e w1 ⟨rfl, rfl⟩
        refine (show bodyPostD _ _ _ (Exit.panic _) _ _ from ?_)
        clear hK K
        refine leaves_cons (f := 43) (args := #[.pointer (some ⟨w.heap.size, 0, none⟩), .pointer (some ⟨w.heap.size + 1, 0, none⟩)]) (by simp) (by simp [go_sem]) ?_
        refine (get1_panicking w.heap.size (w.heap.size + 1) (.slice A k c) 0 [] wr.drew (by omega) (by exact H2.out) (by exact H3.out)).mono ?_
        rintro e u' w'' ⟨rfl, rfl, rfl⟩
        have hr1 : r = ([], 4) := by
          have h1 := HG.out
          rw [H1.out, rd_drop l2 k hlt, ← HN.out] at h1
          simp only [getL, H8.out, if_pos (show s.size < m by omega), Option.map_none] at h1
          exact h1.symm
        subst hr1
        have cE := cell_of_one H3.out
        simp [Leaves, settle, results, Try.results19, go_sem, cL, cE]
        exact ⟨Kd.R_nil _ _ _ _ _, below_drew (below_drew ((H5.out.setCell (Nat.le_refl _) _).setCell (by simp) _))⟩
    · obtain rfl : k = l2.length := by omega
      obtain ⟨s, v, acc, hacc, hss, hgl, hL, hE, hR, hown, hB⟩ := HI.out
      clear HI
      obtain ⟨A, c, rfl⟩ := own_slice hown
      have cL := cell_of_one hL
      have cE := cell_of_one hE
      have fL := free_of_one hL
      have fE := free_of_one hE
      have H1 := Lib.hid hgl
      have H2 := Lib.hid hL
      have H3 := Lib.hid hE
      have H4 := Lib.hid hacc
      have H5 := Lib.hid hB
      have H6 := Lib.hid hown
      clear hgl hL hE hR hacc hB hown
      go_wp2
      refine leaves_cons (f := 43) (args := #[.pointer (some ⟨w.heap.size, 0, none⟩), .pointer (some ⟨w.heap.size + 1, 0, none⟩)]) (by simp) (by simp [go_sem]) ?_
      refine (get1_idle _ _ _).mono ?_
      rintro e u' w'' ⟨rfl, rfl, rfl⟩
      have hfin := GetInv.finish H4.out H2.out H3.out H6.out H5.out
      have hr1 : r = (acc, 0) := by
        have h1 := HG.out
        rw [H1.out, List.drop_length] at h1
        simp [getL] at h1
        exact h1.symm
      subst hr1
      simp [Leaves, settle, results, Try.results19, go_sem, cL, cE]
      exact hfin

theorem bin_Get.calls (a0 : ByteArray) (a1 : Int) (A2 : Option Addr) (c2 : Nat) (l2 : List Int) (r1 : List Int) (r2 : Int) (w : World) (hr2 : Kd.C (Kd.int .i64) w A2 l2.length l2) (hc2 : l2.length ≤ c2) (h : bin_Get.f a0 a1 l2 = some (r1, r2)) :
    Calls Try.prog 19 #[.string a0, .int .i64 a1, .slice A2 l2.length c2] w fun e w' => ∃ v0_ : Value, e = .returned (.tuple #[v0_, .int .i64 r2]) ∧ Kd.R (Kd.int .i64) 3 w' w.heap.size (fun _ => True) v0_ r1 ∧ Below w.heap.size w w' := by
  unfold bin_Get.f at h
  by_cases hb : a0.size ≤ 140737488351232 ∧ l2.length ≤ 1000000000
  · rw [if_pos hb] at h
    by_cases h1 : a1 < 0 ∨ rightB l2 = false
    · rw [if_pos h1] at h
      obtain ⟨rfl, rfl⟩ : r1 = [] ∧ r2 = 1 := by simpa [eq_comm] using h
      by_cases h2 : a1 < 0
      · exact get_arg1 a0 a1 A2 c2 l2 w h2
      · exact get_arg2 a0 a1 A2 c2 l2 w hr2 hc2 hb.2 (by omega) (h1.resolve_left h2)
    · rw [if_neg h1] at h
      have hr : rightB l2 = true := by
        cases hx : rightB l2
        · exact absurd (.inr hx) h1
        · rfl
      have h0 : 0 ≤ a1 := by
        have : ¬ a1 < 0 := fun z => h1 (.inl z)
        omega
      by_cases h2 : a1 > (a0.size : Int)
      · rw [if_pos h2] at h
        obtain ⟨rfl, rfl⟩ : r1 = [] ∧ r2 = 4 := by simpa [eq_comm] using h
        exact get_past a0 a1 A2 c2 l2 w hr2 hc2 hb.2 h0 hr h2 hb.1
      · rw [if_neg h2] at h
        refine get_loop a0 a1 A2 c2 l2 w hr2 hc2 hb.2 h0 hr (by omega) hb.1 (r1, r2) ?_
        cases hx : getL (a0.extract a1.toNat a0.size) l2 <;> rw [hx] at h <;> simpa using h
  · rw [if_neg hb] at h
    exact absurd h (by simp)
end Go.Proofs.Ytgchajlfopmcjaa.P
