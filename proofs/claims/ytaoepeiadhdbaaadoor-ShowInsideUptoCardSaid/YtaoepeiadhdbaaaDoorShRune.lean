/- show.isRune, show.limits, walked. -/
import Derived.Test.YtaoepeiadhdbaaaDoorShSmall
import Derived.Test.YtaoepeiadhdbaaaDoorNdCounts
import Derived.Test.YtaoepeiadhdbaaaDoorNdDepth
namespace Go.Proofs.YtaoepeiadhdbaaaDoor.ND
open Go.Shelf Go.Sort Go.Proofs.YtaoepeiadhdbaaaDoor.P Go.RowKit Go.Proofs.YtaoepeiadhdbaaaDoorW.PrintWords Go.Proofs.YtaoepeiadhdbaaaDoorW.PrintLast Go.Proofs.YtaoepeiadhdbaaaDoorW.PrintMore
set_option linter.unusedVariables false
set_option linter.unusedSimpArgs false
theorem quote_err (c : Int) : (quoteS c).2 = if runeB c then 0 else 1 := by
  unfold quoteS
  cases h : runeB c
  · simp
  · rw [if_neg (by simp)]
    repeat' split
    all_goals first | rfl | simp_all
set_option maxRecDepth 100000 in
set_option maxHeartbeats 1000000 in
theorem isRune_calls (c : Int) (w : World) (hT : LexTabs w) : Calls Tryd.prog 33 #[.int .i64 c] w fun e w' => e = .returned (.bool (runeB c)) ∧ Below w.heap.size w w' := by
  have hq := quote_calls c w hT
  rw [quote_err] at hq
  generalize (quoteS c).1 = s at hq
  have HQ := Lib.hid hq
  clear hq hT
  cases hr : runeB c
  · rw [hr] at HQ
    replace HQ : Hid (Calls Tryd.prog 38 #[.int .i64 c] w fun e w' => e = .returned (.tuple #[.string s, .int .i64 1]) ∧ Below w.heap.size w w') := HQ
    go_enter Tryd.func33, Tryd.ntmps33
    go_wp2_with (go_at_call 38; with_reducible refine (HQ.out).mono ?_; rintro e w1 ⟨rfl, hd⟩)
    go_ret
    exact ⟨rfl, hd⟩
  · rw [hr] at HQ
    replace HQ : Hid (Calls Tryd.prog 38 #[.int .i64 c] w fun e w' => e = .returned (.tuple #[.string s, .int .i64 0]) ∧ Below w.heap.size w w') := HQ
    go_enter Tryd.func33, Tryd.ntmps33
    go_wp2_with (go_at_call 38; with_reducible refine (HQ.out).mono ?_; rintro e w1 ⟨rfl, hd⟩)
    go_ret
    exact ⟨rfl, hd⟩
/-- May a noad's limits be so? -/
def limB (cls lim : Int) : Bool := (lim == 0) || ((cls == 1) && toldB lim)
set_option maxRecDepth 100000 in
set_option maxHeartbeats 1000000 in
theorem limits_calls (a0 a1 a2 a3 a4 : Int) (Ap : Option Addr) (lp cp : Nat) (Ar : Option Addr) (lr cr : Nat) (b1 b2 : Bool) (Au : Option Addr) (lu cu : Nat) (Ab : Option Addr) (lb cb : Nat) (w : World) :
    Calls Tryd.prog 35 #[.agg #[.int .i64 a0, .int .i64 a1, .int .i64 a2, .int .i64 a3, .int .i64 a4, .slice Ap lp cp, .slice Ar lr cr, .bool b1, .bool b2, .slice Au lu cu, .slice Ab lb cb]] w fun e w' => e = .returned (.bool (limB a1 a4)) ∧ Below w.heap.size w w' := by
  have HT := Lib.hid fun w => told_calls a0 a1 a2 a3 a4 Ap lp cp Ar lr cr b1 b2 Au lu cu Ab lb cb w
  have hL : limB a1 a4 = ((a4 == 0) || ((a1 == 1) && toldB a4)) := rfl
  rw [hL]
  clear hL
  have hB : ∀ o : Obj, Below w.heap.size w (w.alloc o) := fun o => (Below.refl w.heap.size w).alloc (Nat.le_refl _) o
  have HB := Lib.hid hB
  clear hB
  cases e1 : (a4 == 0)
  · cases e2 : (a1 == 1)
    · go_enter Tryd.func35, Tryd.ntmps35
      go_wp2_with fail
      go_ret
      exact ⟨rfl, HB.out _⟩
    · go_enter Tryd.func35, Tryd.ntmps35
      go_wp2_with (go_at_call 14; with_reducible refine (HT.out _).mono ?_; rintro e w1 ⟨rfl, hd⟩)
      go_ret
      exact ⟨by simp, (HB.out _).trans (hd.mono (HB.out _).size)⟩
  · go_enter Tryd.func35, Tryd.ntmps35
    go_wp2_with fail
    go_ret
    exact ⟨rfl, HB.out _⟩
/-- What parse.Class answers. -/
def inR (c : Int) (l : List (Int × Int)) : Bool := l.any fun p => decide (p.1 ≤ c) && decide (c ≤ p.2)
def clsR (c : Int) : Int :=
  if inR c [(8719, 8721), (8747, 8755)] then 1 else
  if inR c [(42, 43), (45, 45), (177, 177), (183, 183), (215, 215), (247, 247), (8722, 8723), (8727, 8729), (8743, 8746), (8853, 8857)] then 2 else
  if inR c [(58, 58), (60, 62), (8592, 8601), (8712, 8717), (8764, 8777), (8800, 8805), (8834, 8839)] then 3 else
  if inR c [(40, 40), (91, 91), (123, 123), (10216, 10216)] then 4 else
  if inR c [(33, 33), (41, 41), (63, 63), (93, 93), (125, 125), (10217, 10217)] then 5 else
  if inR c [(44, 44), (59, 59)] then 6 else 0
end Go.Proofs.YtaoepeiadhdbaaaDoor.ND
