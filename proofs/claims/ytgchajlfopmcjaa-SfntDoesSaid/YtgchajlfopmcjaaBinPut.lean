/- bin.Put, walked: numbers' bytes, each of its size. No condition but the sizes of what came in. -/
import Derived.Test.YtgchajlfopmcjaaBinRight
import Derived.Test.YtgchajlfopmcjaaBeNum
import Derived.Test.YtgchajlfopmcjaaBuilder
import Derived.Test.YtgchajlfopmcjaaPx4
import Derived.Lib.Hide
import Derived.OneCell
namespace Go.Proofs.Ytgchajlfopmcjaa.P
open Go.RowKit Go.Proofs.YtgchajlfopmcjaaW.PrintWords Go.Proofs.YtgchajlfopmcjaaW.PrintLast Go.Proofs.YtgchajlfopmcjaaW.PrintMore Go.Proofs.Ytgchajlfopmcjaa.BN
attribute [local go_sem] max2_int min2_int max_two min_two max_three min_three max_four min_four
set_option maxRecDepth 100000
set_option linter.unusedVariables false
set_option linter.unusedSimpArgs false

def fitsB (v n : Int) : Bool := if n < 0 then decide (-(2 ^ (8 * n.natAbs - 1)) ≤ v) && decide (v < 2 ^ (8 * n.natAbs - 1)) else decide (0 ≤ v) && decide (v < 2 ^ (8 * n.natAbs))
theorem fits_f (v n : Int) (hn : sizeB n = true) : bin_fits.f v n = some (fitsB v n) := by
  simp only [sizeB, Bool.and_eq_true, decide_eq_true_eq] at hn
  obtain rfl | rfl | rfl | rfl | rfl | rfl | rfl | rfl : n = -4 ∨ n = -3 ∨ n = -2 ∨ n = -1 ∨ n = 1 ∨ n = 2 ∨ n = 3 ∨ n = 4 := by omega
  · have e : fitsB v (-4) = (decide (-2147483648 ≤ v) && decide (v < 2147483648)) := rfl
    rw [e]
    show (if (-4 : Int) < 0 then (if 0 ≤ (wrap64 ((wrap64 ((-8) * (-4))) - 1)) then (if v ≥ (wrap64 (-(shl .i64 1 (wrap64 ((wrap64 ((-8) * (-4))) - 1))))) then (some (decide (v < (shl .i64 1 (wrap64 ((wrap64 ((-8) * (-4))) - 1)))))) else (some false)) else (none)) else _) = _
    rw [if_pos (by decide), if_pos (by decide +kernel), show (wrap64 (-(shl .i64 1 (wrap64 ((wrap64 ((-8) * (-4))) - 1))))) = -2147483648 by decide +kernel, show (shl .i64 1 (wrap64 ((wrap64 ((-8) * (-4))) - 1))) = 2147483648 by decide +kernel]
    by_cases h : v ≥ -2147483648
    · rw [if_pos h, show decide (-2147483648 ≤ v) = true by simpa using h]; rfl
    · rw [if_neg h, show decide (-2147483648 ≤ v) = false by simpa using h]; rfl
  · have e : fitsB v (-3) = (decide (-8388608 ≤ v) && decide (v < 8388608)) := rfl
    rw [e]
    show (if (-3 : Int) < 0 then (if 0 ≤ (wrap64 ((wrap64 ((-8) * (-3))) - 1)) then (if v ≥ (wrap64 (-(shl .i64 1 (wrap64 ((wrap64 ((-8) * (-3))) - 1))))) then (some (decide (v < (shl .i64 1 (wrap64 ((wrap64 ((-8) * (-3))) - 1)))))) else (some false)) else (none)) else _) = _
    rw [if_pos (by decide), if_pos (by decide +kernel), show (wrap64 (-(shl .i64 1 (wrap64 ((wrap64 ((-8) * (-3))) - 1))))) = -8388608 by decide +kernel, show (shl .i64 1 (wrap64 ((wrap64 ((-8) * (-3))) - 1))) = 8388608 by decide +kernel]
    by_cases h : v ≥ -8388608
    · rw [if_pos h, show decide (-8388608 ≤ v) = true by simpa using h]; rfl
    · rw [if_neg h, show decide (-8388608 ≤ v) = false by simpa using h]; rfl
  · have e : fitsB v (-2) = (decide (-32768 ≤ v) && decide (v < 32768)) := rfl
    rw [e]
    show (if (-2 : Int) < 0 then (if 0 ≤ (wrap64 ((wrap64 ((-8) * (-2))) - 1)) then (if v ≥ (wrap64 (-(shl .i64 1 (wrap64 ((wrap64 ((-8) * (-2))) - 1))))) then (some (decide (v < (shl .i64 1 (wrap64 ((wrap64 ((-8) * (-2))) - 1)))))) else (some false)) else (none)) else _) = _
    rw [if_pos (by decide), if_pos (by decide +kernel), show (wrap64 (-(shl .i64 1 (wrap64 ((wrap64 ((-8) * (-2))) - 1))))) = -32768 by decide +kernel, show (shl .i64 1 (wrap64 ((wrap64 ((-8) * (-2))) - 1))) = 32768 by decide +kernel]
    by_cases h : v ≥ -32768
    · rw [if_pos h, show decide (-32768 ≤ v) = true by simpa using h]; rfl
    · rw [if_neg h, show decide (-32768 ≤ v) = false by simpa using h]; rfl
  · have e : fitsB v (-1) = (decide (-128 ≤ v) && decide (v < 128)) := rfl
    rw [e]
    show (if (-1 : Int) < 0 then (if 0 ≤ (wrap64 ((wrap64 ((-8) * (-1))) - 1)) then (if v ≥ (wrap64 (-(shl .i64 1 (wrap64 ((wrap64 ((-8) * (-1))) - 1))))) then (some (decide (v < (shl .i64 1 (wrap64 ((wrap64 ((-8) * (-1))) - 1)))))) else (some false)) else (none)) else _) = _
    rw [if_pos (by decide), if_pos (by decide +kernel), show (wrap64 (-(shl .i64 1 (wrap64 ((wrap64 ((-8) * (-1))) - 1))))) = -128 by decide +kernel, show (shl .i64 1 (wrap64 ((wrap64 ((-8) * (-1))) - 1))) = 128 by decide +kernel]
    by_cases h : v ≥ -128
    · rw [if_pos h, show decide (-128 ≤ v) = true by simpa using h]; rfl
    · rw [if_neg h, show decide (-128 ≤ v) = false by simpa using h]; rfl
  · have e : fitsB v 1 = (decide (0 ≤ v) && decide (v < 256)) := rfl
    rw [e]
    show (if (1 : Int) < 0 then _ else (if v ≥ 0 then (if 0 ≤ (wrap64 (8 * 1)) then (some (decide (v < (shl .i64 1 (wrap64 (8 * 1)))))) else (none)) else (some false))) = _
    rw [if_neg (by decide), if_pos (show 0 ≤ wrap64 (8 * 1) by decide +kernel), show (shl .i64 1 (wrap64 (8 * 1))) = 256 by decide +kernel]
    by_cases h : v ≥ 0
    · rw [if_pos h, show decide (0 ≤ v) = true by simpa using h]; rfl
    · rw [if_neg h, show decide (0 ≤ v) = false by simpa using h]; rfl
  · have e : fitsB v 2 = (decide (0 ≤ v) && decide (v < 65536)) := rfl
    rw [e]
    show (if (2 : Int) < 0 then _ else (if v ≥ 0 then (if 0 ≤ (wrap64 (8 * 2)) then (some (decide (v < (shl .i64 1 (wrap64 (8 * 2)))))) else (none)) else (some false))) = _
    rw [if_neg (by decide), if_pos (show 0 ≤ wrap64 (8 * 2) by decide +kernel), show (shl .i64 1 (wrap64 (8 * 2))) = 65536 by decide +kernel]
    by_cases h : v ≥ 0
    · rw [if_pos h, show decide (0 ≤ v) = true by simpa using h]; rfl
    · rw [if_neg h, show decide (0 ≤ v) = false by simpa using h]; rfl
  · have e : fitsB v 3 = (decide (0 ≤ v) && decide (v < 16777216)) := rfl
    rw [e]
    show (if (3 : Int) < 0 then _ else (if v ≥ 0 then (if 0 ≤ (wrap64 (8 * 3)) then (some (decide (v < (shl .i64 1 (wrap64 (8 * 3)))))) else (none)) else (some false))) = _
    rw [if_neg (by decide), if_pos (show 0 ≤ wrap64 (8 * 3) by decide +kernel), show (shl .i64 1 (wrap64 (8 * 3))) = 16777216 by decide +kernel]
    by_cases h : v ≥ 0
    · rw [if_pos h, show decide (0 ≤ v) = true by simpa using h]; rfl
    · rw [if_neg h, show decide (0 ≤ v) = false by simpa using h]; rfl
  · have e : fitsB v 4 = (decide (0 ≤ v) && decide (v < 4294967296)) := rfl
    rw [e]
    show (if (4 : Int) < 0 then _ else (if v ≥ 0 then (if 0 ≤ (wrap64 (8 * 4)) then (some (decide (v < (shl .i64 1 (wrap64 (8 * 4)))))) else (none)) else (some false))) = _
    rw [if_neg (by decide), if_pos (show 0 ≤ wrap64 (8 * 4) by decide +kernel), show (shl .i64 1 (wrap64 (8 * 4))) = 4294967296 by decide +kernel]
    by_cases h : v ≥ 0
    · rw [if_pos h, show decide (0 ≤ v) = true by simpa using h]; rfl
    · rw [if_neg h, show decide (0 ≤ v) = false by simpa using h]; rfl
/-- A value's bytes, m of them, the greatest first: that which stands k places from the last is v / 256^k. -/
def putB (v : Int) : Nat → List UInt8
  | 0 => []
  | m + 1 => UInt8.ofNat ((v / 256 ^ m) % 256).toNat :: putB v m
def putAll : List Int → List Int → List UInt8
  | n :: r, v :: s => putB v n.natAbs ++ putAll r s
  | _, _ => []
def fitsAll : List Int → List Int → Bool
  | n :: r, v :: s => fitsB v n && fitsAll r s
  | _, _ => true
def bin_Put.f (l m : List Int) : Option (ByteArray × Int) :=
  if l.length ≤ 1000000000 ∧ m.length ≤ 1000000000 then
    if rightB l = false ∨ l.length ≠ m.length then some (⟨#[]⟩, 1) else if fitsAll l m = false then some (⟨#[]⟩, 2) else some (⟨(putAll l m).toArray⟩, 0)
  else none
theorem right_at' (l : List Int) (h : rightB l = true) (k : Nat) (hk : k < l.length) : sizeB (rd l (k : Int)) = true := by
  have := List.all_eq_true.1 h (l[k]) (List.getElem_mem hk)
  simpa [rd, List.getD_eq_getElem?_getD, hk] using this
theorem sizeB_abs' {n : Int} (h : sizeB n = true) : ∃ m : Nat, (n = m ∨ n = -m) ∧ 1 ≤ m ∧ m ≤ 4 ∧ n.natAbs = m := by
  simp only [sizeB, Bool.and_eq_true, decide_eq_true_eq] at h
  exact ⟨n.natAbs, by omega, by omega, by omega, rfl⟩

theorem put_arg1 (A0 : Option Addr) (c0 : Nat) (l0 : List Int) (A1 : Option Addr) (c1 : Nat) (l1 : List Int) (w : World) (hr0 : Kd.C (Kd.int .i64) w A0 l0.length l0) (hc0 : l0.length ≤ c0) (hl : l0.length ≤ 1000000000) (h : rightB l0 = false) :
    Calls Try.prog 31 #[.slice A0 l0.length c0, .slice A1 l1.length c1] w fun e w' => e = .returned (.tuple #[.string ⟨#[]⟩, .int .i64 1]) ∧ Below w.heap.size w w' := by
  have HR := Aside0.mk hr0
  clear hr0
  go_enter Try.func31, Try.ntmps31
  go_wp2_with fail
  refine (right_any A0 c0 l0 _ HR.out hc0 (by omega)).mono ?_
  rintro e w' ⟨rfl, ⟨nd, rfl⟩⟩
  go_wp2_with fail
  go_ret2
  exact ⟨rfl, pw_below_drewN (Below.refl _ _) nd⟩
theorem put_arg2 (A0 : Option Addr) (c0 : Nat) (l0 : List Int) (A1 : Option Addr) (c1 : Nat) (l1 : List Int) (w : World) (hr0 : Kd.C (Kd.int .i64) w A0 l0.length l0) (hc0 : l0.length ≤ c0) (hl : l0.length ≤ 1000000000) (h : rightB l0 = true) (hne : ((l0.length : Int) == (l1.length : Int)) = false) :
    Calls Try.prog 31 #[.slice A0 l0.length c0, .slice A1 l1.length c1] w fun e w' => e = .returned (.tuple #[.string ⟨#[]⟩, .int .i64 1]) ∧ Below w.heap.size w w' := by
  have HR := Aside0.mk hr0
  clear hr0
  have hne2 : ((l0.length : Int) != (l1.length : Int)) = true := by simp only [bne, hne]; rfl
  have hne3 : (l0.length == l1.length) = false := by first | simpa using hne | (simp at hne ⊢; omega)
  go_enter Try.func31, Try.ntmps31
  go_wp2_with fail
  refine (right_any A0 c0 l0 _ HR.out hc0 (by omega)).mono ?_
  rintro e w' ⟨rfl, ⟨nd, rfl⟩⟩
  go_wp2_with fail
  go_ret2
  exact ⟨rfl, pw_below_drewN (Below.refl _ _) nd⟩

def PutIn (B : Nat) (w : World) (acc : List UInt8) (v : Int) (m : Nat) (j : Int) (wr : World) : Prop :=
  ∃ done : List UInt8, done.length ≤ 4 ∧ putB v m = done ++ putB v (j + 1).toNat ∧ Lib.IsBuilderF 66 5 B B (Lib.byteCells (acc ++ done)) wr ∧ Below B w wr ∧ B < wr.heap.size

def PutInv (B : Nat) (w : World) (l0 l1 : List Int) (k : Nat) (wr : World) : Prop :=
  ∃ acc : List UInt8, acc.length ≤ 4 * k ∧ fitsAll l0 l1 = fitsAll (l0.drop k) (l1.drop k) ∧ putAll l0 l1 = acc ++ putAll (l0.drop k) (l1.drop k) ∧ Lib.IsBuilderF 66 5 B B (Lib.byteCells acc) wr ∧ Below B w wr ∧ B < wr.heap.size

theorem byteCells_snoc (l : List UInt8) (x : Int) (h0 : 0 ≤ x) (h1 : x < 256) : Lib.byteCells l ++ [.int .u8 x] = Lib.byteCells (l ++ [UInt8.ofNat x.toNat]) := by
  simp only [Lib.byteCells, List.map_append, List.map_cons, List.map_nil]
  congr 3
  have : (UInt8.ofNat x.toNat).toNat = x.toNat := by simp; omega
  rw [this]; omega
theorem pow256 (j : Nat) : (2 : Int) ^ (8 * j) = 256 ^ j := by rw [Int.pow_mul]; rfl
theorem putB_length (v : Int) : ∀ m, (putB v m).length = m
  | 0 => rfl
  | m + 1 => by simp [putB, putB_length v m]
/-- One byte more has been written. -/
theorem putB_step (v : Int) (m : Nat) (j : Int) (done : List UInt8) (hj : 0 ≤ j) (hj1 : j < m) (h4 : m ≤ 4) (h : putB v m = done ++ putB v (j + 1).toNat) :
    (done ++ [UInt8.ofNat (v / 2 ^ (8 * j).toNat % 256).toNat]).length ≤ 4 ∧ putB v m = (done ++ [UInt8.ofNat (v / 2 ^ (8 * j).toNat % 256).toNat]) ++ putB v (j - 1 + 1).toNat := by
  obtain ⟨i, rfl⟩ := Int.eq_ofNat_of_zero_le hj
  have e1 : ((i : Int) + 1).toNat = i + 1 := by omega
  have e2 : ((i : Int) - 1 + 1).toNat = i := by omega
  have e3 : (8 * (i : Int)).toNat = 8 * i := by omega
  rw [e1] at h
  have hl := congrArg List.length h
  rw [putB_length, List.length_append, putB_length] at hl
  rw [e2, e3, pow256]
  refine ⟨by simp; omega, ?_⟩
  rw [h]
  simp [putB]
theorem PutIn.step {B : Nat} {w wq w1 : World} {acc done : List UInt8} {v : Int} {m : Nat} {j : Int} (hB : Below B w wq) (hBq : B < wq.heap.size)
    (h1 : Lib.BuilderAtF 66 5 B B (.pointer (some ⟨B, 0, none⟩)) (Lib.byteCells (acc ++ done) ++ [.int .u8 (v / 2 ^ (8 * j).toNat % 256)]) w1) (hb : Below B wq w1)
    (h5 : (done ++ [UInt8.ofNat (v / 2 ^ (8 * j).toNat % 256).toNat]).length ≤ 4 ∧ putB v m = (done ++ [UInt8.ofNat (v / 2 ^ (8 * j).toNat % 256).toNat]) ++ putB v (j - 1 + 1).toNat) :
    PutIn B w acc v m (j - 1) w1 := by
  refine ⟨_, h5.1, h5.2, .inr ?_, hB.trans hb, Nat.lt_of_lt_of_le hBq hb.size⟩
  rw [byteCells_snoc _ _ (by omega) (by omega), List.append_assoc] at h1
  exact h1
theorem PutInv.next {B : Nat} {w wq : World} {l0 l1 : List Int} {acc done : List UInt8} {n v : Int} {m k : Nat} (hf : fitsAll l0 l1 = fitsAll (l0.drop k) (l1.drop k)) (hp : putAll l0 l1 = acc ++ putAll (l0.drop k) (l1.drop k))
    (hd0 : l0.drop k = n :: l0.drop (k + 1)) (hd1 : l1.drop k = v :: l1.drop (k + 1)) (hna : n.natAbs = m) (hdp : putB v m = done ++ putB v ((-1 : Int) + 1).toNat) (hbu : Lib.IsBuilderF 66 5 B B (Lib.byteCells (acc ++ done)) wq)
    (hB : Below B w wq) (hBq : B < wq.heap.size) (hfit : fitsB v n = true) (hacc : acc.length ≤ 4 * k) (hdl : done.length ≤ 4) : Hid (PutInv B w l0 l1 (k + 1) wq) := by
  have hdone : putB v m = done := by
    have : ((-1 : Int) + 1).toNat = 0 := rfl
    rw [this] at hdp
    simpa [putB] using hdp
  refine ⟨acc ++ done, by rw [List.length_append]; omega, ?_, ?_, hbu, hB, hBq⟩
  · rw [hf, hd0, hd1]; simp [fitsAll, hfit]
  · rw [hp, hd0, hd1]; simp only [putAll]; rw [hna, hdone, List.append_assoc]

set_option maxHeartbeats 2000000 in
theorem put_loop (A0 : Option Addr) (c0 : Nat) (l0 : List Int) (A1 : Option Addr) (c1 : Nat) (l1 : List Int) (w : World) (hr0 : Kd.C (Kd.int .i64) w A0 l0.length l0) (hc0 : l0.length ≤ c0) (hr1 : Kd.C (Kd.int .i64) w A1 l1.length l1) (hc1 : l1.length ≤ c1) (hl : l0.length ≤ 1000000000) (h : rightB l0 = true) (heq : l0.length = l1.length)
    (r : ByteArray × Int) (hg : (if fitsAll l0 l1 = false then (⟨#[]⟩, 2) else (⟨(putAll l0 l1).toArray⟩, 0)) = r) :
    Calls Try.prog 31 #[.slice A0 l0.length c0, .slice A1 l1.length c1] w fun e w' => e = .returned (.tuple #[.string r.1, .int .i64 r.2]) ∧ Below w.heap.size w w' := by
  have HR := Aside0.mk hr0
  have HR1 := Aside0.mk hr1
  have HG := Lib.hid hg
  clear hr0 hr1 hg
  have hn1 : ((l0.length : Int) == (l1.length : Int)) = true := by simp [heq]
  have hn2 : ((l0.length : Int) != (l1.length : Int)) = false := by simp [bne, heq]
  have hn3 : (l0.length == l1.length) = true := by simp [heq]
  have HEQ := Lib.hid heq
  clear heq
  go_enter Try.func31, Try.ntmps31
  go_wp2_with fail
  refine (right_any A0 c0 l0 _ HR.out hc0 (by omega)).mono ?_
  rintro e w' ⟨rfl, ⟨nd, rfl⟩⟩
  go_wp2_with fail
  have hst : Hid (PutInv w.heap.size w l0 l1 0 ((w.drewN nd).alloc (.cells #[.pointer none, .slice none 0 0] 66))) :=
    ⟨[], by simp, rfl, rfl, Lib.IsBuilderF.of (Lib.fresh_isBuilder _ _ (w.drewN nd)), below_alloc (pw_below_drewN (Below.refl _ _) nd) _, by simp⟩
  go_loopw [22] (fun i wr => ∃ k : Nat, k ≤ l0.length ∧ i = .int .i64 k ∧ Hid (PutInv w.heap.size w l0 l1 k wr)) (fun i _ => l0.length - (intOf i).toNat)
  case atStart => exact ⟨0, Nat.zero_le _, rfl, hst⟩
  case round =>
    clear hst
    obtain ⟨k, hk, rfl, HI⟩ := hrel
    obtain ⟨acc, hacc, hf, hp, hbu, hB, hBl⟩ := HI.out
    clear HI
    by_cases hlt : k < l0.length
    · have hlt' : (k : Int) < (l0.length : Int) := by omega
      have hlt1 : (k : Int) < (l1.length : Int) := by have := HEQ.out; omega
      obtain ⟨ad, ead, hx⟩ := Kd.at_int HR.out (k : Int) (by omega) hlt'
      obtain ⟨ad1, ead1, hx1⟩ := Kd.at_int HR1.out (k : Int) (by omega) hlt1
      cases ead
      cases ead1
      replace hx := (hB.cell (World.block_lt_of_cell? w _ hx)).trans hx
      have HX1 := Lib.hid ((show w.cell? (ad1.add (k : Int).toNat) = some (.int .i64 (rd l1 k)) from hx1))
      replace hx1 := (hB.cell (World.block_lt_of_cell? w _ hx1)).trans hx1
      simp only [Int.toNat_natCast] at hx hx1
      have hsize := right_at' l0 h k hlt
      have hd0 := rd_drop l0 k hlt
      have hd1 := rd_drop l1 k (by omega)
      obtain ⟨n, hn⟩ : ∃ n, n = rd l0 k := ⟨_, rfl⟩
      obtain ⟨v, hv⟩ : ∃ v, v = rd l1 k := ⟨_, rfl⟩
      rw [← hn] at hx hsize hd0
      rw [← hv] at hx1 hd1 HX1
      obtain ⟨m, hm, h1, h4, hna⟩ := sizeB_abs' hsize
      have H1 := Lib.hid hf
      have H2 := Lib.hid hp
      have H3 := Lib.hid hbu
      have H4 := Lib.hid hB
      have H5 := Lib.hid hna
      have H6 := Lib.hid hd0
      have H7 := Lib.hid hd1
      have H8 := Lib.hid hsize
      clear hf hp hbu hB hna hd0 hd1 hn hv hsize
      cases hfit : fitsB v n
      · go_wp2_with fail
        refine (bin_fits.calls v n false _ (by rw [fits_f v n H8.out, hfit])).mono ?_
        rintro e w' ⟨rfl, ⟨nd1, rfl⟩⟩
        go_wp2_with fail
        go_ret2
        have hr1 : r = (⟨#[]⟩, 2) := by
          have h1 := HG.out
          rw [H1.out, H6.out, H7.out, if_pos (by simp [fitsAll, hfit])] at h1
          exact h1.symm
        subst hr1
        exact ⟨rfl, pw_below_drewN H4.out nd1⟩
      · go_wp2_with fail
        refine (bin_fits.calls v n true _ (by rw [fits_f v n H8.out, hfit])).mono ?_
        rintro e w' ⟨rfl, ⟨nd1, rfl⟩⟩
        rcases hm with rfl | rfl
        all_goals
          go_wp2_with fail
          have hst : Hid (PutIn w.heap.size w acc v m ((m : Int) - 1) (wr.drewN nd1)) := ⟨[], by simp, by rw [show ((m : Int) - 1 + 1).toNat = m by omega]; rfl, by rw [List.append_nil]; exact H3.out, pw_below_drewN H4.out nd1, hBl⟩
          go_loopw [9] (fun i wq => ∃ j : Int, -1 ≤ j ∧ j < m ∧ i = .int .i64 j ∧ Hid (PutIn w.heap.size w acc v m j wq)) (fun i _ => (intOf i + 1).toNat)
          case atStart => exact ⟨(m : Int) - 1, by omega, by omega, rfl, hst⟩
          case round =>
            clear hst
            obtain ⟨j, hj0, hj1, rfl, HI⟩ := hrel
            obtain ⟨done, hdl, hdp, hbu, hB, hBq⟩ := HI.out
            clear HI
            have hx1q := (hB.cell (World.block_lt_of_cell? w _ HX1.out)).trans HX1.out
            simp only [Int.toNat_natCast] at hx1q
            clear hx hx1
            have G2 := Lib.hid hdp
            have G3 := Lib.hid hbu
            have G4 := Lib.hid hB
            clear hdp hbu hB
            by_cases hj : 0 ≤ j
            · have G5 := Lib.hid (putB_step v m j done hj hj1 h4 G2.out)
              go_wp2_with fail
              refine (Try.wb_WriteByte w.heap.size w.heap.size (Lib.byteCells (acc ++ done)) _ _ G3.out (by rw [Lib.byteCells_length, List.length_append]; omega) (by omega)).mono ?_
              rintro e w1 ⟨rfl, h1b, hb1, ho1⟩
              have G6 := Lib.hid (PutIn.step G4.out hBq h1b hb1 G5.out)
              clear h1b hb1 ho1
              go_wp2_with fail
              go_roundw
              case rel => exact ⟨j - 1, by omega, by omega, rfl, G6⟩
              case measure => simp [intOf]; omega
            · obtain rfl : j = -1 := by omega
              go_wp2_with fail
              go_roundw
              case rel => exact ⟨k + 1, by omega, by go_num, PutInv.next H1.out H2.out H6.out H7.out H5.out G2.out G3.out G4.out hBq hfit hacc hdl⟩
              case measure => simp [intOf]; omega
    · obtain rfl : k = l0.length := by omega
      have H2 := Lib.hid hp
      have H3 := Lib.hid hbu
      have H4 := Lib.hid hB
      have H1 := Lib.hid hf
      clear hf hp hbu hB
      go_wp2_with fail
      refine (Try.wb_String w.heap.size w.heap.size acc _ H3.out (by omega)).mono ?_
      rintro e w1 ⟨rfl, h2, hb2, ho2⟩
      go_wp2_with fail
      go_ret2
      have hr1 : r = (⟨acc.toArray⟩, 0) := by
        have h1 := HG.out
        have h2 := H2.out
        have h3 := H1.out
        have h4 := HEQ.out
        rw [h4, List.drop_length] at h2 h3
        rw [← h4, List.drop_length] at h2 h3
        rw [h2, h3] at h1
        simp [fitsAll, putAll] at h1
        exact h1.symm
      subst hr1
      exact ⟨rfl, H4.out.trans hb2⟩

theorem bin_Put.calls (A0 : Option Addr) (c0 : Nat) (l0 : List Int) (A1 : Option Addr) (c1 : Nat) (l1 : List Int) (r1 : ByteArray) (r2 : Int) (w : World) (hr0 : Kd.C (Kd.int .i64) w A0 l0.length l0) (hc0 : l0.length ≤ c0) (hr1 : Kd.C (Kd.int .i64) w A1 l1.length l1) (hc1 : l1.length ≤ c1) (h : bin_Put.f l0 l1 = some (r1, r2)) :
    Calls Try.prog 31 #[.slice A0 l0.length c0, .slice A1 l1.length c1] w fun e w' => e = .returned (.tuple #[.string r1, .int .i64 r2]) ∧ Below w.heap.size w w' := by
  unfold bin_Put.f at h
  by_cases hb : l0.length ≤ 1000000000 ∧ l1.length ≤ 1000000000
  · rw [if_pos hb] at h
    by_cases h1 : rightB l0 = false ∨ l0.length ≠ l1.length
    · rw [if_pos h1] at h
      obtain ⟨rfl, rfl⟩ : r1 = ⟨#[]⟩ ∧ r2 = 1 := by simpa [eq_comm] using h
      cases hr : rightB l0
      · exact put_arg1 A0 c0 l0 A1 c1 l1 w hr0 hc0 hb.1 hr
      · refine put_arg2 A0 c0 l0 A1 c1 l1 w hr0 hc0 hb.1 hr ?_
        have : l0.length ≠ l1.length := h1.resolve_left (by simp [hr])
        simp; omega
    · rw [if_neg h1] at h
      have hr : rightB l0 = true := by
        cases hx : rightB l0
        · exact absurd (.inl hx) h1
        · rfl
      have heq : l0.length = l1.length := by
        rcases Nat.decEq l0.length l1.length with hx | hx
        · exact absurd (.inr hx) h1
        · exact hx
      refine put_loop A0 c0 l0 A1 c1 l1 w hr0 hc0 hr1 hc1 hb.1 hr heq (r1, r2) ?_
      cases hx : fitsAll l0 l1 <;> rw [hx] at h <;> simpa using h
  · rw [if_neg hb] at h
    exact absurd h (by simp)
end Go.Proofs.Ytgchajlfopmcjaa.P
