/- sfnt.Find and sfnt.Sum, walked: the bytes of the first table of a tag, and a table's sum. Conditions: a row of fewer than 10^9 tables, a table of at most 10^9 bytes. -/
import Derived.Test.YtgchajlfopmcjaaPx0
import Derived.Test.YtgchajlfopmcjaaBeNum
import Derived.Test.YtgchajlfopmcjaaBinRight
import Derived.Lib.Hide
import Derived.Shelf.Abstract
import Derived.Test.YtgchajlfopmcjaaSumF
namespace Go.Proofs.Ytgchajlfopmcjaa.P
open Go.Shelf Go.RowKit Go.Proofs.YtgchajlfopmcjaaW.PrintWords Go.Proofs.YtgchajlfopmcjaaW.PrintLast Go.Proofs.YtgchajlfopmcjaaW.PrintMore Go.Proofs.Ytgchajlfopmcjaa.BN
set_option linter.unusedVariables false
set_option linter.unusedSimpArgs false
set_option maxRecDepth 100000
theorem find_pred (t : ByteArray) (B : Nat) (W : World) (x : S33) (hB : B < W.heap.size) (hc : W.cell? ⟨B, 0, none⟩ = some (.string t)) :
    Calls Try.prog 40 #[.agg #[.string x.f0, .string x.f1], .pointer (some ⟨B, 0, none⟩)] W fun e w' => e = .returned (.bool (x.f0.toList == t.toList)) ∧ Below W.heap.size W w' := by
  have hne : ¬ (B = W.heap.size) := by omega
  go_enter Try.func40, Try.ntmps40
  go_wp2
  go_ret
  exact ⟨rfl, (Below.refl _ _).alloc (Nat.le_refl _) _⟩
def hitT (t : ByteArray) (x : S33) : Bool := x.f0.toList == t.toList
def findI (t : ByteArray) : List S33 → Nat → Int
  | [], _ => -1
  | x :: l, i => if hitT t x then (i : Int) else findI t l (i + 1)
theorem findI_hit (t : ByteArray) : ∀ (l : List S33) (k i : Nat), k < l.length → (∀ j, j < k → hitT t (l.getD j z33) = false) → hitT t (l.getD k z33) = true → findI t l i = ((i + k : Nat) : Int)
  | [], k, i, h, _, _ => absurd h (by simp)
  | x :: l, 0, i, _, _, h => by
    have : hitT t x = true := by simpa using h
    rw [findI, if_pos this]; rfl
  | x :: l, k + 1, i, hk, ha, h => by
    have h0 : hitT t x = false := by simpa using ha 0 (by omega)
    rw [findI, if_neg (by rw [h0]; decide), findI_hit t l k (i + 1) (by simpa using hk) (fun j hj => by simpa using ha (j + 1) (by omega)) (by simpa using h)]
    congr 1; omega
theorem findI_none (t : ByteArray) : ∀ (l : List S33) (i : Nat), (∀ j, j < l.length → hitT t (l.getD j z33) = false) → findI t l i = -1
  | [], i, _ => rfl
  | x :: l, i, ha => by
    have h0 : hitT t x = false := by simpa using ha 0 (by simp)
    rw [findI, if_neg (by rw [h0]; decide), findI_none t l (i + 1) (fun j hj => by simpa using ha (j + 1) (by simpa using hj))]
set_option maxHeartbeats 1000000 in
theorem find_idx (A0 : Option Addr) (c0 : Nat) (l : List S33) (t : ByteArray) (B : Nat) (w : World) (hr0 : Kd.C k33 w A0 l.length l) (hB : B < w.heap.size) (hc : w.cell? ⟨B, 0, none⟩ = some (.string t)) :
    Calls Try.prog 39 #[.slice A0 l.length c0, .func (.func 40) #[] #[.pointer (some ⟨B, 0, none⟩)]] w fun e w' => e = .returned (.int .i64 (findI t l 0)) ∧ Below w.heap.size w w' := by
  have hmax := Kd.C_max hr0
  have HR := Lib.hid hr0
  have HC := Lib.hid hc
  clear hr0 hc
  have hlen : (0 : Int) ≤ (l.length : Int) := by omega
  go_enter Try.func39, Try.ntmps39
  go_wp2
  go_loopg [8] (l.length + 1) (fun gk v8 wr => ∃ (x : Int) (k : Nat), v8 = .int .i64 x ∧ Hid (x = (k : Int)) ∧ Hid (k ≤ l.length ∧ l.length + 1 - k ≤ gk ∧ ∀ j, j < k → hitT t (l.getD j z33) = false) ∧ Hid (Below w.heap.size w wr))
  case atStart => exact ⟨0, 0, rfl, Lib.hid rfl, Lib.hid ⟨by omega, by omega, fun j hj => absurd hj (by omega)⟩, Lib.hid (Below.refl _ _)⟩
  case round =>
    obtain ⟨x, k, rfl, HXK, HT, HB⟩ := hrel
    by_cases hlt : k < l.length
    · have hltz : x < (l.length : Int) := by have := HXK.out; omega
      have hk0 : (0 : Int) ≤ x := by have := HXK.out; omega
      have HC1 := Lib.hid (Kd.C_below HR.out HB.out)
      obtain ⟨ad, e1, hx0, hx1⟩ := at_T33 HC1.out x hk0 hltz
      subst e1
      have hcall := find_pred t B wr (rd_T33 l x) (Nat.lt_of_lt_of_le hB HB.out.size) ((HB.out.cell (p := ⟨B, 0, none⟩) hB).trans HC.out)
      have hhit : hitT t (l.getD k z33) = ((rd_T33 l x).f0.toList == t.toList) := by rw [HXK.out]; rfl
      generalize ((rd_T33 l x).f0.toList == t.toList) = q at hcall hhit
      have HH := Lib.hid hhit
      have HCA := Lib.hid hcall
      clear hhit hcall
      cases q with
      | true =>
        go_wp2_with (go_at_call 40; refine HCA.out.mono ?_; rintro e w' ⟨rfl, hb'⟩)
        go_ret
        refine ⟨?_, HB.out.trans (hb'.mono HB.out.size)⟩
        rw [HXK.out, findI_hit t l k 0 hlt HT.out.2.2 HH.out]; simp
      | false =>
        have hxw : IntKind.i64.wrap (x + 1) = x + 1 := by rw [i64_w, wrap64_small (by omega) (by omega)]
        go_wp2_with (go_at_call 40; refine HCA.out.mono ?_; rintro e w' ⟨rfl, hb'⟩)
        go_roundg (l.length - k)
        case measure => have := HT.out; omega
        case rel =>
          refine ⟨x + 1, k + 1, rfl, Lib.hid (by have := HXK.out; omega), Lib.hid ⟨by omega, by omega, fun j hj => ?_⟩, Lib.hid (HB.out.trans (hb'.mono HB.out.size))⟩
          rcases Nat.lt_or_ge j k with h | h
          · exact HT.out.2.2 j h
          · rw [show j = k by omega]; exact HH.out
    · have hke : k = l.length := by have := HT.out; omega
      have hltz : ¬ x < (l.length : Int) := by have := HXK.out; omega
      go_wp2
      go_ret
      exact ⟨by rw [findI_none t l 0 (by rw [← hke]; exact HT.out.2.2)]; rfl, HB.out⟩
def findT (l : List S33) (t : ByteArray) : ByteArray × Bool := if findI t l 0 < 0 then (⟨#[]⟩, false) else ((rd_T33 l (findI t l 0)).f1, true)
theorem findI_bound (t : ByteArray) : ∀ (l : List S33) (i : Nat), findI t l i < 0 ∨ (0 ≤ findI t l i ∧ findI t l i < ((i + l.length : Nat) : Int))
  | [], i => .inl (by show (-1 : Int) < 0; decide)
  | x :: l, i => by
    rw [findI]
    by_cases h : hitT t x = true
    · rw [if_pos h]; right; simp; omega
    · rw [if_neg h]
      rcases findI_bound t l (i + 1) with h | h
      · exact .inl h
      · right; simp at h ⊢; omega
def sfnt_Find.f (l : List S33) (t : ByteArray) : Option (ByteArray × Bool) := if l.length < 1000000000 then some (findT l t) else none
set_option maxHeartbeats 1000000 in
theorem sfnt_Find.calls (A0 : Option Addr) (c0 : Nat) (l : List S33) (t : ByteArray) (r1 : ByteArray) (r2 : Bool) (w : World) (hr0 : Kd.C k33 w A0 l.length l) (hc0 : l.length ≤ c0) (h : sfnt_Find.f l t = some (r1, r2)) :
    Calls Try.prog 13 #[.slice A0 l.length c0, .string t] w fun e w' => e = .returned (.tuple #[.string r1, .bool r2]) ∧ Below w.heap.size w w' := by
  unfold sfnt_Find.f at h
  split at h
  rotate_left
  · exact absurd h (by simp)
  rename_i hn
  have h2 : findT l t = (r1, r2) := by simpa using h
  clear h
  have HI := Lib.hid (find_idx A0 c0 l t w.heap.size (w.alloc (.cells #[.string t] 9)) (Kd.C_alloc hr0 _) (by simp) (by simp))
  have hbd := findI_bound t l 0
  have HR := Lib.hid hr0
  clear hr0
  unfold findT at h2
  generalize findI t l 0 = i at HI hbd h2
  by_cases hi : i < 0
  · rw [if_pos hi] at h2
    obtain ⟨rfl, rfl⟩ : ⟨#[]⟩ = r1 ∧ false = r2 := by simpa using h2
    clear h2 hbd
    go_enter Try.func13, Try.ntmps13
    go_wp2_with (go_at_call 39; refine HI.out.mono ?_; rintro e w1 ⟨rfl, hb⟩)
    go_ret2
    exact ⟨rfl, ((Below.refl _ w).alloc (Nat.le_refl _) _).trans (hb.mono (by simp))⟩
  · rw [if_neg hi] at h2
    obtain ⟨rfl, rfl⟩ : (rd_T33 l i).f1 = r1 ∧ true = r2 := by simpa using h2
    clear h2
    have h0 : 0 ≤ i := by omega
    have h1 : i < (l.length : Int) := by simp at hbd; omega
    obtain ⟨ad, rfl, hx0, hx1⟩ := at_T33 HR.out i h0 h1
    clear hbd hx0
    go_enter Try.func13, Try.ntmps13
    go_wp2_with (go_at_call 39; refine HI.out.mono ?_; rintro e w1 ⟨rfl, hb⟩; have HB := Lib.hid (((Below.refl _ w).alloc (Nat.le_refl _) _).trans (hb.mono (by simp))); have hq := (HB.out.cell (World.block_lt_of_cell? _ _ hx1)).trans hx1; clear hb)
    go_ret2
    exact ⟨rfl, HB.out⟩
end Go.Proofs.Ytgchajlfopmcjaa.P
namespace Go.Proofs.Ytgchajlfopmcjaa.P
open Go.Shelf Go.RowKit Go.Proofs.YtgchajlfopmcjaaW.PrintWords Go.Proofs.YtgchajlfopmcjaaW.PrintLast Go.Proofs.YtgchajlfopmcjaaW.PrintMore Go.Proofs.Ytgchajlfopmcjaa.BN
set_option linter.unusedVariables false
set_option linter.unusedSimpArgs false
def headT : List UInt8 := [104, 101, 97, 100]
/-- The bytes of which a table's sum is taken. -/
def sumOf (t d : ByteArray) : ByteArray := if t.toList = headT ∧ 12 ≤ d.size then d.extract 0 8 ++ (⟨#[0, 0, 0, 0]⟩ : ByteArray) ++ d.extract 12 d.size else d
def tabSum (t d : ByteArray) : Int := sumF (bytesl (sumOf t d)) 0 % 4294967296
theorem sum_any (s : ByteArray) (hs : s.size ≤ 1000000000) (w : World) : Calls Try.prog 20 #[.string s] w fun e w' => e = .returned (.int .i64 (sumF (bytesl s) 0 % 4294967296)) ∧ Below w.heap.size w w' := by
  obtain ⟨k, hk⟩ := sum_spec s hs
  exact (bin_Sum.calls k s _ w (hk k (Nat.le_refl _))).mono fun _ _ ⟨he, hd⟩ => ⟨he, Drawn0.below hd⟩
theorem sumOf_size (t d : ByteArray) : (sumOf t d).size = d.size := by
  unfold sumOf
  split
  · rename_i h
    simp only [ByteArray.size_append, ByteArray.size_extract]
    have : (⟨#[0, 0, 0, 0]⟩ : ByteArray).size = 4 := rfl
    omega
  · rfl
set_option maxHeartbeats 4000000 in
theorem sfnt_sum_calls (t d : ByteArray) (hd : d.size ≤ 1000000000) (w : World) : Calls Try.prog 15 #[.agg #[.string t, .string d]] w fun e w' => e = .returned (.int .i64 (tabSum t d)) ∧ Below w.heap.size w w' := by
  have HS := Lib.hid (sum_any (sumOf t d) (by rw [sumOf_size]; exact hd))
  have HB : ∀ o, Below w.heap.size w (w.alloc o) := fun o => (Below.refl w.heap.size w).alloc (Nat.le_refl _) o
  have HB1 := Lib.hid HB
  clear HB
  generalize hr : tabSum t d = r
  have HR : Hid (sumF (bytesl (sumOf t d)) 0 % 4294967296 = r) := Lib.hid hr
  clear hr
  by_cases ht : t.toList = headT
  · by_cases h12 : 12 ≤ d.size
    · have HD : Hid (sumOf t d = d.extract 0 8 ++ (⟨#[0, 0, 0, 0]⟩ : ByteArray) ++ d.extract 12 d.size) := Lib.hid (by unfold sumOf; rw [if_pos ⟨ht, h12⟩])
      unfold headT at ht
      have g1 : (12 : Int) ≤ (d.size : Int) := by omega
      have g2 : (8 : Int) ≤ (d.size : Int) := by omega
      obtain ⟨Z, hZ⟩ : ∃ Z : ByteArray, Z = ⟨#[0, 0, 0, 0]⟩ := ⟨_, rfl⟩
      have hZ4 : Z.size = 4 := by rw [hZ]; rfl
      obtain ⟨A, hA⟩ : ∃ A : ByteArray, d.extract 0 8 = A := ⟨_, rfl⟩
      obtain ⟨C, hC⟩ : ∃ C : ByteArray, d.extract 12 d.size = C := ⟨_, rfl⟩
      have hA8 : A.size ≤ 8 := by rw [← hA, ByteArray.size_extract]; omega
      have hCd : C.size ≤ d.size := by rw [← hC, ByteArray.size_extract]; omega
      have z1 : A.size + Z.size ≤ 9223372036854775807 := by omega
      obtain ⟨AZ, hAZ⟩ : ∃ AZ : ByteArray, A ++ Z = AZ := ⟨_, rfl⟩
      have hAZ4 : AZ.size = A.size + Z.size := by rw [← hAZ, ByteArray.size_append]
      have z2 : AZ.size + C.size ≤ 9223372036854775807 := by omega
      have z1c : ¬ 9223372036854775807 < A.size + Z.size := by omega
      have z2c : ¬ 9223372036854775807 < AZ.size + C.size := by omega
      rw [hA, hC] at HD
      clear hAZ4 hA8 hCd
      have hrep := fun W => Try.strings_Repeat ⟨#[0]⟩ 4 W (by omega) (by have : (⟨#[0]⟩ : ByteArray).size = 1 := rfl; rw [this]; omega)
      rw [show (⟨(Lib.repeatL (⟨#[0]⟩ : ByteArray).data.toList 4).toArray⟩ : ByteArray) = ⟨#[0, 0, 0, 0]⟩ from rfl, ← hZ] at hrep
      rw [← hZ, hAZ] at HD
      have HRE := Lib.hid hrep
      clear hrep hZ hZ4
      go_enter Try.func15, Try.ntmps15
      go_wp2_with fail
      have HB2 := Lib.hid (below_drew (HB1.out (.cells #[.string t, .string d] 33)))
      go_region_held3 (fun w' => True) (trivial)
        (first
          | (go_at_call 41; refine (HRE.out _).mono ?_; rintro e w2 ⟨rfl, hb⟩; have HB3 := Lib.hid (HB2.out.trans (hb.mono (by simp))); clear hb))
      rw [HD.out] at HS HR
      go_wp2_with (go_at_call 20; refine (HS.out _).mono ?_; rintro e w3 ⟨rfl, hb⟩)
      go_ret
      exact ⟨by rw [← HR.out]; rfl, HB3.out.trans (hb.mono HB3.out.size)⟩
    · have HD : Hid (sumOf t d = d) := Lib.hid (by unfold sumOf; rw [if_neg (fun h => h12 h.2)])
      rw [HD.out] at HS HR
      unfold headT at ht
      have g1 : ¬ (12 : Int) ≤ (d.size : Int) := by omega
      go_enter Try.func15, Try.ntmps15
      go_wp2_with (go_at_call 20; refine (HS.out _).mono ?_; rintro e w3 ⟨rfl, hb⟩)
      go_ret
      exact ⟨by rw [← HR.out]; rfl, (HB1.out _).trans (hb.mono (by simp))⟩
  · have HD : Hid (sumOf t d = d) := Lib.hid (by unfold sumOf; rw [if_neg (fun h => ht h.1)])
    rw [HD.out] at HS HR
    unfold headT at ht
    go_enter Try.func15, Try.ntmps15
    go_wp2_with (go_at_call 20; refine (HS.out _).mono ?_; rintro e w3 ⟨rfl, hb⟩)
    go_ret
    exact ⟨by rw [← HR.out]; rfl, (HB1.out _).trans (hb.mono (by simp))⟩
def sfnt_Sum.f (t d : ByteArray) : Option Int := if d.size ≤ 1000000000 then some (tabSum t d) else none
theorem sfnt_Sum.calls (a0_0 a0_1 : ByteArray) (r : Int) (w : World) (h : sfnt_Sum.f a0_0 a0_1 = some r) : Calls Try.prog 15 #[.agg #[.string a0_0, .string a0_1]] w fun e w' => e = .returned (.int .i64 r) ∧ Below w.heap.size w w' := by
  unfold sfnt_Sum.f at h
  by_cases hs : a0_1.size ≤ 1000000000
  · rw [if_pos hs] at h
    cases h
    exact sfnt_sum_calls a0_0 a0_1 hs w
  · rw [if_neg hs] at h
    exact absurd h (by simp)
end Go.Proofs.Ytgchajlfopmcjaa.P
