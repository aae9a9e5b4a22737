/- sfnt.search and sfnt.Put, walked: tables, as a file. Conditions: fewer than 10^9 tables, texts that a machine holds. -/
import Derived.Test.YtgchajlfopmcjaaPx0
import Derived.Test.YtgchajlfopmcjaaShelf
import Derived.Test.YtgchajlfopmcjaaBeNum
import Derived.Test.YtgchajlfopmcjaaBinRight
import Derived.Lib.Hide
import Derived.RegionTactic
import Derived.BigRegion
import Derived.Test.YtgchajlfopmcjaaSfRight
import Derived.Test.YtgchajlfopmcjaaSfRead
import Derived.Test.YtgchajlfopmcjaaBinPad
import Derived.Test.YtgchajlfopmcjaaPutSpec
import Derived.Test.YtgchajlfopmcjaaSfSum
import Derived.Test.YtgchajlfopmcjaaBuilder
import Derived.Test.YtgchajlfopmcjaaBinPut
import Derived.Deep.RegionHeld3
import Derived.Deep.AppendLies
import Derived.Deep.DrawnRows
import Derived.Shelf.Strings.MapGrows
namespace Go.Proofs.Ytgchajlfopmcjaa.P
open Go.Shelf Go.RowKit Go.Proofs.YtgchajlfopmcjaaW.PrintWords Go.Proofs.YtgchajlfopmcjaaW.PrintLast Go.Proofs.YtgchajlfopmcjaaW.PrintMore Go.Proofs.Ytgchajlfopmcjaa.BN
set_option linter.unusedVariables false
set_option linter.unusedSimpArgs false
set_option maxRecDepth 100000
def searchS (n : Nat) : List Int := if n = 0 then [0, 0, 0] else [((16 * 2 ^ (Lib.bitLen n - 1) : Nat) : Int), ((Lib.bitLen n - 1 : Nat) : Int), 16 * (n : Int) - ((16 * 2 ^ (Lib.bitLen n - 1) : Nat) : Int)]
theorem bitLen_64 : ∀ n : Fin 65, n.val = 0 ∨ (1 ≤ Lib.bitLen n.val ∧ Lib.bitLen n.val ≤ 7 ∧ 2 ^ (Lib.bitLen n.val - 1) ≤ n.val) := by decide +kernel
theorem R_lit (W : World) (base : Nat) (xs : List Int) (hb : base ≤ W.heap.size) (hm : xs.length ≤ 9223372036854775807) (n : Nat) (hn : n = xs.length) :
    Kd.R (Kd.int .i64) 3 (W.alloc (.cells (nums .i64 xs).toArray 3)) base (fun _ => True) (.slice (some ⟨W.heap.size, 0, none⟩) n n) xs := by
  subst hn
  have h := own_lit W base 3 .i64 xs hb hm
  exact Kd.R_of_own (enc := Value.int .i64) (h1 := fun _ => rfl) (by simpa [nums, encs] using h) (fun _ _ => trivial)
set_option maxHeartbeats 2000000 in
theorem search_calls (n : Nat) (hn : n ≤ 64) (w : World) :
    Calls Try.prog 32 #[.int .i64 (n : Int)] w fun e w' => ∃ v, e = .returned v ∧ Kd.R (Kd.int .i64) 3 w' w.heap.size (fun _ => True) v (searchS n) ∧ Below w.heap.size w w' := by
  by_cases h0 : n = 0
  · subst h0
    go_enter Try.func32, Try.ntmps32
    go_wp2
    go_ret
    exact ⟨_, rfl, R_lit w _ [0, 0, 0] (Nat.le_refl _) (by decide) 3 rfl, (Below.refl _ _).alloc (Nat.le_refl _) _⟩
  · have hb := (bitLen_64 ⟨n, by omega⟩).resolve_left h0
    simp only at hb
    have hL := Lib.hid (Try.bits_Len (n : Int) w (by omega) (by omega))
    have hs : searchS n = [((16 * 2 ^ (Lib.bitLen n - 1) : Nat) : Int), ((Lib.bitLen n - 1 : Nat) : Int), 16 * (n : Int) - ((16 * 2 ^ (Lib.bitLen n - 1) : Nat) : Int)] := by unfold searchS; rw [if_neg h0]
    rw [Int.toNat_natCast] at hL
    rw [hs]
    clear hs
    generalize Lib.bitLen n = L at hb hL ⊢
    obtain ⟨h1, h7, hle⟩ := hb
    have hz : ¬ (n : Int) = 0 := by omega
    obtain rfl | rfl | rfl | rfl | rfl | rfl | rfl : L = 1 ∨ L = 2 ∨ L = 3 ∨ L = 4 ∨ L = 5 ∨ L = 6 ∨ L = 7 := by omega
    all_goals
      clear h1 h7
      simp only [Nat.reduceSub, Nat.reducePow, Nat.reduceMul] at hle ⊢
      go_enter Try.func32, Try.ntmps32
      go_wp2_with (go_at_call 58; refine hL.out.mono ?_; rintro e w' ⟨rfl, rfl⟩)
      go_region
      go_wp2
      go_ret
      exact ⟨_, rfl, Kd.R_drew (R_lit _ _ [_, _, _] (Nat.le_refl _) (by simp) 3 rfl), below_drew ((Below.refl _ _).alloc (Nat.le_refl _) _)⟩
end Go.Proofs.Ytgchajlfopmcjaa.P
namespace Go.Proofs.Ytgchajlfopmcjaa.P
open Go.Shelf Go.RowKit Go.Proofs.YtgchajlfopmcjaaW.PrintWords Go.Proofs.YtgchajlfopmcjaaW.PrintLast Go.Proofs.YtgchajlfopmcjaaW.PrintMore Go.Proofs.Ytgchajlfopmcjaa.BN
set_option linter.unusedVariables false
set_option linter.unusedSimpArgs false
set_option maxRecDepth 100000
def upN (n : Nat) : Nat := (n + 3) / 4 * 4
theorem upN_ge (n : Nat) : n ≤ upN n := by unfold upN; omega
def tabAt (l : List S33) (i : Nat) : S33 := l.getD i z33
def sizeTo (l : List S33) : Nat → Nat
  | 0 => 12 + 16 * l.length
  | k + 1 => sizeTo l k + upN (tabAt l k).f1.size
theorem sizeTo_mono (l : List S33) : ∀ (n k : Nat), k ≤ n → sizeTo l k ≤ sizeTo l n
  | 0, k, h => by rw [show k = 0 by omega]; exact Nat.le_refl _
  | n + 1, k, h => by
    rcases Nat.lt_or_ge n k with h1 | h1
    · rw [show k = n + 1 by omega]; exact Nat.le_refl _
    · exact Nat.le_trans (sizeTo_mono l n k h1) (Nat.le_add_right _ _)
def padT (d : ByteArray) : ByteArray := d ++ noughts ((4 - d.size % 4) % 4)
theorem padT_size (d : ByteArray) : (padT d).size = upN d.size := by
  unfold padT noughts upN
  rw [ByteArray.size_append]
  have : (⟨(List.replicate ((4 - d.size % 4) % 4) (0 : UInt8)).toArray⟩ : ByteArray).size = (4 - d.size % 4) % 4 := by
    show (List.replicate ((4 - d.size % 4) % 4) (0 : UInt8)).toArray.size = _
    simp
  rw [this]
  omega
def restTo (l : List S33) : Nat → List UInt8
  | 0 => []
  | k + 1 => restTo l k ++ bytesl (padT (tabAt l k).f1)
theorem restTo_length (l : List S33) : ∀ k, 12 + 16 * l.length + (restTo l k).length = sizeTo l k
  | 0 => rfl
  | k + 1 => by rw [restTo, sizeTo, List.length_append, bytesl_length, padT_size, ← restTo_length l k]; omega
/-- A record's twelve bytes behind the tag. -/
def recN (l : List S33) (k : Nat) : ByteArray := ⟨(putAll [4, 4, 4] [tabSum (tabAt l k).f0 (tabAt l k).f1, (sizeTo l k : Int), ((tabAt l k).f1.size : Int)]).toArray⟩
def headN (v : Int) (n : Nat) : ByteArray := ⟨(putAll [4, 2, 2, 2, 2] ([v, (n : Int)] ++ searchS n)).toArray⟩
def recsTo (v : Int) (l : List S33) : Nat → ByteArray
  | 0 => headN v l.length
  | k + 1 => recsTo v l k ++ ((tabAt l k).f0 ++ recN l k)
/-- What Put answers. -/
def putS (v : Int) (l : List S33) : ByteArray × Int :=
  if verB v = false ∨ rightT l = false then (⟨#[]⟩, 1) else if 16777216 < sizeTo l l.length then (⟨#[]⟩, 7)
  else (recsTo v l l.length ++ ⟨(restTo l l.length).toArray⟩, 0)
theorem search_length (n : Nat) : (searchS n).length = 3 := by unfold searchS; split <;> rfl
theorem head_put (v : Int) (n : Nat) (hv : verB v = true) (hn : n ≤ 64) : bin_Put.f [4, 2, 2, 2, 2] ([v, (n : Int)] ++ searchS n) = some (headN v n, 0) := by
  rw [put_spec _ _ (by simp) (by rw [List.length_append, search_length]; simp)]
  unfold pspec
  have hf : fitsAll [4, 2, 2, 2, 2] ([v, (n : Int)] ++ searchS n) = true := by
    have hv2 : v = 65536 ∨ v = 1330926671 := by
      unfold verB at hv
      simpa using hv
    have h64 := bitLen_64 ⟨n, by omega⟩
    simp only at h64
    unfold searchS
    rcases h64 with h0 | ⟨h1, h7, h2⟩
    · rw [if_pos h0, h0]
      rcases hv2 with rfl | rfl <;> decide
    · by_cases h0 : n = 0
      · rw [if_pos h0, h0]
        rcases hv2 with rfl | rfl <;> decide
      · rw [if_neg h0]
        have hp : 0 < 2 ^ (Lib.bitLen n - 1) := Nat.pow_pos (by decide)
        have hq : Lib.bitLen n - 1 ≤ 6 := by omega
        generalize 2 ^ (Lib.bitLen n - 1) = p at h2 hp
        generalize Lib.bitLen n - 1 = q at hq
        clear h1 h7
        have e1 : fitsB ((16 * p : Nat) : Int) 2 = true := by unfold fitsB; simp; omega
        have e2 : fitsB (q : Int) 2 = true := by unfold fitsB; simp; omega
        have e3 : fitsB (16 * (n : Int) - ((16 * p : Nat) : Int)) 2 = true := by unfold fitsB; simp; omega
        have e4 : fitsB (n : Int) 2 = true := by unfold fitsB; simp; omega
        have e5 : fitsB v 4 = true := by rcases hv2 with rfl | rfl <;> decide
        simp only [List.cons_append, List.nil_append, fitsAll, e1, e2, e3, e4, e5]
        rfl
  rw [if_neg (by rw [List.length_append, search_length]; simp; decide), if_neg (by rw [hf]; decide)]
  rfl
theorem rec_put (a b c : Int) (ha : 0 ≤ a ∧ a < 4294967296) (hb : 0 ≤ b ∧ b < 4294967296) (hc : 0 ≤ c ∧ c < 4294967296) : bin_Put.f [4, 4, 4] [a, b, c] = some (⟨(putAll [4, 4, 4] [a, b, c]).toArray⟩, 0) := by
  rw [put_spec _ _ (by simp) (by simp)]
  unfold pspec
  have hf : fitsAll [4, 4, 4] [a, b, c] = true := by
    simp only [fitsAll, fitsB]
    simp
    omega
  rw [if_neg (by simp; decide), if_neg (by rw [hf]; decide)]
end Go.Proofs.Ytgchajlfopmcjaa.P
namespace Go.Proofs.Ytgchajlfopmcjaa.P
open Go.Shelf Go.RowKit Go.Proofs.YtgchajlfopmcjaaW.PrintWords Go.Proofs.YtgchajlfopmcjaaW.PrintLast Go.Proofs.YtgchajlfopmcjaaW.PrintMore Go.Proofs.Ytgchajlfopmcjaa.BN
set_option linter.unusedVariables false
set_option linter.unusedSimpArgs false
set_option maxRecDepth 100000
attribute [local go_sem] max2_int min2_int max_two min_two max_three min_three max_four min_four
attribute [local go_sem ↓] Go.wp_at_zero Go.wp_at_succ
theorem up_calls (n : Nat) (hn : n ≤ 1000000000000000) (w : World) : Calls Try.prog 30 #[.int .i64 (n : Int)] w fun e w' => e = .returned (.int .i64 (upN n : Nat)) ∧ w' = w := by
  go_enter Try.func30, Try.ntmps30
  go_wp2
  go_ret
  refine ⟨?_, rfl⟩
  have : ((upN n : Nat) : Int) = ((n : Int) + 4 - 1) / 4 * 4 := by unfold upN; omega
  rw [this]
  rfl
theorem put_noarg (v : Int) (A0 : Option Addr) (c0 : Nat) (l : List S33) (w : World) (hr0 : Kd.C k33 w A0 l.length l) (hc0 : l.length ≤ c0) (hn : l.length < 1000000000) (h : verB v = false ∨ rightT l = false) :
    Calls Try.prog 11 #[.int .i64 v, .slice A0 l.length c0] w fun e w' => e = .returned (.tuple #[.string ⟨#[]⟩, .int .i64 1]) ∧ Below w.heap.size w w' := by
  have HV := Lib.hid (ver_any v)
  have HR := Lib.hid hr0
  have HRT := Lib.hid (fun W h => right_calls A0 c0 l W h hc0 hn)
  clear hr0
  cases hv : verB v with
  | false =>
    rw [hv] at HV
    clear h hv
    go_enter Try.func11, Try.ntmps11
    go_wp2_with fail
    refine (HV.out _).mono ?_
    rintro e w1 ⟨rfl, hb1⟩
    go_wp2
    go_ret2
    exact ⟨rfl, hb1⟩
  | true =>
    have hrt : rightT l = false := h.resolve_left (by rw [hv]; decide)
    rw [hv] at HV
    rw [hrt] at HRT
    clear h hv hrt
    go_enter Try.func11, Try.ntmps11
    go_wp2_with fail
    refine (HV.out _).mono ?_
    rintro e w1 ⟨rfl, hb1⟩
    go_wp2_with fail
    refine (HRT.out _ (Kd.C_below HR.out hb1)).mono ?_
    rintro e w2 ⟨rfl, hb2⟩
    go_wp2
    go_ret2
    exact ⟨rfl, hb1.trans (hb2.mono hb1.size)⟩
theorem put3 (a b c : Int) (ha : 0 ≤ a ∧ a < 4294967296) (hb : 0 ≤ b ∧ b < 4294967296) (hc : 0 ≤ c ∧ c < 4294967296) (W : World) (g1 g2 : Nat) (h1 : W.heap[g1]? = some (.cells #[.int .i64 4, .int .i64 4, .int .i64 4] 3 (0, 0))) (h2 : W.heap[g2]? = some (.cells #[.int .i64 a, .int .i64 b, .int .i64 c] 3 (0, 0))) :
    Calls Try.prog 31 #[.slice (some ⟨g1, 0, none⟩) 3 3, .slice (some ⟨g2, 0, none⟩) 3 3] W fun e w' => e = .returned (.tuple #[.string ⟨(putAll [4, 4, 4] [a, b, c]).toArray⟩, .int .i64 0]) ∧ Below W.heap.size W w' := by
  have r1 : Kd.C (Kd.int .i64) W (some ⟨g1, 0, none⟩) 3 [4, 4, 4] := K_row [4, 4, 4] _ _ (by simp) (fun j hj => by
    rw [blk_cell h1]
    obtain rfl | rfl | rfl : j = 0 ∨ j = 1 ∨ j = 2 := by simp at hj; omega
    all_goals rfl)
  have r2 : Kd.C (Kd.int .i64) W (some ⟨g2, 0, none⟩) 3 [a, b, c] := K_row [a, b, c] _ _ (by simp) (fun j hj => by
    rw [blk_cell h2]
    obtain rfl | rfl | rfl : j = 0 ∨ j = 1 ∨ j = 2 := by simp at hj; omega
    all_goals rfl)
  exact bin_Put.calls _ 3 [4, 4, 4] _ 3 [a, b, c] _ _ W r1 (by simp) r2 (by simp) (rec_put a b c ha hb hc)
theorem pad_calls (d : ByteArray) (hd : d.size ≤ 140737488351232) (W : World) : Calls Try.prog 33 #[.string d, .int .i64 4] W fun e w' => e = .returned (.tuple #[.string (padT d), .int .i64 0]) ∧ Below W.heap.size W w' := by
  refine bin_Pad.calls d 4 (padT d) 0 W ?_
  unfold bin_Pad.f
  rw [if_pos hd, if_neg (by omega)]
  rfl
theorem putAll3_length (a b c : Int) : (putAll [4, 4, 4] [a, b, c]).length = 12 := by
  simp [putAll, putB_length]
theorem recN_size (l : List S33) (k : Nat) : (recN l k).size = 12 := by
  unfold recN
  show (putAll _ _).toArray.size = 12
  rw [List.size_toArray, putAll3_length]
theorem headN_size (v : Int) (n : Nat) : (headN v n).size = 12 := by
  unfold headN
  show (putAll _ _).toArray.size = 12
  have h : ∃ a b c, searchS n = [a, b, c] := by unfold searchS; split <;> exact ⟨_, _, _, rfl⟩
  obtain ⟨a, b, c, h⟩ := h
  rw [h, List.size_toArray]
  simp [putAll, putB_length]
theorem recs_size (v : Int) (l : List S33) (ht : ∀ x ∈ l, x.f0.size = 4) : ∀ k, k ≤ l.length → (recsTo v l k).size = 12 + 16 * k
  | 0, _ => headN_size v l.length
  | k + 1, h => by
    have hm : tabAt l k ∈ l := rd_mem l k (by omega)
    rw [recsTo, ByteArray.size_append, ByteArray.size_append, recs_size v l ht k (by omega), recN_size, ht _ hm]
    omega
theorem keep2 {W W' : World} (hb : Below W.heap.size W W') {a b : Addr} {va vb : Value} (h : W.cell? a = some va ∧ W.cell? b = some vb) : W'.cell? a = some va ∧ W'.cell? b = some vb := ⟨pw_cell_below hb h.1, pw_cell_below hb h.2⟩
theorem row_prev {W : World} {o x : Obj} {g : Nat} (h : W.heap[g]? = some x) : (W.alloc o).heap[g]? = some x := ((below_alloc (Below.refl W.heap.size W) o).block g (blk_lt h)).trans h
theorem row_next (W : World) (o p : Obj) : ((W.alloc o).alloc p).heap[W.heap.size + 1]? = some p := by
  have := heap_alloc_new (W.alloc o) p
  simpa using this
theorem chainA {w8 w9 w10 : World} {o p : Obj} (h1 : Below (w8.alloc o).drew.heap.size (w8.alloc o).drew w9) (h2 : Below (w9.alloc p).heap.size (w9.alloc p) w10) : Below w8.heap.size w8 w10 := by
  have a : Below w8.heap.size w8 w9 := (below_drew (below_alloc (Below.refl w8.heap.size w8) o)).trans (h1.mono (by show w8.heap.size ≤ (w8.alloc o).heap.size; simp))
  have b : Below w9.heap.size w9 w10 := (below_alloc (Below.refl w9.heap.size w9) p).trans (h2.mono (by simp))
  exact a.trans (b.mono a.size)
theorem chainB {w8 w9 w10 : World} {o p : Obj} (h1 : Below w8.drew.heap.size w8.drew w9) (h2 : Below ((w9.alloc o).alloc p).heap.size ((w9.alloc o).alloc p) w10) : Below w8.heap.size w8 w10 := by
  have a : Below w8.heap.size w8 w9 := (below_drew (Below.refl w8.heap.size w8)).trans h1
  have b : Below w9.heap.size w9 w10 := (below_alloc (below_alloc (Below.refl w9.heap.size w9) o) p).trans (h2.mono (by simp; omega))
  exact a.trans (b.mono a.size)
theorem isb_below {T e : TypeId} {B b : Nat} {bs : List Value} {W W' : World} (h : Lib.IsBuilderF T e B b bs W) (hb : Below W.heap.size W W') : Lib.IsBuilderF T e B b bs W' :=
  Lib.IsBuilderF.below h hb
theorem two_rows {w w2 : World} {C D : Array Value} {T U : TypeId} (hb : Below ((w.alloc (.cells C T)).alloc (.cells D U)).heap.size ((w.alloc (.cells C T)).alloc (.cells D U)) w2) :
    w2.heap[w.heap.size]? = some (.cells C T (0, 0)) ∧ w2.heap[w.heap.size + 1]? = some (.cells D U (0, 0)) ∧ w.heap.size + 2 ≤ w2.heap.size := by
  have hs : ((w.alloc (.cells C T)).alloc (.cells D U)).heap.size = w.heap.size + 2 := by simp
  refine ⟨?_, ?_, by have := hb.size; omega⟩
  · rw [hb.block w.heap.size (by omega)]
    rw [(below_alloc (Below.refl (w.alloc (.cells C T)).heap.size (w.alloc (.cells C T))) (.cells D U)).block w.heap.size (by simp)]
    exact heap_alloc_new w _
  · rw [hb.block (w.heap.size + 1) (by omega)]
    have := heap_alloc_new (w.alloc (.cells C T)) (.cells D U)
    simpa using this
set_option maxHeartbeats 8000000 in
theorem put_main (v : Int) (A0 : Option Addr) (c0 : Nat) (l : List S33) (w : World) (hr0 : Kd.C k33 w A0 l.length l) (hc0 : l.length ≤ c0) (hn : l.length ≤ 64) (hv : verB v = true) (hrt : rightT l = true) (hsz : ∀ x ∈ l, x.f0.size ≤ 1000000000 ∧ x.f1.size ≤ 140737488351232) (htg : ∀ x ∈ l, x.f0.size = 4) :
    Calls Try.prog 11 #[.int .i64 v, .slice A0 l.length c0] w fun e w' => e = .returned (.tuple #[.string (putS v l).1, .int .i64 (putS v l).2]) ∧ Below w.heap.size w w' := by
  have HV := Lib.hid (ver_any v)
  have HR := Lib.hid hr0
  have HRT := Lib.hid (fun W h => right_calls A0 c0 l W h hc0 (by omega))
  have hps : putS v l = if 16777216 < sizeTo l l.length then (⟨#[]⟩, 7) else (recsTo v l l.length ++ ⟨(restTo l l.length).toArray⟩, 0) := by unfold putS; rw [if_neg (by rw [hv, hrt]; simp)]
  have HPS := Lib.hid hps
  have HHP := Lib.hid (head_put v l.length hv hn)
  rw [hv] at HV
  rw [hrt] at HRT
  have HSZ := Lib.hid hsz
  have HTG := Lib.hid htg
  clear hr0 hps hv hrt hsz htg
  have hlen : (0 : Int) ≤ (l.length : Int) := by omega
  go_enter Try.func11, Try.ntmps11
  go_wp2_with fail
  refine (HV.out _).mono ?_
  rintro e w1 ⟨rfl, hb1⟩
  go_wp2_with fail
  refine (HRT.out _ (Kd.C_below HR.out hb1)).mono ?_
  rintro e w2 ⟨rfl, hb2⟩
  have HB2 := Lib.hid (hb1.trans (hb2.mono hb1.size))
  clear hb1 hb2
  go_wp2_with fail
  go_loopg [8, 35] (l.length + 1) (fun gk v8 v35 wr => ∃ (z x : Int) (k : Nat), v8 = .int .i64 z ∧ v35 = .int .i64 x ∧ Hid (x = (k : Int) ∧ z = (sizeTo l k : Int)) ∧ Hid (k ≤ l.length ∧ l.length + 1 - k ≤ gk ∧ (k = 0 ∨ sizeTo l k ≤ 16777216)) ∧ Hid (Below w.heap.size w wr))
  case atStart =>
    refine ⟨_, 0, 0, rfl, rfl, Lib.hid ⟨rfl, ?_⟩, Lib.hid ⟨by omega, by omega, .inl rfl⟩, HB2⟩
    simp [sizeTo]
  case round =>
    obtain ⟨z, x, k, rfl, rfl, HXK, HT, HB⟩ := hrel
    have hz0 : 0 ≤ z := by have := HXK.out.2; omega
    have hz1 : z ≤ 16777216 := by
      have h1 := HXK.out.2
      rcases HT.out.2.2 with h | h
      · rw [h] at h1; simp [sizeTo] at h1; omega
      · omega
    by_cases hlt : k < l.length
    · have hltz : x < (l.length : Int) := by have := HXK.out.1; omega
      have hk0 : (0 : Int) ≤ x := by have := HXK.out.1; omega
      have HC1 := Lib.hid (Kd.C_below HR.out HB.out)
      obtain ⟨ad, e1, hx0, hx1⟩ := at_T33 HC1.out x hk0 hltz
      subst e1
      have hmem : rd_T33 l x ∈ l := by rw [HXK.out.1]; exact rd_mem l k hlt
      have hdz := (HSZ.out _ hmem).2
      have HUP := Lib.hid (fun W => up_calls (rd_T33 l x).f1.size (by omega) W)
      have hst : sizeTo l (k + 1) = sizeTo l k + upN (rd_T33 l x).f1.size := by rw [HXK.out.1]; rfl
      have hup : upN (rd_T33 l x).f1.size ≤ 140737488351300 := by unfold upN; omega
      have hdz2 : ((rd_T33 l x).f1.size : Int) ≤ 9223372036854775807 := by omega
      generalize upN (rd_T33 l x).f1.size = u at HUP hst hup
      have hu0 : (0 : Int) ≤ (u : Int) := by omega
      have hxw : IntKind.i64.wrap (x + 1) = x + 1 := by rw [i64_w, wrap64_small (by omega) (by omega)]
      have HST := Lib.hid hst
      clear hst hdz hmem
      by_cases hov : (16777216 : Int) < z + (u : Int)
      · have hP : putS v l = (⟨#[]⟩, 7) := by
          rw [HPS.out, if_pos]
          have h1 := sizeTo_mono l l.length (k + 1) (by omega)
          have h2 := HST.out
          have h3 := HXK.out.2
          omega
        have HP := Lib.hid hP
        clear hP
        go_wp2_with (go_at_call 30; refine (HUP.out _).mono ?_; rintro e w3 ⟨rfl, rfl⟩)
        go_ret2
        rw [HP.out]
        exact ⟨rfl, HB.out.alloc HB.out.size _⟩
      · go_wp2_with (go_at_call 30; refine (HUP.out _).mono ?_; rintro e w3 ⟨rfl, rfl⟩)
        go_roundg (l.length - k)
        case measure => have := HT.out; omega
        case rel => exact ⟨_, x + 1, k + 1, rfl, rfl, Lib.hid (by have := HXK.out; have := HST.out; omega), Lib.hid ⟨by omega, by omega, .inr (by have := HXK.out; have := HST.out; omega)⟩, Lib.hid (HB.out.alloc HB.out.size _)⟩
    · have hkl : k = l.length := by have := HT.out; omega
      have hltz : ¬ x < (l.length : Int) := by have := HXK.out.1; omega
      have hP : putS v l = (recsTo v l l.length ++ ⟨(restTo l l.length).toArray⟩, 0) := by
        rw [HPS.out, if_neg]
        have h3 := HXK.out.2
        rw [hkl] at h3
        omega
      have hsz2 : sizeTo l l.length ≤ 16777216 := by
        have h3 := HXK.out.2
        rw [hkl] at h3
        omega
      have HP := Lib.hid hP
      have HSZ2 := Lib.hid hsz2
      clear hP hkl hsz2 HXK HT hz0 hz1
      have HW0 := Lib.hid HB.out.size
      obtain ⟨i0, hi0, hz0, hz1, hz2⟩ := info_parts infoInt
      go_wp2_with fail
      refine (search_calls l.length hn _).mono ?_
      rintro e w4 ⟨vs, rfl, hRs, hb4⟩
      obtain ⟨gs, cs, rfl, hs1, hs2, cells, hs3⟩ := Kd.R_form hRs (by rw [search_length]; decide)
      have hos := Kd.own_of_R hRs
      rw [search_length] at hos ⊢
      obtain ⟨hg0, hg1, hgs⟩ := two_rows hb4
      have ho2 : w4.ownsRow wr.heap.size 3 1 (.slice (some ⟨wr.heap.size + 1, 0, none⟩) 2 2) 2 [.int .i64 v, .int .i64 (l.length : Int)] := ⟨rfl, .inr ⟨wr.heap.size + 1, 2, _, rfl, by omega, hg1, by omega, by unfold maxLen; omega, rfl, rfl⟩⟩
      have HO2 := Lib.hid ho2
      have HOS := Lib.hid hos
      have HG0 := Lib.hid hg0
      have HB4 := Lib.hid hb4
      have HGS := Lib.hid hgs
      clear ho2 hos hg0 hg1 hb4 hRs hs3
      go_wp2_with (at_builtin; refine wpList_append_lies _ rfl (.tmp 54) (.tmp 57) 39 rfl wr.heap.size 3 i0 (.int .i64 0) 1 8 Try.underlying39 hi0 hz0 hz1 hz2 rfl (by omega) (.slice (some ⟨wr.heap.size + 1, 0, none⟩) 2 2) 2 _ rfl HO2.out ⟨gs, 0, none⟩ 3 cs (nums .i64 (searchS l.length)) rfl (by rw [nums_length, search_length]) ?hnews ?h1 (by omega) (by unfold maxLen; omega) (by omega) ?hbs (w4.heap.size) rfl ?_)
      case hnews =>
        intro j u hj
        have hl := (List.getElem?_eq_some_iff.1 hj).1
        rw [nums_length, search_length] at hl
        rw [add_plain, World.ownsRow.cellAt HOS.out j (by omega)]
        exact hj
      case h1 =>
        intro u hu
        simp [nums] at hu
        obtain ⟨q, _, rfl⟩ := hu
        rfl
      case hbs => have := HGS.out; omega
      intro g5 c5 w5 hown5 hgrow5 hat5 hlt5
      have hrow5 : Kd.C (Kd.int .i64) w5 (some ⟨wr.heap.size, 0, none⟩) 5 [4, 2, 2, 2, 2] := by
        have hb5 : w5.heap[wr.heap.size]? = some (.cells #[.int .i64 4, .int .i64 2, .int .i64 2, .int .i64 2, .int .i64 2] 3 (0, 0)) := (hgrow5.block _ (by have := HGS.out; omega) (by simp [Value.ownBlock])).trans HG0.out
        exact K_row [4, 2, 2, 2, 2] _ _ (by simp) (fun j hj => by
          rw [blk_cell hb5]
          obtain rfl | rfl | rfl | rfl | rfl : j = 0 ∨ j = 1 ∨ j = 2 ∨ j = 3 ∨ j = 4 := by simp at hj; omega
          all_goals rfl)
      have hl5 : ([v, (l.length : Int)] ++ searchS l.length).length = 2 + 3 := by rw [List.length_append, search_length]; rfl
      have hR5 : Kd.R (Kd.int .i64) 3 w5 wr.heap.size (fun _ => True) (.slice (some ⟨g5, 0, none⟩) (2 + 3) c5) ([v, (l.length : Int)] ++ searchS l.length) := by
        refine Kd.R_of_own (enc := Value.int .i64) (h1 := fun _ => rfl) ?_ (fun _ _ => trivial)
        rw [hl5]
        have e : encs (Value.int .i64) ([v, (l.length : Int)] ++ searchS l.length) = [.int .i64 v, .int .i64 (l.length : Int)] ++ nums .i64 (searchS l.length) := by simp [encs, nums]
        rw [e]
        exact hown5
      obtain ⟨hq1, hq2, hC5⟩ := Kd.R_reads' hR5
      have hPUT := bin_Put.calls (some ⟨wr.heap.size, 0, none⟩) 5 [4, 2, 2, 2, 2] (some ⟨g5, 0, none⟩) c5 _ _ _ w5 hrow5 (by simp) hC5 (by rw [hl5]; exact hq2) HHP.out
      rw [hl5] at hPUT
      have HPUT := Lib.hid hPUT
      have hbw5 : Below wr.heap.size wr w5 := Below.grown (((below_alloc (below_alloc (Below.refl wr.heap.size wr) _) _).trans (HB4.out.mono (by simp; omega)))) hgrow5 (by have := HGS.out; omega) (fun k hk => by simp [Value.ownBlock] at hk; omega)
      have HBW5 := Lib.hid hbw5
      clear hrow5 hl5 hR5 hC5 hq1 hq2 hPUT hbw5 hown5 hgrow5 hat5 hlt5 hs1 hs2
      go_wp2_with fail
      refine HPUT.out.mono ?_
      rintro e w6 ⟨rfl, hb6⟩
      have HB6 := Lib.hid (HB.out.trans ((HBW5.out.trans (hb6.mono HBW5.out.size)).mono HW0.out))
      have HC6 := Lib.hid (Kd.C_below HR.out HB6.out)
      have HW6 := Lib.hid HB6.out.size
      clear hb6
      go_wp2_with fail
      go_loopg [7, 11, 12, 64] (l.length + 1) (fun gk v7 v11 v12 v64 wr => ∃ (z x : Int) (k : Nat) (ss : ByteArray), v7 = .int .i64 z ∧ v11 = .string ss ∧ v12 = .int .i64 0 ∧ v64 = .int .i64 x ∧ Hid (ss = recsTo v l k) ∧ Hid (x = (k : Int) ∧ z = (sizeTo l k : Int)) ∧ Hid (k ≤ l.length ∧ l.length + 1 - k ≤ gk) ∧ Hid (Lib.IsBuilderF 66 5 w6.heap.size w6.heap.size (Lib.byteCells (restTo l k)) wr) ∧ Hid (Below w6.heap.size w6 wr ∧ w6.heap.size < wr.heap.size))
      case atStart =>
        exact ⟨_, 0, 0, _, rfl, rfl, rfl, rfl, Lib.hid rfl, Lib.hid ⟨rfl, by simp [sizeTo]⟩, Lib.hid ⟨by omega, by omega⟩, Lib.hid (Lib.IsBuilderF.of (Lib.fresh_isBuilder _ _ w6)), Lib.hid ⟨below_alloc (Below.refl w6.heap.size w6) _, by simp⟩⟩
      case round =>
        obtain ⟨z, x, k, ss, rfl, rfl, rfl, rfl, HSS, HXK, HT, HBU, HBB⟩ := hrel
        have HB7 := Lib.hid (HB6.out.trans (HBB.out.1.mono HW6.out))
        have hbb := HBB.out.2
        by_cases hlt : k < l.length
        · have hltz : x < (l.length : Int) := by have := HXK.out.1; omega
          have hk0 : (0 : Int) ≤ x := by have := HXK.out.1; omega
          have HC1 := Lib.hid (Kd.C_below HR.out HB7.out)
          obtain ⟨ad, e1, hx0, hx1⟩ := at_T33 HC1.out x hk0 hltz
          subst e1
          have hmem : rd_T33 l x ∈ l := by rw [HXK.out.1]; exact rd_mem l k hlt
          have hrd : rd_T33 l x = tabAt l k := by rw [HXK.out.1]; rfl
          have ht4 := HTG.out _ hmem
          have hst : sizeTo l (k + 1) = sizeTo l k + upN (tabAt l k).f1.size := rfl
          have hsm := sizeTo_mono l l.length (k + 1) (by omega)
          have hup := upN_ge (tabAt l k).f1.size
          have hz0 : 0 ≤ z := by have := HXK.out.2; omega
          have hz1 : z ≤ 16777216 := by have := HXK.out.2; have := HSZ2.out; omega
          have hds : (tabAt l k).f1.size ≤ 16777216 := by have := HSZ2.out; omega
          have hxw : IntKind.i64.wrap (x + 1) = x + 1 := by rw [i64_w, wrap64_small (by omega) (by omega)]
          rw [hrd] at hx0 hx1 ht4
          have hrn : recN l k = ⟨(putAll [4, 4, 4] [tabSum (tabAt l k).f0 (tabAt l k).f1, z, ((tabAt l k).f1.size : Int)]).toArray⟩ := by unfold recN; rw [← HXK.out.2]
          have hrt : restTo l (k + 1) = restTo l k ++ bytesl (padT (tabAt l k).f1) := rfl
          have hrc : recsTo v l (k + 1) = recsTo v l k ++ ((tabAt l k).f0 ++ recN l k) := rfl
          have hps := padT_size (tabAt l k).f1
          have hss := recs_size v l HTG.out k (by omega)
          rw [← HSS.out] at hss hrc
          have HPD := Lib.hid (pad_calls (tabAt l k).f1 (by omega))
          obtain ⟨tg, htg⟩ : ∃ tg, (tabAt l k).f0 = tg := ⟨_, rfl⟩
          obtain ⟨dt, hdt⟩ : ∃ dt, (tabAt l k).f1 = dt := ⟨_, rfl⟩
          rw [htg] at hx0 ht4 hrn hrc
          rw [hdt] at hx1 hrn hrt hps hds hst HPD
          obtain ⟨sm, hsmm⟩ : ∃ sm, tabSum tg dt = sm := ⟨_, rfl⟩
          have hsm0 : 0 ≤ sm ∧ sm < 4294967296 := by rw [← hsmm]; unfold tabSum; omega
          have HSUM := Lib.hid (fun W => sfnt_sum_calls tg dt (by omega) W)
          rw [hsmm] at HSUM hrn
          have HPUT3 := Lib.hid (fun W g1 g2 h1 h2 => put3 sm z (dt.size : Int) hsm0 ⟨hz0, by omega⟩ ⟨by omega, by omega⟩ W g1 g2 h1 h2)
          rw [← hrn] at HPUT3
          have hrz := recN_size l k
          generalize recN l k = rn at HPUT3 hrc hrz
          generalize padT dt = pd at HPD hrt hps
          have HRT := Lib.hid hrt
          have HRC := Lib.hid hrc
          have HST := Lib.hid hst
          have HPZ := Lib.hid hps
          clear hrt hrc hst hps hrn hrd htg hdt hsmm hmem
          have hc1 : tg.size + rn.size ≤ 9223372036854775807 := by omega
          have hc2 : ss.size + (tg ++ rn).size ≤ 9223372036854775807 := by rw [ByteArray.size_append]; omega
          go_wp2_with fail
          generalize hW8 : wr.alloc (.cells #[.string tg, .string dt] 33) = w8
          have hTb : w8.heap[wr.heap.size]? = some (.cells #[.string tg, .string dt] 33 (0, 0)) := by rw [← hW8]; exact heap_alloc_new wr _
          have hT0 : w8.cell? ⟨wr.heap.size, 0, none⟩ = some (.string tg) := by rw [blk_cell hTb]; rfl
          have hT1 : w8.cell? ⟨wr.heap.size, 1, none⟩ = some (.string dt) := by rw [blk_cell hTb]; rfl
          have hB8 : Below wr.heap.size wr w8 := by rw [← hW8]; exact below_alloc (Below.refl wr.heap.size wr) _
          have hs8 : w8.heap.size = wr.heap.size + 1 := by rw [← hW8]; simp
          have HB8 := Lib.hid hB8
          have hTl : wr.heap.size < w8.heap.size := by omega
          have hTn : ¬ wr.heap.size = w8.heap.size := by omega
          clear hW8 hTb hB8 hs8 hx0 hx1
          generalize wr.heap.size = T at hT0 hT1 hTl hTn ⊢
          go_region_held3 (fun w' => w'.cell? ⟨T, 0, none⟩ = some (.string tg) ∧ w'.cell? ⟨T, 1, none⟩ = some (.string dt)) (first | exact keep2 hbk2 (by assumption) | exact keep2 hbk (by assumption) | exact keep2 (below_alloc (Below.refl _ _) _) (by assumption) | go_keep) (first | (go_at_call 15; refine (HSUM.out _).mono ?_; rintro e w9 ⟨rfl, hbk⟩; try (have hn69 : w9.heap[w8.heap.size]? = some (.cells #[.int .i64 4, .int .i64 4, .int .i64 4] 3 (0, 0)) := new_cellsD hbk; have hlt69 : ¬ (w8.heap.size = w9.heap.size) := Nat.ne_of_lt (blk_lt hn69))) | (go_at_call 31; refine (HPUT3.out _ _ _ (by first | exact row_prev hn69 | exact heap_alloc_new _ _ | exact row_prev (heap_alloc_new _ _) | exact row_next _ _ _) (by first | exact heap_alloc_new _ _ | exact row_prev (heap_alloc_new _ _) | exact row_next _ _ _)).mono ?_; rintro e w10 ⟨rfl, hbk2⟩))
          all_goals
            have hB10 : Below w8.heap.size w8 w10 := by first | exact chainA hbk hbk2 | exact chainB hbk hbk2
            have ht0 := pw_cell_below hB10 hT0
            have ht1 := pw_cell_below hB10 hT1
            have HB10 := Lib.hid (HB8.out.trans (hB10.mono HB8.out.size))
            clear hB10 hbk hbk2 hT0 hT1
            go_wp2_with fail
            refine (HPD.out _).mono ?_
            rintro e w11 ⟨rfl, hb11⟩
            have ht2 := pw_cell_below hb11 ht0
            have HB11 := Lib.hid (HB10.out.trans (hb11.mono HB10.out.size))
            clear ht0 ht1 hb11
            go_wp2_with fail
            have hrl : (restTo l k).length + pd.size ≤ 140737488355328 := by
              have h1 := restTo_length l k
              have h2 := HSZ2.out
              have h3 := sizeTo_mono l l.length k (by omega)
              have h4 := HPZ.out
              have h5 : upN dt.size ≤ dt.size + 3 := by unfold upN; omega
              omega
            refine (Try.wb_WriteString w6.heap.size w6.heap.size (Lib.byteCells (restTo l k)) pd _ (isb_below HBU.out HB11.out) (by rw [Lib.byteCells_length]; exact hrl) (Nat.le_trans (by have := HBB.out.1.size; omega) HB11.out.size)).mono ?_
            rintro e w12 ⟨rfl, hbu12, hb12, ho12⟩
            have HBU2 := Lib.hid hbu12
            have HB12 := Lib.hid hb12
            clear hbu12 hb12 ho12 hrl
            have hpz : z + (pd.size : Int) ≤ 9223372036854775807 := by
              have h4 := HPZ.out
              have h5 : upN dt.size ≤ dt.size + 3 := by unfold upN; omega
              omega
            go_wp2_with fail
            go_roundg (l.length - k)
            case measure => have := HT.out; omega
            case rel =>
              refine ⟨_, x + 1, k + 1, _, rfl, rfl, rfl, rfl, Lib.hid HRC.out.symm, Lib.hid ⟨by have := HXK.out.1; omega, ?_⟩, Lib.hid ⟨by omega, by omega⟩, Lib.hid ?_, Lib.hid ⟨?_, ?_⟩⟩
              · have h1 := HST.out
                have h2 := HPZ.out
                have h3 := HXK.out.2
                rw [h1, h2, h3]; omega
              · rw [HRT.out, show Lib.byteCells (restTo l k ++ bytesl pd) = Lib.byteCells (restTo l k) ++ Lib.strCells pd by unfold Lib.byteCells Lib.strCells bytesl; rw [List.map_append]]
                exact .inr HBU2.out
              · exact (HBB.out.1.trans (HB11.out.mono (by have := HBB.out.1.size; omega))).trans HB12.out
              · exact Nat.lt_of_lt_of_le HBB.out.2 (Nat.le_trans HB11.out.size HB12.out.size)
        · have hkl : k = l.length := by have := HT.out; omega
          have hltz : ¬ x < (l.length : Int) := by have := HXK.out.1; omega
          have hss := recs_size v l HTG.out k (by omega)
          rw [← HSS.out] at hss
          have hrl := restTo_length l k
          have hrl2 : 12 + 16 * l.length + (restTo l k).length ≤ 16777216 := by rw [hrl, hkl]; exact HSZ2.out
          have hSS := HSS.out
          have HKL := Lib.hid hkl
          have hrs : (⟨(restTo l k).toArray⟩ : ByteArray).size = (restTo l k).length := by show (restTo l k).toArray.size = _; simp
          have hcat : ss.size + (⟨(restTo l k).toArray⟩ : ByteArray).size ≤ 9223372036854775807 := by rw [hrs]; omega
          have hP2 : putS v l = (ss ++ ⟨(restTo l k).toArray⟩, 0) := by rw [HP.out, hSS, hkl]
          have HP2 := Lib.hid hP2
          clear hkl hss hrl hrl2 hSS hrs hP2
          generalize hrt : restTo l k = rt at HP2 HBU hcat
          clear hrt
          go_wp2_with fail
          refine (Try.wb_String w6.heap.size w6.heap.size rt _ HBU.out HBB.out.1.size).mono ?_
          rintro e w9 ⟨rfl, hbu9, hb9, ho9⟩
          go_wp2
          go_ret2
          rw [HP2.out]
          exact ⟨rfl, HB7.out.trans (hb9.mono HW6.out)⟩
theorem right_facts (l : List S33) (h : rightT l = true) : l.length ≤ 64 ∧ ∀ x ∈ l, x.f0.size = 4 := by
  unfold rightT rightTo at h
  rw [Bool.and_eq_true, List.all_eq_true, decide_eq_true_eq] at h
  refine ⟨h.2, fun x hx => ?_⟩
  obtain ⟨i, hi, rfl⟩ := List.getElem_of_mem hx
  have h1 := h.1 i (List.mem_range.2 hi)
  unfold rightAt at h1
  rw [Bool.and_eq_true] at h1
  have h2 := h1.1
  have e : rd_T33 l (i : Int) = l[i] := by
    unfold rd_T33
    rw [Int.toNat_natCast, List.getD_eq_getElem?_getD, List.getElem?_eq_getElem hi]; rfl
  rw [e] at h2
  unfold tagB at h2
  rw [Bool.and_eq_true, decide_eq_true_eq] at h2
  exact h2.1
def sfnt_Put.f (v : Int) (l : List S33) : Option (ByteArray × Int) := if l.length < 1000000000 ∧ ∀ x ∈ l, x.f0.size ≤ 1000000000 ∧ x.f1.size ≤ 140737488351232 then some (putS v l) else none
theorem sfnt_Put.calls (a0 : Int) (A1 : Option Addr) (c1 : Nat) (l1 : List S33) (r1 : ByteArray) (r2 : Int) (w : World) (hr1 : Kd.C k33 w A1 l1.length l1) (hc1 : l1.length ≤ c1) (h : sfnt_Put.f a0 l1 = some (r1, r2)) :
    Calls Try.prog 11 #[.int .i64 a0, .slice A1 l1.length c1] w fun e w' => e = .returned (.tuple #[.string r1, .int .i64 r2]) ∧ Below w.heap.size w w' := by
  unfold sfnt_Put.f at h
  split at h
  rotate_left
  · exact absurd h (by simp)
  rename_i hcond
  obtain ⟨hn, hx⟩ := hcond
  have hp : putS a0 l1 = (r1, r2) := by simpa using h
  by_cases hv : verB a0 = false ∨ rightT l1 = false
  · have e : putS a0 l1 = (⟨#[]⟩, 1) := by unfold putS; rw [if_pos hv]
    rw [e] at hp
    cases hp
    exact put_noarg a0 A1 c1 l1 w hr1 hc1 hn hv
  · have hv1 : verB a0 = true := by cases hq : verB a0 <;> simp_all
    have hv2 : rightT l1 = true := by cases hq : rightT l1 <;> simp_all
    have := put_main a0 A1 c1 l1 w hr1 hc1 (right_facts l1 hv2).1 hv1 hv2 hx (right_facts l1 hv2).2
    rw [hp] at this
    exact this
end Go.Proofs.Ytgchajlfopmcjaa.P
