/- A region whose callees keep what lay there; ref19's one, walked: the rune that begins at a place, by its bytes. Condition: a place within a text of at most 10^9 bytes. -/
import Derived.Test.YtplkdfkahcpoeaaDoorPx0
import Derived.Lib.Hide
import Derived.Deep.QuietTactic
import Derived.Sort.Grow
import Derived.Shelf.RegionOpenPlain
import Derived.BigQuiet
import Derived.Laws.Cover1
import Derived.Sort.Walk0
import Derived.Test.YtplkdfkahcpoeaaDoorPx2
import Derived.Test.YtplkdfkahcpoeaaDoorPx3
namespace Go.Proofs.YtplkdfkahcpoeaaDoor.P
open Go.Shelf Go.RowKit Go.Sort Go.Proofs.YtplkdfkahcpoeaaDoorW.PrintWords Go.Proofs.YtplkdfkahcpoeaaDoorW.PrintLast Go.Proofs.YtplkdfkahcpoeaaDoorW.PrintMore
/-- A world in which all that lay in w stands as it stood. -/
structure Kept (w : World) where
  w' : World
  h : Below w.heap.size w w'
instance (w : World) : Inhabited (Kept w) := ⟨⟨w, Below.refl _ _⟩⟩
theorem wp_region_kept {P : Program} {id : Nat} {Q : Exit → Act → World → Prop} {a : Act} {w : World} {l : List Oper} (hm : P.follows .mixedOrders = true) (hB : Region.lexB .any l.toArray = true)
    (h : wpQuiet P l.toArray (fun w' => ∃ p : Kept w, w' = p.w') (fun a' => ∀ w', (∃ p : Kept w, w' = p.w') → Q .normal a' w') l a) : (Code.region id l.toArray true).wp P Q a w :=
  wp_region_quiet (C := fun w' => ∃ p : Kept w, w' = p.w') hm hB ⟨⟨_, Drawn0.below ⟨1, rfl⟩⟩, rfl⟩ (by simpa using h)
theorem kept_cell {w : World} {a : Addr} {v : Value} (h : w.cell? a = some v) (p : Kept w) : p.w'.cell? a = some v := (p.h.cell (World.block_lt_of_cell? _ _ h)).trans h
theorem kept_calls {P : Program} {f : FuncId} {args : Array Value} {w : World} {p : Kept w} {v : Value} (h : Calls P f args p.w' fun e w' => e = .returned v ∧ Below p.w'.heap.size p.w' w') :
    Calls P f args p.w' fun e w'' => e = .returned v ∧ ∃ q : Kept w, w'' = q.w' :=
  h.mono fun _ _ ⟨he, hb⟩ => ⟨he, ⟨_, p.h.trans (hb.mono p.h.size)⟩, rfl⟩
end Go.Proofs.YtplkdfkahcpoeaaDoor.P
namespace Go.Proofs.YtplkdfkahcpoeaaDoor.P
open Go.Shelf Go.RowKit Go.Proofs.YtplkdfkahcpoeaaDoorW.PrintWords Go.Proofs.YtplkdfkahcpoeaaDoorW.PrintLast Go.Proofs.YtplkdfkahcpoeaaDoorW.PrintMore
set_option linter.unusedVariables false
set_option linter.unusedSimpArgs false
set_option maxRecDepth 100000
theorem bt_range (s : ByteArray) (i : Int) : 0 ≤ bt s i ∧ bt s i < 256 := by
  unfold bt
  split
  · have := UInt8.toNat_lt (s[i.toNat]'(by assumption)); omega
  · omega
def bytesR (v : Int) : ByteArray := (vinculumref19_Bytes.f v).getD ⟨#[]⟩
theorem bytesR_f (v : Int) : vinculumref19_Bytes.f v = some (bytesR v) := by
  unfold bytesR vinculumref19_Bytes.f
  split
  · rfl
  · split
    · rfl
    · split <;> rfl
def runeR (v : Int) : Bool := (vinculumref19_Rune.f v).getD false
theorem runeR_f (v : Int) : vinculumref19_Rune.f v = some (runeR v) := by
  unfold runeR vinculumref19_Rune.f
  split
  · split
    · split <;> rfl
    · rfl
  · rfl
/-- The number that n bytes from a place on tell. -/
def oneV (s : ByteArray) (A : Int) : Nat → Int
  | 1 => bt s A
  | 2 => 64 * (bt s A % 32) + bt s (A + 1) % 64
  | 3 => 64 * (64 * (bt s A % 16) + bt s (A + 1) % 64) + bt s (A + 2) % 64
  | _ => 64 * (64 * (64 * (bt s A % 8) + bt s (A + 1) % 64) + bt s (A + 2) % 64) + bt s (A + 3) % 64
def oneC (s : ByteArray) (A : Int) (n : Nat) : Bool := runeR (oneV s A n) && ((bytesR (oneV s A n)).toList == (s.extract A.toNat (A + n).toNat).toList)
def oneF (s : ByteArray) (A : Int) : Nat → Nat → Int × Int
  | 0, n => (0, 0)
  | f + 1, n => if A + n ≤ (s.size : Int) then (if oneC s A n then (oneV s A n, n) else oneF s A f (n + 1)) else (0, 0)
def oneR (s : ByteArray) (A : Int) : Int × Int := oneF s A 4 1
theorem rune_below (v : Int) (w : World) : Calls Tryd.prog 27 #[.int .i64 v] w fun e w' => e = .returned (.bool (runeR v)) ∧ Below w.heap.size w w' :=
  (vinculumref19_Rune.calls v _ w (runeR_f v)).mono fun e w' ⟨he, hd⟩ => ⟨he, hd.below⟩
theorem bytes_below' (v : Int) (w : World) : Calls Tryd.prog 28 #[.int .i64 v] w fun e w' => e = .returned (.string (bytesR v)) ∧ Below w.heap.size w w' :=
  vinculumref19_Bytes.calls v _ w (bytesR_f v)
set_option maxHeartbeats 16000000 in
theorem one_calls (s : ByteArray) (A : Int) (h0 : 0 ≤ A) (h1 : A ≤ (s.size : Int)) (hs : s.size ≤ 1000000000) (R : Int × Int) (hR : oneR s A = R) (w : World) :
    Calls Tryd.prog 32 #[.string s, .int .i64 A] w fun e w' => e = .returned (.tuple #[.int .i64 R.1, .int .i64 R.2]) ∧ Below w.heap.size w w' := by
  have HS := Lib.hid (show 0 ≤ A ∧ A ≤ (s.size : Int) ∧ s.size ≤ 1000000000 from ⟨h0, h1, hs⟩)
  have HR := Lib.hid (show oneF s A 4 1 = R from hR)
  have HRU := Lib.hid rune_below
  have HBY := Lib.hid bytes_below'
  have hmx : Tryd.prog.follows .mixedOrders = true := by kernel_rfl
  have HMX := Lib.hid hmx
  have H0 := Lib.hid (Below.refl w.heap.size w)
  clear h0 h1 hs hR hmx
  go_enter Tryd.func32, Tryd.ntmps32
  go_wp2_with fail
  go_loopg [6] 6 (fun gk v6 wr => ∃ N : Int, v6 = .int .i64 N ∧ Hid (∃ n : Nat, (n : Int) = N ∧ 1 ≤ n ∧ n ≤ 5 ∧ 6 ≤ n + gk ∧ oneF s A (5 - n) n = R) ∧ Hid (Below w.heap.size w wr))
  case atStart => exact ⟨1, rfl, Lib.hid ⟨1, rfl, by omega, by omega, by omega, HR.out⟩, H0⟩
  case round =>
    clear H0
    obtain ⟨N, rfl, HN, HB⟩ := hrel
    obtain ⟨gk_, hgk_⟩ : ∃ g : Nat, gk = g := ⟨_, rfl⟩
    have hS := HS.out
    obtain ⟨n, hnN, hn1, hn2, hng, hF⟩ := HN.out
    obtain rfl | rfl | rfl | rfl | rfl : n = 1 ∨ n = 2 ∨ n = 3 ∨ n = 4 ∨ n = 5 := by omega
    · obtain rfl : N = 1 := hnN.symm
      have HG := Lib.hid (show 6 ≤ 1 + gk_ ∧ gk = gk_ from ⟨by omega, hgk_⟩)
      clear hnN hn1 hn2 hng HN hgk_
      by_cases hle : A + 1 ≤ (s.size : Int)
      rotate_left
      · rw [show 5 - 1 = 3 + 1 from rfl, oneF, if_neg (by simpa using hle)] at hF
        have HFF := Lib.hid hF
        have wr1 : IntKind.i64.wrap (A + 1) = A + 1 := IntWalk.i64_in _ (by omega)
        have e1 : decide (A + 1 ≤ (s.size : Int)) = false := decide_eq_false hle
        clear hF hS hle
        go_wp2_with fail
        go_ret2
        rw [← HFF.out]
        exact ⟨rfl, HB.out⟩
      have hx0 := bt_at s (A)
      have hr0 := bt_range s (A)
      rw [show 5 - 1 = 3 + 1 from rfl, oneF, if_pos (by simpa using hle)] at hF
      unfold oneC at hF
      simp only [oneV, show ((1 : Nat) : Int) = 1 from rfl] at hF
      obtain ⟨b0, hb0⟩ : ∃ b, bt s A = b := ⟨_, rfl⟩
      rw [hb0] at hx0 hr0 hF
      have wr1 : IntKind.i64.wrap (A + 1) = A + 1 := IntWalk.i64_in _ (by omega)
      have e1 : decide (A + 1 ≤ (s.size : Int)) = true := decide_eq_true hle
      have p0 := eq_true hS.1
      have p1 := eq_true (show A < (s.size : Int) by omega)
      have p2 := eq_true (show A ≤ A + 1 by omega)
      have p3 := eq_true hle
      have HFF := Lib.hid hF
      clear hF hS hle hb0
      go_wp2_with fail
      go_loopg [7, 8] 1 (fun gk v7 v8 wr2 => Hid ((gk = 1 ∧ v7 = .int .i64 (b0) ∧ v8 = .int .i64 1)) ∧ wr = wr2)
      case atStart => exact ⟨Lib.hid (⟨rfl, rfl, rfl⟩), rfl⟩
      case round =>
        obtain ⟨HO, rfl⟩ := hrel
        obtain ⟨rfl, rfl, rfl⟩ := HO.out
        obtain ⟨v, hv⟩ : ∃ v, b0 = v := ⟨_, rfl⟩
        have hF := HFF.out
        rw [hv] at hF
        rw [hv]
        have hb1 := bytes_below' v
        have hb2 := rune_below v
        obtain ⟨SB, hSB⟩ : ∃ SB, bytesR v = SB := ⟨_, rfl⟩
        obtain ⟨rb, hrb⟩ : ∃ rb, runeR v = rb := ⟨_, rfl⟩
        obtain ⟨q, hq⟩ : ∃ q, (SB.toList == (s.extract A.toNat (A + 1).toNat).toList) = q := ⟨_, rfl⟩
        rw [hSB, hrb, hq] at hF
        rw [hSB] at hb1
        rw [hrb] at hb2
        have HF2 := Lib.hid hF
        have HB1 := Lib.hid hb1
        have HB2 := Lib.hid hb2
        clear hv hF HFF HO hSB hrb hb1 hb2
        cases rb
        · go_wp2_with fail
          refine wp_region_kept HMX.out (by kernel_rfl) ?_
          repeat (go_big_quiet_step (first | exact kept_calls (HB1.out _) | exact kept_calls (HB2.out _)))
          refine wpQuiet_nil ?_
          rintro _ ⟨pw, rfl⟩
          go_wp2_with fail
          go_roundg (gk_ - 1)
          case measure => have := HG.out; omega
          case rel => exact ⟨2, rfl, Lib.hid ⟨2, rfl, by omega, by omega, by have := HG.out; omega, HF2.out⟩, Lib.hid (HB.out.trans (pw.h.mono HB.out.size))⟩
        · cases q
          · go_wp2_with fail
            refine wp_region_kept HMX.out (by kernel_rfl) ?_
            repeat (go_big_quiet_step (first | exact kept_calls (HB1.out _) | exact kept_calls (HB2.out _)))
            refine wpQuiet_nil ?_
            rintro _ ⟨pw, rfl⟩
            go_wp2_with fail
            go_roundg (gk_ - 1)
            case measure => have := HG.out; omega
            case rel => exact ⟨2, rfl, Lib.hid ⟨2, rfl, by omega, by omega, by have := HG.out; omega, HF2.out⟩, Lib.hid (HB.out.trans (pw.h.mono HB.out.size))⟩
          · go_wp2_with fail
            refine wp_region_kept HMX.out (by kernel_rfl) ?_
            repeat (go_big_quiet_step (first | exact kept_calls (HB1.out _) | exact kept_calls (HB2.out _)))
            refine wpQuiet_nil ?_
            rintro _ ⟨pw, rfl⟩
            go_wp2_with fail
            go_ret2
            rw [← HF2.out]
            exact ⟨rfl, HB.out.trans (pw.h.mono HB.out.size)⟩
    · obtain rfl : N = 2 := hnN.symm
      have HG := Lib.hid (show 6 ≤ 2 + gk_ ∧ gk = gk_ from ⟨by omega, hgk_⟩)
      clear hnN hn1 hn2 hng HN hgk_
      by_cases hle : A + 2 ≤ (s.size : Int)
      rotate_left
      · rw [show 5 - 2 = 2 + 1 from rfl, oneF, if_neg (by simpa using hle)] at hF
        have HFF := Lib.hid hF
        have wr1 : IntKind.i64.wrap (A + 2) = A + 2 := IntWalk.i64_in _ (by omega)
        have e1 : decide (A + 2 ≤ (s.size : Int)) = false := decide_eq_false hle
        clear hF hS hle
        go_wp2_with fail
        go_ret2
        rw [← HFF.out]
        exact ⟨rfl, HB.out⟩
      have hx0 := bt_at s (A)
      have hr0 := bt_range s (A)
      have hx1 := bt_at s (A + 1)
      have hr1 := bt_range s (A + 1)
      rw [show 5 - 2 = 2 + 1 from rfl, oneF, if_pos (by simpa using hle)] at hF
      unfold oneC at hF
      simp only [oneV, show ((2 : Nat) : Int) = 2 from rfl] at hF
      obtain ⟨b0, hb0⟩ : ∃ b, bt s A = b := ⟨_, rfl⟩
      rw [hb0] at hx0 hr0 hF
      obtain ⟨b1, hb1⟩ : ∃ b, bt s (A + 1) = b := ⟨_, rfl⟩
      rw [hb1] at hx1 hr1 hF
      have wr1 : IntKind.i64.wrap (A + 2) = A + 2 := IntWalk.i64_in _ (by omega)
      have e1 : decide (A + 2 ≤ (s.size : Int)) = true := decide_eq_true hle
      have p0 := eq_true hS.1
      have p1 := eq_true (show A < (s.size : Int) by omega)
      have p2 := eq_true (show A ≤ A + 2 by omega)
      have p3 := eq_true hle
      have q1 := eq_true (show 0 ≤ A + 1 by omega)
      have r1 := eq_true (show A + 1 < (s.size : Int) by omega)
      have w1 : IntKind.i64.wrap (A + 1) = A + 1 := IntWalk.i64_in _ (by omega)
      have HFF := Lib.hid hF
      clear hF hS hle hb0 hb1
      go_wp2_with fail
      go_loopg [7, 8] 2 (fun gk v7 v8 wr2 => Hid ((gk = 2 ∧ v7 = .int .i64 (b0 % 32) ∧ v8 = .int .i64 1) ∨ (gk = 1 ∧ v7 = .int .i64 (64 * (b0 % 32) + b1 % 64) ∧ v8 = .int .i64 2)) ∧ wr = wr2)
      case atStart => exact ⟨Lib.hid (.inl ⟨rfl, rfl, rfl⟩), rfl⟩
      case round =>
        obtain ⟨HO, rfl⟩ := hrel
        obtain ⟨rfl, rfl, rfl⟩ | ⟨rfl, rfl, rfl⟩ := HO.out
        · go_wp2_with fail
          go_roundg 1
          case measure => omega
          case rel => exact ⟨Lib.hid (.inr (⟨rfl, rfl, rfl⟩)), rfl⟩
        · obtain ⟨v, hv⟩ : ∃ v, 64 * (b0 % 32) + b1 % 64 = v := ⟨_, rfl⟩
          have hF := HFF.out
          rw [hv] at hF
          rw [hv]
          have hb1 := bytes_below' v
          have hb2 := rune_below v
          obtain ⟨SB, hSB⟩ : ∃ SB, bytesR v = SB := ⟨_, rfl⟩
          obtain ⟨rb, hrb⟩ : ∃ rb, runeR v = rb := ⟨_, rfl⟩
          obtain ⟨q, hq⟩ : ∃ q, (SB.toList == (s.extract A.toNat (A + 2).toNat).toList) = q := ⟨_, rfl⟩
          rw [hSB, hrb, hq] at hF
          rw [hSB] at hb1
          rw [hrb] at hb2
          have HF2 := Lib.hid hF
          have HB1 := Lib.hid hb1
          have HB2 := Lib.hid hb2
          clear hv hF HFF HO hSB hrb hb1 hb2
          cases rb
          · go_wp2_with fail
            refine wp_region_kept HMX.out (by kernel_rfl) ?_
            repeat (go_big_quiet_step (first | exact kept_calls (HB1.out _) | exact kept_calls (HB2.out _)))
            refine wpQuiet_nil ?_
            rintro _ ⟨pw, rfl⟩
            go_wp2_with fail
            go_roundg (gk_ - 1)
            case measure => have := HG.out; omega
            case rel => exact ⟨3, rfl, Lib.hid ⟨3, rfl, by omega, by omega, by have := HG.out; omega, HF2.out⟩, Lib.hid (HB.out.trans (pw.h.mono HB.out.size))⟩
          · cases q
            · go_wp2_with fail
              refine wp_region_kept HMX.out (by kernel_rfl) ?_
              repeat (go_big_quiet_step (first | exact kept_calls (HB1.out _) | exact kept_calls (HB2.out _)))
              refine wpQuiet_nil ?_
              rintro _ ⟨pw, rfl⟩
              go_wp2_with fail
              go_roundg (gk_ - 1)
              case measure => have := HG.out; omega
              case rel => exact ⟨3, rfl, Lib.hid ⟨3, rfl, by omega, by omega, by have := HG.out; omega, HF2.out⟩, Lib.hid (HB.out.trans (pw.h.mono HB.out.size))⟩
            · go_wp2_with fail
              refine wp_region_kept HMX.out (by kernel_rfl) ?_
              repeat (go_big_quiet_step (first | exact kept_calls (HB1.out _) | exact kept_calls (HB2.out _)))
              refine wpQuiet_nil ?_
              rintro _ ⟨pw, rfl⟩
              go_wp2_with fail
              go_ret2
              rw [← HF2.out]
              exact ⟨rfl, HB.out.trans (pw.h.mono HB.out.size)⟩
    · obtain rfl : N = 3 := hnN.symm
      have HG := Lib.hid (show 6 ≤ 3 + gk_ ∧ gk = gk_ from ⟨by omega, hgk_⟩)
      clear hnN hn1 hn2 hng HN hgk_
      by_cases hle : A + 3 ≤ (s.size : Int)
      rotate_left
      · rw [show 5 - 3 = 1 + 1 from rfl, oneF, if_neg (by simpa using hle)] at hF
        have HFF := Lib.hid hF
        have wr1 : IntKind.i64.wrap (A + 3) = A + 3 := IntWalk.i64_in _ (by omega)
        have e1 : decide (A + 3 ≤ (s.size : Int)) = false := decide_eq_false hle
        clear hF hS hle
        go_wp2_with fail
        go_ret2
        rw [← HFF.out]
        exact ⟨rfl, HB.out⟩
      have hx0 := bt_at s (A)
      have hr0 := bt_range s (A)
      have hx1 := bt_at s (A + 1)
      have hr1 := bt_range s (A + 1)
      have hx2 := bt_at s (A + 2)
      have hr2 := bt_range s (A + 2)
      rw [show 5 - 3 = 1 + 1 from rfl, oneF, if_pos (by simpa using hle)] at hF
      unfold oneC at hF
      simp only [oneV, show ((3 : Nat) : Int) = 3 from rfl] at hF
      obtain ⟨b0, hb0⟩ : ∃ b, bt s A = b := ⟨_, rfl⟩
      rw [hb0] at hx0 hr0 hF
      obtain ⟨b1, hb1⟩ : ∃ b, bt s (A + 1) = b := ⟨_, rfl⟩
      rw [hb1] at hx1 hr1 hF
      obtain ⟨b2, hb2⟩ : ∃ b, bt s (A + 2) = b := ⟨_, rfl⟩
      rw [hb2] at hx2 hr2 hF
      have wr1 : IntKind.i64.wrap (A + 3) = A + 3 := IntWalk.i64_in _ (by omega)
      have e1 : decide (A + 3 ≤ (s.size : Int)) = true := decide_eq_true hle
      have p0 := eq_true hS.1
      have p1 := eq_true (show A < (s.size : Int) by omega)
      have p2 := eq_true (show A ≤ A + 3 by omega)
      have p3 := eq_true hle
      have q1 := eq_true (show 0 ≤ A + 1 by omega)
      have r1 := eq_true (show A + 1 < (s.size : Int) by omega)
      have w1 : IntKind.i64.wrap (A + 1) = A + 1 := IntWalk.i64_in _ (by omega)
      have q2 := eq_true (show 0 ≤ A + 2 by omega)
      have r2 := eq_true (show A + 2 < (s.size : Int) by omega)
      have w2 : IntKind.i64.wrap (A + 2) = A + 2 := IntWalk.i64_in _ (by omega)
      have HFF := Lib.hid hF
      clear hF hS hle hb0 hb1 hb2
      go_wp2_with fail
      go_loopg [7, 8] 3 (fun gk v7 v8 wr2 => Hid ((gk = 3 ∧ v7 = .int .i64 (b0 % 16) ∧ v8 = .int .i64 1) ∨ (gk = 2 ∧ v7 = .int .i64 (64 * (b0 % 16) + b1 % 64) ∧ v8 = .int .i64 2) ∨ (gk = 1 ∧ v7 = .int .i64 (64 * (64 * (b0 % 16) + b1 % 64) + b2 % 64) ∧ v8 = .int .i64 3)) ∧ wr = wr2)
      case atStart => exact ⟨Lib.hid (.inl ⟨rfl, rfl, rfl⟩), rfl⟩
      case round =>
        obtain ⟨HO, rfl⟩ := hrel
        obtain ⟨rfl, rfl, rfl⟩ | ⟨rfl, rfl, rfl⟩ | ⟨rfl, rfl, rfl⟩ := HO.out
        · go_wp2_with fail
          go_roundg 2
          case measure => omega
          case rel => exact ⟨Lib.hid (.inr (.inl ⟨rfl, rfl, rfl⟩)), rfl⟩
        · go_wp2_with fail
          go_roundg 1
          case measure => omega
          case rel => exact ⟨Lib.hid (.inr (.inr (⟨rfl, rfl, rfl⟩))), rfl⟩
        · obtain ⟨v, hv⟩ : ∃ v, 64 * (64 * (b0 % 16) + b1 % 64) + b2 % 64 = v := ⟨_, rfl⟩
          have hF := HFF.out
          rw [hv] at hF
          rw [hv]
          have hb1 := bytes_below' v
          have hb2 := rune_below v
          obtain ⟨SB, hSB⟩ : ∃ SB, bytesR v = SB := ⟨_, rfl⟩
          obtain ⟨rb, hrb⟩ : ∃ rb, runeR v = rb := ⟨_, rfl⟩
          obtain ⟨q, hq⟩ : ∃ q, (SB.toList == (s.extract A.toNat (A + 3).toNat).toList) = q := ⟨_, rfl⟩
          rw [hSB, hrb, hq] at hF
          rw [hSB] at hb1
          rw [hrb] at hb2
          have HF2 := Lib.hid hF
          have HB1 := Lib.hid hb1
          have HB2 := Lib.hid hb2
          clear hv hF HFF HO hSB hrb hb1 hb2
          cases rb
          · go_wp2_with fail
            refine wp_region_kept HMX.out (by kernel_rfl) ?_
            repeat (go_big_quiet_step (first | exact kept_calls (HB1.out _) | exact kept_calls (HB2.out _)))
            refine wpQuiet_nil ?_
            rintro _ ⟨pw, rfl⟩
            go_wp2_with fail
            go_roundg (gk_ - 1)
            case measure => have := HG.out; omega
            case rel => exact ⟨4, rfl, Lib.hid ⟨4, rfl, by omega, by omega, by have := HG.out; omega, HF2.out⟩, Lib.hid (HB.out.trans (pw.h.mono HB.out.size))⟩
          · cases q
            · go_wp2_with fail
              refine wp_region_kept HMX.out (by kernel_rfl) ?_
              repeat (go_big_quiet_step (first | exact kept_calls (HB1.out _) | exact kept_calls (HB2.out _)))
              refine wpQuiet_nil ?_
              rintro _ ⟨pw, rfl⟩
              go_wp2_with fail
              go_roundg (gk_ - 1)
              case measure => have := HG.out; omega
              case rel => exact ⟨4, rfl, Lib.hid ⟨4, rfl, by omega, by omega, by have := HG.out; omega, HF2.out⟩, Lib.hid (HB.out.trans (pw.h.mono HB.out.size))⟩
            · go_wp2_with fail
              refine wp_region_kept HMX.out (by kernel_rfl) ?_
              repeat (go_big_quiet_step (first | exact kept_calls (HB1.out _) | exact kept_calls (HB2.out _)))
              refine wpQuiet_nil ?_
              rintro _ ⟨pw, rfl⟩
              go_wp2_with fail
              go_ret2
              rw [← HF2.out]
              exact ⟨rfl, HB.out.trans (pw.h.mono HB.out.size)⟩
    · obtain rfl : N = 4 := hnN.symm
      have HG := Lib.hid (show 6 ≤ 4 + gk_ ∧ gk = gk_ from ⟨by omega, hgk_⟩)
      clear hnN hn1 hn2 hng HN hgk_
      by_cases hle : A + 4 ≤ (s.size : Int)
      rotate_left
      · rw [show 5 - 4 = 0 + 1 from rfl, oneF, if_neg (by simpa using hle)] at hF
        have HFF := Lib.hid hF
        have wr1 : IntKind.i64.wrap (A + 4) = A + 4 := IntWalk.i64_in _ (by omega)
        have e1 : decide (A + 4 ≤ (s.size : Int)) = false := decide_eq_false hle
        clear hF hS hle
        go_wp2_with fail
        go_ret2
        rw [← HFF.out]
        exact ⟨rfl, HB.out⟩
      have hx0 := bt_at s (A)
      have hr0 := bt_range s (A)
      have hx1 := bt_at s (A + 1)
      have hr1 := bt_range s (A + 1)
      have hx2 := bt_at s (A + 2)
      have hr2 := bt_range s (A + 2)
      have hx3 := bt_at s (A + 3)
      have hr3 := bt_range s (A + 3)
      rw [show 5 - 4 = 0 + 1 from rfl, oneF, if_pos (by simpa using hle)] at hF
      unfold oneC at hF
      simp only [oneV, show ((4 : Nat) : Int) = 4 from rfl] at hF
      obtain ⟨b0, hb0⟩ : ∃ b, bt s A = b := ⟨_, rfl⟩
      rw [hb0] at hx0 hr0 hF
      obtain ⟨b1, hb1⟩ : ∃ b, bt s (A + 1) = b := ⟨_, rfl⟩
      rw [hb1] at hx1 hr1 hF
      obtain ⟨b2, hb2⟩ : ∃ b, bt s (A + 2) = b := ⟨_, rfl⟩
      rw [hb2] at hx2 hr2 hF
      obtain ⟨b3, hb3⟩ : ∃ b, bt s (A + 3) = b := ⟨_, rfl⟩
      rw [hb3] at hx3 hr3 hF
      have wr1 : IntKind.i64.wrap (A + 4) = A + 4 := IntWalk.i64_in _ (by omega)
      have e1 : decide (A + 4 ≤ (s.size : Int)) = true := decide_eq_true hle
      have p0 := eq_true hS.1
      have p1 := eq_true (show A < (s.size : Int) by omega)
      have p2 := eq_true (show A ≤ A + 4 by omega)
      have p3 := eq_true hle
      have q1 := eq_true (show 0 ≤ A + 1 by omega)
      have r1 := eq_true (show A + 1 < (s.size : Int) by omega)
      have w1 : IntKind.i64.wrap (A + 1) = A + 1 := IntWalk.i64_in _ (by omega)
      have q2 := eq_true (show 0 ≤ A + 2 by omega)
      have r2 := eq_true (show A + 2 < (s.size : Int) by omega)
      have w2 : IntKind.i64.wrap (A + 2) = A + 2 := IntWalk.i64_in _ (by omega)
      have q3 := eq_true (show 0 ≤ A + 3 by omega)
      have r3 := eq_true (show A + 3 < (s.size : Int) by omega)
      have w3 : IntKind.i64.wrap (A + 3) = A + 3 := IntWalk.i64_in _ (by omega)
      have HFF := Lib.hid hF
      clear hF hS hle hb0 hb1 hb2 hb3
      go_wp2_with fail
      go_loopg [7, 8] 4 (fun gk v7 v8 wr2 => Hid ((gk = 4 ∧ v7 = .int .i64 (b0 % 8) ∧ v8 = .int .i64 1) ∨ (gk = 3 ∧ v7 = .int .i64 (64 * (b0 % 8) + b1 % 64) ∧ v8 = .int .i64 2) ∨ (gk = 2 ∧ v7 = .int .i64 (64 * (64 * (b0 % 8) + b1 % 64) + b2 % 64) ∧ v8 = .int .i64 3) ∨ (gk = 1 ∧ v7 = .int .i64 (64 * (64 * (64 * (b0 % 8) + b1 % 64) + b2 % 64) + b3 % 64) ∧ v8 = .int .i64 4)) ∧ wr = wr2)
      case atStart => exact ⟨Lib.hid (.inl ⟨rfl, rfl, rfl⟩), rfl⟩
      case round =>
        obtain ⟨HO, rfl⟩ := hrel
        obtain ⟨rfl, rfl, rfl⟩ | ⟨rfl, rfl, rfl⟩ | ⟨rfl, rfl, rfl⟩ | ⟨rfl, rfl, rfl⟩ := HO.out
        · go_wp2_with fail
          go_roundg 3
          case measure => omega
          case rel => exact ⟨Lib.hid (.inr (.inl ⟨rfl, rfl, rfl⟩)), rfl⟩
        · go_wp2_with fail
          go_roundg 2
          case measure => omega
          case rel => exact ⟨Lib.hid (.inr (.inr (.inl ⟨rfl, rfl, rfl⟩))), rfl⟩
        · go_wp2_with fail
          go_roundg 1
          case measure => omega
          case rel => exact ⟨Lib.hid (.inr (.inr (.inr (⟨rfl, rfl, rfl⟩)))), rfl⟩
        · obtain ⟨v, hv⟩ : ∃ v, 64 * (64 * (64 * (b0 % 8) + b1 % 64) + b2 % 64) + b3 % 64 = v := ⟨_, rfl⟩
          have hF := HFF.out
          rw [hv] at hF
          rw [hv]
          have hb1 := bytes_below' v
          have hb2 := rune_below v
          obtain ⟨SB, hSB⟩ : ∃ SB, bytesR v = SB := ⟨_, rfl⟩
          obtain ⟨rb, hrb⟩ : ∃ rb, runeR v = rb := ⟨_, rfl⟩
          obtain ⟨q, hq⟩ : ∃ q, (SB.toList == (s.extract A.toNat (A + 4).toNat).toList) = q := ⟨_, rfl⟩
          rw [hSB, hrb, hq] at hF
          rw [hSB] at hb1
          rw [hrb] at hb2
          have HF2 := Lib.hid hF
          have HB1 := Lib.hid hb1
          have HB2 := Lib.hid hb2
          clear hv hF HFF HO hSB hrb hb1 hb2
          cases rb
          · go_wp2_with fail
            refine wp_region_kept HMX.out (by kernel_rfl) ?_
            repeat (go_big_quiet_step (first | exact kept_calls (HB1.out _) | exact kept_calls (HB2.out _)))
            refine wpQuiet_nil ?_
            rintro _ ⟨pw, rfl⟩
            go_wp2_with fail
            go_roundg (gk_ - 1)
            case measure => have := HG.out; omega
            case rel => exact ⟨5, rfl, Lib.hid ⟨5, rfl, by omega, by omega, by have := HG.out; omega, HF2.out⟩, Lib.hid (HB.out.trans (pw.h.mono HB.out.size))⟩
          · cases q
            · go_wp2_with fail
              refine wp_region_kept HMX.out (by kernel_rfl) ?_
              repeat (go_big_quiet_step (first | exact kept_calls (HB1.out _) | exact kept_calls (HB2.out _)))
              refine wpQuiet_nil ?_
              rintro _ ⟨pw, rfl⟩
              go_wp2_with fail
              go_roundg (gk_ - 1)
              case measure => have := HG.out; omega
              case rel => exact ⟨5, rfl, Lib.hid ⟨5, rfl, by omega, by omega, by have := HG.out; omega, HF2.out⟩, Lib.hid (HB.out.trans (pw.h.mono HB.out.size))⟩
            · go_wp2_with fail
              refine wp_region_kept HMX.out (by kernel_rfl) ?_
              repeat (go_big_quiet_step (first | exact kept_calls (HB1.out _) | exact kept_calls (HB2.out _)))
              refine wpQuiet_nil ?_
              rintro _ ⟨pw, rfl⟩
              go_wp2_with fail
              go_ret2
              rw [← HF2.out]
              exact ⟨rfl, HB.out.trans (pw.h.mono HB.out.size)⟩
    · obtain rfl : N = 5 := hnN.symm
      have HFF := Lib.hid (show ((0 : Int), (0 : Int)) = R from hF)
      clear hF hS hnN hn1 hn2 hng
      go_wp2_with fail
      go_ret2
      rw [← HFF.out]
      exact ⟨rfl, HB.out⟩
def vinculumref19_one.f (s : ByteArray) (A : Int) : Option (Int × Int) := if 0 ≤ A ∧ A ≤ (s.size : Int) ∧ s.size ≤ 1000000000 then some (oneR s A) else none
theorem vinculumref19_one.calls (s : ByteArray) (A : Int) (r1 r2 : Int) (w : World) (h : vinculumref19_one.f s A = some (r1, r2)) :
    Calls Tryd.prog 32 #[.string s, .int .i64 A] w fun e w' => e = .returned (.tuple #[.int .i64 r1, .int .i64 r2]) ∧ Below w.heap.size w w' := by
  unfold vinculumref19_one.f at h
  split at h
  · rename_i hc
    exact one_calls s A hc.1 hc.2.1 hc.2.2 (r1, r2) (Option.some.inj h) w
  · cases h
end Go.Proofs.YtplkdfkahcpoeaaDoor.P
