/- Tags, the two tests of a row of tables, and a region whose callees keep what lay there, walked. Conditions: a row of fewer than 10^9 tables, tags of at most 10^9 bytes. -/
import Derived.Test.YtgchajlfopmcjaaPx0
import Derived.Test.YtgchajlfopmcjaaShelf
import Derived.Lib.Hide
import Derived.Laws.RangeString
import Derived.Laws.RangeAny
import Derived.Shelf.GgClosure.StringsIndexFuncTop
import Derived.Lib.SmallJoins
import Derived.Deep.QuietTactic
import Derived.Sort.Grow
import Derived.Shelf.RegionOpenPlain
import Derived.Test.YtgchajlfopmcjaaRef03a
import Derived.Test.YtgchajlfopmcjaaPx3
import Derived.BigQuiet
import Derived.Laws.Cover1
import Derived.Sort.Walk0
namespace Go.Proofs.Ytgchajlfopmcjaa.P
open Go.Shelf Go.RowKit Go.Proofs.YtgchajlfopmcjaaW.PrintWords Go.Proofs.YtgchajlfopmcjaaW.PrintLast Go.Proofs.YtgchajlfopmcjaaW.PrintMore
set_option linter.unusedVariables false
set_option linter.unusedSimpArgs false
def oddR (r : Nat) : Bool := decide (r < 32) || decide (126 < r)
def okByte (b : UInt8) : Bool := decide (32 ≤ b.toNat) && decide (b.toNat ≤ 126)
/-- A tag: four printable bytes. -/
def tagB (s : ByteArray) : Bool := decide (s.size = 4) && s.data.toList.all okByte
theorem odd_from (s : ByteArray) : ∀ (f pos : Nat), s.size ≤ pos + f → decide (0 ≤ Lib.idxFuncFrom oddR true s f pos) = !((s.data.toList.drop pos).all okByte)
  | 0, pos, h => by
    rw [List.drop_of_length_le (by rw [Array.length_toList]; exact h)]
    rfl
  | f + 1, pos, h => by
    unfold Lib.idxFuncFrom
    by_cases hp : pos < s.size
    · rw [if_pos hp]
      have hd : s.data.toList.drop pos = s[pos] :: s.data.toList.drop (pos + 1) := by
        rw [List.drop_eq_getElem_cons (by rw [Array.length_toList]; exact hp)]
        rfl
      rw [hd, List.all_cons]
      by_cases ha : (s[pos]'hp).toNat < 128
      · rw [decode_ascii s pos hp ha]
        have hk : oddR (s[pos]'hp).toNat = !okByte (s[pos]'hp) := by
          unfold oddR okByte
          by_cases h1 : (s[pos]'hp).toNat < 32
          · simp [h1]
          · by_cases h2 : 126 < (s[pos]'hp).toNat
            · simp [h2]
            · simp [h1, h2]; omega
        simp only [hk]
        cases ho : okByte (s[pos]'hp)
        · simp
        · simp only [Bool.not_true, Bool.false_eq_true, if_false, Bool.true_and]
          exact odd_from s f (pos + 1) (by omega)
      · have hh := decode_high s pos hp (by omega)
        have h1 : oddR (Utf8.decode s pos).1 = true := by unfold oddR; rw [decide_eq_true (show 126 < (Utf8.decode s pos).1 by omega), Bool.or_true]
        have h2 : okByte (s[pos]'hp) = false := by unfold okByte; rw [decide_eq_false (show ¬ (s[pos]'hp).toNat ≤ 126 by omega), Bool.and_false]
        rw [h1, h2, if_pos rfl]
        simp
    · rw [if_neg hp, List.drop_of_length_le (by rw [Array.length_toList]; exact Nat.le_of_not_lt hp)]
      rfl
theorem odd_idx (s : ByteArray) : decide (0 ≤ Lib.idxFunc oddR true s) = !(s.data.toList.all okByte) := odd_from s s.size 0 (by omega)
theorem odd_pred (w : World) : PredAt Try.prog 65 #[] Go.Proofs.encR oddR w := fun W x _ => by
  show Calls Try.prog 65 #[.int .i32 (x : Int)] W _
  by_cases h1 : (x : Int) < 32
  · have : oddR x = true := by unfold oddR; rw [decide_eq_true (show x < 32 by omega)]; rfl
    rw [this]
    go_enter Try.func65, Try.ntmps65
    go_wp2
    go_ret
    exact ⟨rfl, 0, rfl⟩
  · by_cases h2 : (126 : Int) < (x : Int)
    · have : oddR x = true := by unfold oddR; rw [decide_eq_true (show 126 < x by omega), Bool.or_true]
      rw [this]
      go_enter Try.func65, Try.ntmps65
      go_wp2
      go_ret
      exact ⟨rfl, 0, rfl⟩
    · have : oddR x = false := by unfold oddR; rw [decide_eq_false (show ¬ x < 32 by omega), decide_eq_false (show ¬ 126 < x by omega)]; rfl
      rw [this]
      go_enter Try.func65, Try.ntmps65
      go_wp2
      go_ret
      exact ⟨rfl, 0, rfl⟩
theorem tag_calls (s : ByteArray) (w : World) : Calls Try.prog 46 #[.string s] w fun e w' => e = .returned (.bool (tagB s)) ∧ Below w.heap.size w w' := by
  by_cases h4 : s.size = 4
  · have hz : (s.size : Int) = 4 := by omega
    have ht : tagB s = s.data.toList.all okByte := by unfold tagB; rw [decide_eq_true h4, Bool.true_and]
    have hC := Try.strings_ContainsFunc 65 #[] (enters_of Try.func65 (by kernel_rfl) rfl) oddR s w (odd_pred w)
    rw [odd_idx] at hC
    rw [ht]
    generalize s.data.toList.all okByte = r at hC
    have HC := Lib.hid hC
    clear hC ht
    go_enter Try.func46, Try.ntmps46
    go_wp2_with (go_at_call 66; refine HC.out.mono ?_; rintro e w1 ⟨rfl, hb⟩)
    go_ret
    exact ⟨by cases r <;> rfl, hb⟩
  · have hz : ¬ (s.size : Int) = 4 := by omega
    have ht : tagB s = false := by unfold tagB; rw [decide_eq_false h4, Bool.false_and]
    rw [ht]
    go_enter Try.func46, Try.ntmps46
    go_wp2
    go_ret
    exact ⟨rfl, Below.refl _ _⟩
end Go.Proofs.Ytgchajlfopmcjaa.P
namespace Go.Proofs.Ytgchajlfopmcjaa.P
open Go.Shelf Go.RowKit Go.Sort Go.Proofs.YtgchajlfopmcjaaW.PrintWords Go.Proofs.YtgchajlfopmcjaaW.PrintLast Go.Proofs.YtgchajlfopmcjaaW.PrintMore
/-- A world in which all that lay in w stands as it stood. -/
structure Kept (w : World) where
  w' : World
  h : Below w.heap.size w w'
instance (w : World) : Inhabited (Kept w) := ⟨⟨w, Below.refl _ _⟩⟩
theorem wp_region_kept {P : Program} {id : Nat} {Q : Exit → Act → World → Prop} {a : Act} {w : World} {l : List Oper} (hm : P.follows .mixedOrders = true) (hB : Region.lexB .any l.toArray = true)
    (h : wpQuiet P l.toArray (fun w' => ∃ p : Kept w, w' = p.w') (fun a' => ∀ w', (∃ p : Kept w, w' = p.w') → Q .normal a' w') l a) : (Code.region id l.toArray true).wp P Q a w :=
  wp_region_quiet (C := fun w' => ∃ p : Kept w, w' = p.w') hm hB ⟨⟨_, Drawn0.below ⟨1, rfl⟩⟩, rfl⟩ (by simpa using h)
theorem kept_cell {w : World} {a : Addr} {v : Value} (h : w.cell? a = some v) (p : Kept w) : p.w'.cell? a = some v := (p.h.cell (World.block_lt_of_cell? _ _ h)).trans h
theorem kept_calls {P : Program} {f : FuncId} {args : Array Value} {w : World} {p : Kept w} {v : Value} (h : Calls P f args p.w' fun e w' => e = .returned v ∧ Below p.w'.heap.size p.w' w') :
    Calls P f args p.w' fun e w'' => e = .returned v ∧ ∃ q : Kept w, w'' = q.w' :=
  h.mono fun _ _ ⟨he, hb⟩ => ⟨he, ⟨_, p.h.trans (hb.mono p.h.size)⟩, rfl⟩
end Go.Proofs.Ytgchajlfopmcjaa.P
namespace Go.Proofs.Ytgchajlfopmcjaa.P
open Go.Shelf Go.RowKit Go.Proofs.YtgchajlfopmcjaaW.PrintWords Go.Proofs.YtgchajlfopmcjaaW.PrintLast Go.Proofs.YtgchajlfopmcjaaW.PrintMore Go.Proofs.Ytgchajlfopmcjaa.BN
set_option linter.unusedVariables false
set_option linter.unusedSimpArgs false
set_option maxRecDepth 100000
theorem drop_bytes (s : ByteArray) (i : Nat) (h : i < s.size) : s.data.toList.drop i = s[i] :: s.data.toList.drop (i + 1) := by
  rw [List.drop_eq_getElem_cons (by simpa using h)]; rfl
theorem ref_tag (s : ByteArray) (hs : s.size ≤ 1000000000) : Ev (fun k => vinculumref04_Tag.f k s) (tagB s) := by
  have key : ∀ (d i : Nat), i ≤ s.size → s.size - i = d → Ev (fun k => vinculumref04_Tag.l0 k s (i : Int)) ((s.data.toList.drop i).all okByte && decide (s.size = 4)) := by
    intro d
    induction d with
    | zero =>
      intro i hi hd
      have g1 : ¬ (i : Int) < (s.size : Int) := by omega
      rw [List.drop_of_length_le (by simp; omega), List.all_nil, Bool.true_and]
      refine Ev.step (f := fun k => some (decide (s.size = 4))) (fun k => ?_) (Ev.now _)
      simp only [vinculumref04_Tag.l0]
      rw [if_neg g1]
      by_cases h4 : s.size = 4
      · rw [decide_eq_true h4, h4]; rfl
      · rw [decide_eq_false h4, beq_eq_false_iff_ne.2 (by omega)]
    | succ d ih =>
      intro i hi hd
      have hlt : i < s.size := by omega
      have g1 : (i : Int) < (s.size : Int) := by omega
      have g2 : 0 ≤ (i : Int) := by omega
      have hb := bt_get s i hlt
      rw [drop_bytes s i hlt, List.all_cons]
      by_cases c1 : s[i].toNat < 32
      · have : okByte s[i] = false := by unfold okByte; rw [decide_eq_false (by omega), Bool.false_and]
        rw [this, Bool.false_and, Bool.false_and]
        exact Ev.step (f := fun k => some false) (fun k => by simp only [vinculumref04_Tag.l0]; rw [if_pos g1, if_pos g2, hb, if_pos (by omega)]) (Ev.now _)
      · by_cases c2 : 126 < s[i].toNat
        · have : okByte s[i] = false := by unfold okByte; rw [decide_eq_false (show ¬ s[i].toNat ≤ 126 by omega), Bool.and_false]
          rw [this, Bool.false_and, Bool.false_and]
          exact Ev.step (f := fun k => some false) (fun k => by simp only [vinculumref04_Tag.l0]; rw [if_pos g1, if_pos g2, hb, if_neg (by omega), if_pos (by omega)]) (Ev.now _)
        · have : okByte s[i] = true := by unfold okByte; rw [decide_eq_true (by omega), decide_eq_true (by omega)]; rfl
          rw [this, Bool.true_and]
          refine Ev.step (f := fun k => vinculumref04_Tag.l0 k s ((i + 1 : Nat) : Int)) (fun k => ?_) (ih (i + 1) (by omega) (by omega))
          simp only [vinculumref04_Tag.l0]
          rw [if_pos g1, if_pos g2, hb, if_neg (by omega), if_neg (by omega), wrap_succ i (by omega)]
  have := key s.size 0 (by omega) (by omega)
  rw [List.drop_zero] at this
  unfold tagB
  rw [Bool.and_comm]
  exact this
theorem ref_tag_any (s : ByteArray) (hs : s.size ≤ 1000000000) (w : World) : Calls Try.prog 55 #[.string s] w fun e w' => e = .returned (.bool (tagB s)) ∧ Drawn0 w w' := by
  obtain ⟨k, hk⟩ := ref_tag s hs
  exact vinculumref04_Tag.calls k s _ w (hk k (Nat.le_refl _))
def rightAt (l : List S33) (i : Nat) : Bool := tagB (rd_T33 l i).f0 && (decide (i = 0) || Op.bytesLess (rd_T33 l ((i - 1 : Nat) : Int)).f0.toList (rd_T33 l i).f0.toList)
def rightTo (l : List S33) (i : Nat) : Bool := (List.range i).all (rightAt l)
def rightT (l : List S33) : Bool := rightTo l l.length && decide (l.length ≤ 64)
theorem rightTo_succ (l : List S33) (i : Nat) : rightTo l (i + 1) = (rightTo l i && rightAt l i) := by
  unfold rightTo; rw [List.range_succ, List.all_append]; simp
theorem rightTo_false (l : List S33) (i n : Nat) (h : rightAt l i = false) (hi : i < n) : rightTo l n = false := by
  unfold rightTo
  rw [Bool.eq_false_iff]
  intro hc
  rw [List.all_eq_true] at hc
  rw [hc i (List.mem_range.2 hi)] at h
  exact absurd h (by decide)
theorem leq_flip (a b : List UInt8) : (Op.bytesLess a b || a == b) = !Op.bytesLess b a := by
  rw [bytesLess_eq, bytesLess_eq]
  by_cases h1 : a < b
  · have h2 : ¬ b < a := List.lt_asymm h1
    simp [h1, h2]
  · by_cases h2 : b < a
    · have h3 : ¬ a = b := fun h => by subst h; exact h1 h2
      simp [h1, h2, h3]
    · have h3 : a = b := List.le_antisymm (List.not_lt.1 h2) (List.not_lt.1 h1)
      simp [h1, h2, h3]
theorem drawn_two (w : World) (m n : Nat) : Drawn0 w ((w.drewN m).drewN n) := ⟨_, World.drewN_drewN _ _ _⟩
theorem below_one (w : World) (m : Nat) : Below w.heap.size w (w.drewN m) := Drawn0.below ⟨_, rfl⟩
theorem below_two (w : World) (m n : Nat) : Below w.heap.size w ((w.drewN m).drewN n) := Drawn0.below (drawn_two w m n)
def vinculumref04_Right.f (l : List S33) : Option Bool := if l.length < 1000000000 ∧ (∀ x ∈ l, x.f0.size ≤ 1000000000) then some (rightT l) else none
theorem rd_mem (l : List S33) (i : Nat) (h : i < l.length) : rd_T33 l (i : Int) ∈ l := by
  unfold rd_T33
  rw [Int.toNat_natCast, List.getD_eq_getElem?_getD, List.getElem?_eq_getElem h]
  exact List.getElem_mem h
set_option maxHeartbeats 4000000 in
theorem vinculumref04_Right.calls (A0 : Option Addr) (c0 : Nat) (l : List S33) (r : Bool) (w : World) (hr0 : Kd.C k33 w A0 l.length l) (hc0 : l.length ≤ c0) (h : vinculumref04_Right.f l = some r) :
    Calls Try.prog 36 #[.slice A0 l.length c0] w fun e w' => e = .returned (.bool r) ∧ Below w.heap.size w w' := by
  unfold vinculumref04_Right.f at h
  split at h
  rotate_left
  · exact absurd h (by simp)
  rename_i hcond
  obtain ⟨hn, hx⟩ := hcond
  obtain rfl : rightT l = r := by simpa using h
  clear h
  have HR := Lib.hid hr0
  have HX := Lib.hid hx
  clear hr0 hx
  have hlen : (0 : Int) ≤ (l.length : Int) := by omega
  go_enter Try.func36, Try.ntmps36
  go_wp2
  go_loopg [3] (l.length + 1) (fun gk v3 wr => ∃ (x : Int) (k : Nat), v3 = .int .i64 x ∧ Hid (x = (k : Int)) ∧ Hid (k ≤ l.length ∧ l.length + 1 - k ≤ gk ∧ rightTo l k = true) ∧ Drawn0 w wr)
  case atStart => exact ⟨0, 0, rfl, Lib.hid rfl, Lib.hid ⟨by omega, by omega, rfl⟩, Drawn0.refl _⟩
  case round =>
    obtain ⟨x, k, rfl, HXK, HT, ⟨m, rfl⟩⟩ := hrel
    by_cases hlt : k < l.length
    · have hltz : x < (l.length : Int) := by have := HXK.out; omega
      have hk0 : (0 : Int) ≤ x := by have := HXK.out; omega
      obtain ⟨ad, e1, hx0, hx1⟩ := at_T33 HR.out x hk0 hltz
      subst e1
      have hat : rightAt l k = (tagB (rd_T33 l x).f0 && (decide (k = 0) || Op.bytesLess (rd_T33 l ((k - 1 : Nat) : Int)).f0.toList (rd_T33 l x).f0.toList)) := by rw [HXK.out]; rfl
      have HTG := Lib.hid (ref_tag_any (rd_T33 l x).f0 (HX.out _ (by rw [HXK.out]; exact rd_mem l k hlt)))
      have hb0 := eq_true hltz
      have hb1 := eq_true hk0
      generalize htg : tagB (rd_T33 l x).f0 = tg at HTG hat
      cases tg with
      | false =>
        have hf : rightT l = false := by unfold rightT; rw [rightTo_false l k _ (by rw [hat]; rfl) hlt]; rfl
        have HF := Lib.hid hf
        clear hat htg hf
        go_wp2
        go_quiet (first | (go_at_call 55; refine (HTG.out _).mono ?_; rintro e w2 ⟨rfl, ⟨nd, rfl⟩⟩; (first | exact ⟨rfl, _, World.drewN_drewN _ _ _⟩ | exact ⟨rfl, _, Eq.trans (World.drewN_drewN _ _ _) (congrArg (World.drewN _) (Nat.add_assoc _ _ _))⟩)))
        go_wp2
        go_ret
        exact ⟨by rw [HF.out]; rfl, below_two w _ _⟩
      | true =>
        rw [Bool.true_and] at hat
        by_cases hz : k = 0
        · subst hz
          have hx00 : x = 0 := HXK.out
          have g0 : ¬ x > 0 := by omega
          have g1 := decide_eq_false (p := 0 < x) (by omega)
          have hT1 : rightTo l (0 + 1) = true := by rw [rightTo_succ, HT.out.2.2, hat]; simp
          have HT1 := Lib.hid hT1
          have hxw : IntKind.i64.wrap (x + 1) = x + 1 := by rw [i64_w, wrap64_small (by omega) (by omega)]
          have HX0 := Lib.hid hx00
          clear hat htg hT1 hx00
          go_wp2
          go_quiet (first | (go_at_call 55; refine (HTG.out _).mono ?_; rintro e w2 ⟨rfl, ⟨nd, rfl⟩⟩; (first | exact ⟨rfl, _, World.drewN_drewN _ _ _⟩ | exact ⟨rfl, _, Eq.trans (World.drewN_drewN _ _ _) (congrArg (World.drewN _) (Nat.add_assoc _ _ _))⟩)))
          go_wp2
          go_roundg (l.length)
          case measure => have := HT.out; omega
          case rel => exact ⟨x + 1, 1, rfl, Lib.hid (by have := HX0.out; omega), Lib.hid ⟨by omega, by have := HT.out; omega, HT1.out⟩, ⟨_, rfl⟩⟩
        · have hx1k : x - 1 = ((k - 1 : Nat) : Int) := by have := HXK.out; omega
          obtain ⟨y, hy⟩ : ∃ y : Int, x - 1 = y := ⟨_, rfl⟩
          have g0 : 0 < x := by have := HXK.out; omega
          have g1 := decide_eq_true g0
          have hy0 : 0 ≤ y := by omega
          have hyn : y < (l.length : Int) := by omega
          have hyb0 := eq_true hy0
          have hyb1 := eq_true hyn
          obtain ⟨ad2, e2, hy2, hy3⟩ := at_T33 HR.out y hy0 hyn
          cases e2
          have hyw : IntKind.i64.wrap (x - 1) = y := by rw [i64_w, wrap64_small (by omega) (by omega), hy]
          rw [decide_eq_false hz, Bool.false_or, ← hx1k, hy] at hat
          have HY := Lib.hid hy
          clear hy hx1k
          cases hbl : Op.bytesLess (rd_T33 l y).f0.toList (rd_T33 l x).f0.toList with
          | false =>
            have hle := leq_flip (rd_T33 l x).f0.toList (rd_T33 l y).f0.toList
            rw [hbl] at hle
            have hf : rightT l = false := by unfold rightT; rw [rightTo_false l k _ (by rw [hat, hbl]) hlt]; rfl
            have HF := Lib.hid hf
            clear hat htg hf
            go_wp2
            go_quiet (first | (go_at_call 55; refine (HTG.out _).mono ?_; rintro e w2 ⟨rfl, ⟨nd, rfl⟩⟩; (first | exact ⟨rfl, _, World.drewN_drewN _ _ _⟩ | exact ⟨rfl, _, Eq.trans (World.drewN_drewN _ _ _) (congrArg (World.drewN _) (Nat.add_assoc _ _ _))⟩)))
            go_wp2
            go_ret
            exact ⟨by rw [HF.out]; rfl, below_two w _ _⟩
          | true =>
            have hle := leq_flip (rd_T33 l x).f0.toList (rd_T33 l y).f0.toList
            rw [hbl] at hle
            have hT1 : rightTo l (k + 1) = true := by rw [rightTo_succ, HT.out.2.2, hat, hbl]; rfl
            have HT1 := Lib.hid hT1
            have hxw : IntKind.i64.wrap (x + 1) = x + 1 := by rw [i64_w, wrap64_small (by omega) (by omega)]
            clear hat htg hT1
            go_wp2
            go_quiet (first | (go_at_call 55; refine (HTG.out _).mono ?_; rintro e w2 ⟨rfl, ⟨nd, rfl⟩⟩; (first | exact ⟨rfl, _, World.drewN_drewN _ _ _⟩ | exact ⟨rfl, _, Eq.trans (World.drewN_drewN _ _ _) (congrArg (World.drewN _) (Nat.add_assoc _ _ _))⟩)))
            go_wp2
            go_roundg (l.length - k)
            case measure => have := HT.out; omega
            case rel => exact ⟨x + 1, k + 1, rfl, Lib.hid (by have := HXK.out; omega), Lib.hid ⟨by omega, by have := HT.out; omega, HT1.out⟩, ⟨_, rfl⟩⟩
    · have hke : k = l.length := by have := HT.out; omega
      have hltz : ¬ x < (l.length : Int) := by have := HXK.out; omega
      have hT := HT.out.2.2
      rw [hke] at hT
      have hr : rightT l = decide (l.length ≤ 64) := by unfold rightT; rw [hT, Bool.true_and]
      have HRR := Lib.hid hr
      clear hr hT
      by_cases h64 : l.length ≤ 64
      · have h64z : (l.length : Int) ≤ 64 := by omega
        go_wp2
        go_ret
        exact ⟨by rw [HRR.out, decide_eq_true h64]; rfl, below_one w _⟩
      · have h64z : ¬ (l.length : Int) ≤ 64 := by omega
        go_wp2
        go_ret
        exact ⟨by rw [HRR.out, decide_eq_false h64]; rfl, below_one w _⟩
end Go.Proofs.Ytgchajlfopmcjaa.P
namespace Go.Proofs.Ytgchajlfopmcjaa.P
open Go.Shelf Go.RowKit Go.Proofs.YtgchajlfopmcjaaW.PrintWords Go.Proofs.YtgchajlfopmcjaaW.PrintLast Go.Proofs.YtgchajlfopmcjaaW.PrintMore Go.Proofs.Ytgchajlfopmcjaa.BN
set_option linter.unusedVariables false
set_option linter.unusedSimpArgs false
set_option maxRecDepth 100000
set_option maxHeartbeats 4000000 in
theorem right_calls (A0 : Option Addr) (c0 : Nat) (l : List S33) (w : World) (hr0 : Kd.C k33 w A0 l.length l) (hc0 : l.length ≤ c0) (hn : l.length < 1000000000) :
    Calls Try.prog 29 #[.slice A0 l.length c0] w fun e w' => e = .returned (.bool (rightT l)) ∧ Below w.heap.size w w' := by
  have HR := Lib.hid hr0
  clear hr0
  have hlen : (0 : Int) ≤ (l.length : Int) := by omega
  go_enter Try.func29, Try.ntmps29
  go_wp2
  go_loopg [7] (l.length + 1) (fun gk v3 wr => ∃ (x : Int) (k : Nat), v3 = .int .i64 x ∧ Hid (x = (k : Int)) ∧ Hid (k ≤ l.length ∧ l.length + 1 - k ≤ gk ∧ rightTo l k = true) ∧ Hid (Below w.heap.size w wr))
  case atStart => exact ⟨0, 0, rfl, Lib.hid rfl, Lib.hid ⟨by omega, by omega, rfl⟩, Lib.hid (Below.refl _ _)⟩
  case round =>
    obtain ⟨x, k, rfl, HXK, HT, HB⟩ := hrel
    by_cases hlt : k < l.length
    · have hltz : x < (l.length : Int) := by have := HXK.out; omega
      have hk0 : (0 : Int) ≤ x := by have := HXK.out; omega
      have HC1 := Lib.hid (Kd.C_below HR.out HB.out)
      obtain ⟨ad, e1, hx0, hx1⟩ := at_T33 HC1.out x hk0 hltz
      subst e1
      have hat : rightAt l k = (tagB (rd_T33 l x).f0 && (decide (k = 0) || Op.bytesLess (rd_T33 l ((k - 1 : Nat) : Int)).f0.toList (rd_T33 l x).f0.toList)) := by rw [HXK.out]; rfl
      have HTG := Lib.hid (tag_calls (rd_T33 l x).f0)
      generalize htg : tagB (rd_T33 l x).f0 = tg at HTG hat
      cases tg with
      | false =>
        have hf : rightT l = false := by unfold rightT; rw [rightTo_false l k _ (by rw [hat]; rfl) hlt]; rfl
        have HF := Lib.hid hf
        clear hat htg hf
        go_wp2_with fail
        generalize hW : wr.alloc (.cells #[.string (rd_T33 l x).f0, .string (rd_T33 l x).f1] 33) = W1
        have hbk : W1.heap[wr.heap.size]? = some (.cells #[.string (rd_T33 l x).f0, .string (rd_T33 l x).f1] 33 (0, 0)) := by rw [← hW]; exact heap_alloc_new wr _
        have q0 : W1.cell? ⟨wr.heap.size, 0, none⟩ = some (.string (rd_T33 l x).f0) := Joins.cell_of_block hbk 0
        have hB1 : Below w.heap.size w W1 := by rw [← hW]; exact HB.out.trans ((Below.refl wr.heap.size wr).alloc (Nat.le_refl _) _ |>.mono HB.out.size)
        have HB1 := Lib.hid hB1
        clear hW hbk hB1 hx0 hx1
        have p0 := kept_cell q0
        have hmx : Try.prog.follows .mixedOrders = true := by kernel_rfl
        refine wp_region_kept hmx (by kernel_rfl) ?_
        repeat (go_big_quiet_step (exact kept_calls (HTG.out _)))
        refine wpQuiet_nil ?_
        rintro _ ⟨pw, rfl⟩
        have HB2 := Lib.hid (HB1.out.trans (pw.h.mono HB1.out.size))
        go_wp2
        go_ret
        exact ⟨by rw [HF.out]; rfl, HB2.out⟩
      | true =>
        rw [Bool.true_and] at hat
        by_cases hz : k = 0
        · subst hz
          have hx00 : x = 0 := HXK.out
          have g0 : ¬ x > 0 := by omega
          have g1 := decide_eq_false (p := 0 < x) (by omega)
          have hT1 : rightTo l (0 + 1) = true := by rw [rightTo_succ, HT.out.2.2, hat]; simp
          have HT1 := Lib.hid hT1
          have hxw : IntKind.i64.wrap (x + 1) = x + 1 := by rw [i64_w, wrap64_small (by omega) (by omega)]
          have HX0 := Lib.hid hx00
          clear hat htg hT1 hx00
          go_wp2_with fail
          generalize hW : wr.alloc (.cells #[.string (rd_T33 l x).f0, .string (rd_T33 l x).f1] 33) = W1
          have hbk : W1.heap[wr.heap.size]? = some (.cells #[.string (rd_T33 l x).f0, .string (rd_T33 l x).f1] 33 (0, 0)) := by rw [← hW]; exact heap_alloc_new wr _
          have q0 : W1.cell? ⟨wr.heap.size, 0, none⟩ = some (.string (rd_T33 l x).f0) := Joins.cell_of_block hbk 0
          have hB1 : Below w.heap.size w W1 := by rw [← hW]; exact HB.out.trans ((Below.refl wr.heap.size wr).alloc (Nat.le_refl _) _ |>.mono HB.out.size)
          have HB1 := Lib.hid hB1
          clear hW hbk hB1 hx0 hx1
          have p0 := kept_cell q0
          have hmx : Try.prog.follows .mixedOrders = true := by kernel_rfl
          refine wp_region_kept hmx (by kernel_rfl) ?_
          repeat (go_big_quiet_step (exact kept_calls (HTG.out _)))
          refine wpQuiet_nil ?_
          rintro _ ⟨pw, rfl⟩
          have HB2 := Lib.hid (HB1.out.trans (pw.h.mono HB1.out.size))
          go_wp2
          go_roundg (l.length)
          case measure => have := HT.out; omega
          case rel => exact ⟨x + 1, 1, rfl, Lib.hid (by have := HX0.out; omega), Lib.hid ⟨by omega, by have := HT.out; omega, HT1.out⟩, HB2⟩
        · have hx1k : x - 1 = ((k - 1 : Nat) : Int) := by have := HXK.out; omega
          obtain ⟨y, hy⟩ : ∃ y : Int, x - 1 = y := ⟨_, rfl⟩
          have g0 : 0 < x := by have := HXK.out; omega
          have g1 := decide_eq_true g0
          have hy0 : 0 ≤ y := by omega
          have hyn : y < (l.length : Int) := by omega
          have hyb0 := eq_true hy0
          have hyb1 := eq_true hyn
          obtain ⟨ad2, e2, hy2, hy3⟩ := at_T33 HC1.out y hy0 hyn
          cases e2
          have hyw : IntKind.i64.wrap (x - 1) = y := by rw [i64_w, wrap64_small (by omega) (by omega), hy]
          rw [decide_eq_false hz, Bool.false_or, ← hx1k, hy] at hat
          have HY := Lib.hid hy
          clear hy hx1k
          cases hbl : Op.bytesLess (rd_T33 l y).f0.toList (rd_T33 l x).f0.toList with
          | false =>
            have hle := leq_flip (rd_T33 l x).f0.toList (rd_T33 l y).f0.toList
            rw [hbl] at hle
            have hf : rightT l = false := by unfold rightT; rw [rightTo_false l k _ (by rw [hat, hbl]) hlt]; rfl
            have HF := Lib.hid hf
            clear hat htg hf
            go_wp2_with fail
            generalize hW : wr.alloc (.cells #[.string (rd_T33 l x).f0, .string (rd_T33 l x).f1] 33) = W1
            have hbk : W1.heap[wr.heap.size]? = some (.cells #[.string (rd_T33 l x).f0, .string (rd_T33 l x).f1] 33 (0, 0)) := by rw [← hW]; exact heap_alloc_new wr _
            have q0 : W1.cell? ⟨wr.heap.size, 0, none⟩ = some (.string (rd_T33 l x).f0) := Joins.cell_of_block hbk 0
            have hB1 : Below w.heap.size w W1 := by rw [← hW]; exact HB.out.trans ((Below.refl wr.heap.size wr).alloc (Nat.le_refl _) _ |>.mono HB.out.size)
            have HB1 := Lib.hid hB1
            have q1 : W1.cell? (ad.add (y.toNat * 2)) = some (.string (rd_T33 l y).f0) := by rw [← hW]; rw [Below.cell (below_alloc (Below.refl wr.heap.size wr) _) (World.block_lt_of_cell? _ _ hy2)]; exact hy2
            clear hW hbk hB1 hx0 hx1
            have p0 := kept_cell q0
            have p1 := kept_cell q1
            have hmx : Try.prog.follows .mixedOrders = true := by kernel_rfl
            refine wp_region_kept hmx (by kernel_rfl) ?_
            repeat (go_big_quiet_step (exact kept_calls (HTG.out _)))
            refine wpQuiet_nil ?_
            rintro _ ⟨pw, rfl⟩
            have HB2 := Lib.hid (HB1.out.trans (pw.h.mono HB1.out.size))
            go_wp2
            go_ret
            exact ⟨by rw [HF.out]; rfl, HB2.out⟩
          | true =>
            have hle := leq_flip (rd_T33 l x).f0.toList (rd_T33 l y).f0.toList
            rw [hbl] at hle
            have hT1 : rightTo l (k + 1) = true := by rw [rightTo_succ, HT.out.2.2, hat, hbl]; rfl
            have HT1 := Lib.hid hT1
            have hxw : IntKind.i64.wrap (x + 1) = x + 1 := by rw [i64_w, wrap64_small (by omega) (by omega)]
            clear hat htg hT1
            go_wp2_with fail
            generalize hW : wr.alloc (.cells #[.string (rd_T33 l x).f0, .string (rd_T33 l x).f1] 33) = W1
            have hbk : W1.heap[wr.heap.size]? = some (.cells #[.string (rd_T33 l x).f0, .string (rd_T33 l x).f1] 33 (0, 0)) := by rw [← hW]; exact heap_alloc_new wr _
            have q0 : W1.cell? ⟨wr.heap.size, 0, none⟩ = some (.string (rd_T33 l x).f0) := Joins.cell_of_block hbk 0
            have hB1 : Below w.heap.size w W1 := by rw [← hW]; exact HB.out.trans ((Below.refl wr.heap.size wr).alloc (Nat.le_refl _) _ |>.mono HB.out.size)
            have HB1 := Lib.hid hB1
            have q1 : W1.cell? (ad.add (y.toNat * 2)) = some (.string (rd_T33 l y).f0) := by rw [← hW]; rw [Below.cell (below_alloc (Below.refl wr.heap.size wr) _) (World.block_lt_of_cell? _ _ hy2)]; exact hy2
            clear hW hbk hB1 hx0 hx1
            have p0 := kept_cell q0
            have p1 := kept_cell q1
            have hmx : Try.prog.follows .mixedOrders = true := by kernel_rfl
            refine wp_region_kept hmx (by kernel_rfl) ?_
            repeat (go_big_quiet_step (exact kept_calls (HTG.out _)))
            refine wpQuiet_nil ?_
            rintro _ ⟨pw, rfl⟩
            have HB2 := Lib.hid (HB1.out.trans (pw.h.mono HB1.out.size))
            go_wp2
            go_roundg (l.length - k)
            case measure => have := HT.out; omega
            case rel => exact ⟨x + 1, k + 1, rfl, Lib.hid (by have := HXK.out; omega), Lib.hid ⟨by omega, by have := HT.out; omega, HT1.out⟩, HB2⟩
    · have hke : k = l.length := by have := HT.out; omega
      have hltz : ¬ x < (l.length : Int) := by have := HXK.out; omega
      have hT := HT.out.2.2
      rw [hke] at hT
      have hr : rightT l = decide (l.length ≤ 64) := by unfold rightT; rw [hT, Bool.true_and]
      have HRR := Lib.hid hr
      clear hr hT
      by_cases h64 : l.length ≤ 64
      · have h64z : (l.length : Int) ≤ 64 := by omega
        go_wp2
        go_ret
        exact ⟨by rw [HRR.out, decide_eq_true h64]; rfl, HB.out⟩
      · have h64z : ¬ (l.length : Int) ≤ 64 := by omega
        go_wp2
        go_ret
        exact ⟨by rw [HRR.out, decide_eq_false h64]; rfl, HB.out⟩
end Go.Proofs.Ytgchajlfopmcjaa.P
