/- The closures of (*sfnt.file).meet, slices.DeleteFunc at its entries, and meet itself, walked: have two tables a byte in common? Conditions: at most 1000 entries, of which no span is below 0. -/
import Derived.Test.YtgchajlfopmcjaaPx0
import Derived.Test.YtgchajlfopmcjaaShelf
import Derived.Test.YtgchajlfopmcjaaShelg
import Derived.Test.YtgchajlfopmcjaaBeNum
import Derived.Test.YtgchajlfopmcjaaBinRight
import Derived.Lib.Hide
import Derived.Lib.SlKept
import Derived.Deep.Upon
import Derived.Shelf.SlicesE.DeleteFunc
import Derived.Lib.OwnBridge
import Derived.BigQuiet
import Derived.Test.YtgchajlfopmcjaaSfRight
namespace Go.Proofs.Ytgchajlfopmcjaa.P
open Go.Shelf Go.RowKit Go.Lib Go.Sort Go.Proofs.YtgchajlfopmcjaaW.PrintWords Go.Proofs.YtgchajlfopmcjaaW.PrintLast Go.Proofs.YtgchajlfopmcjaaW.PrintMore Go.Proofs.Ytgchajlfopmcjaa.BN
set_option linter.unusedVariables false
set_option linter.unusedSimpArgs false
set_option maxRecDepth 100000
structure E83 where
  f0 : Int
  f1 : Int
structure E85 where
  f0 : E83
  f1 : ByteArray
  f2 : Int
def zE85 : E85 := ⟨⟨0, 0⟩, ⟨#[]⟩, 0⟩
instance : Inhabited E85 := ⟨zE85⟩
/-- An entry's four cells. -/
def encE (x : E85) : List Value := [.int .i64 x.f0.f0, .int .i64 x.f0.f1, .string x.f1, .int .i64 x.f2]
theorem none_pred (W : World) (x : E85) :
    Calls Try.prog 50 #[.agg (encE x).toArray] W fun e w' => e = .returned (.bool (x.f0.f1 == 0)) ∧ Below W.heap.size W w' := by
  show Calls Try.prog 50 #[.agg #[.int .i64 x.f0.f0, .int .i64 x.f0.f1, .string x.f1, .int .i64 x.f2]] W _
  go_enter Try.func50, Try.ntmps50
  go_wp2
  go_ret
  exact ⟨rfl, (Below.refl _ _).alloc (Nat.le_refl _) _⟩
def cfE (x y : E85) : Int := Lib.compareInt x.f0.f0 y.f0.f0
set_option maxHeartbeats 1000000 in
theorem cmp_closure (x y : E85) (W : World) : Calls Try.prog 52 #[.agg (encE x).toArray, .agg (encE y).toArray] W fun e w' => e = .returned (.int .i64 (cfE x y)) ∧ ∃ q os', w' = grow (W.drewN q) os' := by
  have hcon := fun W' => Try.cmp_Compare_int x.f0.f0 y.f0.f0 W'
  show Calls Try.prog 52 #[.agg #[.int .i64 x.f0.f0, .int .i64 x.f0.f1, .string x.f1, .int .i64 x.f2], .agg #[.int .i64 y.f0.f0, .int .i64 y.f0.f1, .string y.f1, .int .i64 y.f2]] W _
  unfold cfE
  generalize Lib.compareInt x.f0.f0 y.f0.f0 = r at hcon ⊢
  go_enter Try.func52, Try.ntmps52
  go_wp2_with (go_at_call 53; refine (hcon _).mono ?_; rintro e w' ⟨rfl, rfl⟩)
  go_ret
  exact ⟨rfl, 0, _, by rw [alloc_eq_grow, alloc_eq_grow, grow_grow]; rfl⟩
theorem cmp_lays (blk off size : Nat) (w : World) : CmpLays Try.prog 52 #[] encE 4 cfE blk off size w := fun _ _ _ _ x y => cmp_closure x y _
theorem lt_cf (x y : E85) : ltOf cfE x y = decide (x.f0.f0 < y.f0.f0) := by
  unfold ltOf cfE Lib.compareInt
  by_cases h1 : x.f0.f0 < y.f0.f0
  · simp [h1]
  · by_cases h2 : y.f0.f0 < x.f0.f0 <;> simp [h1, h2]
theorem swo_cf : SWO (ltOf cfE) where
  irrefl x := by rw [lt_cf]; simp
  trans x y z h1 h2 := by rw [lt_cf] at *; simp at *; omega
  ntrans x y z h1 h2 := by rw [lt_cf] at *; simp at *; omega
/-! ### the row of entries -/
theorem holds_set {w : World} {blk off : Nat} {F : Array Value} (h : Holds id w blk off F) (i : Nat) (hi : i < F.size) (v : Value) : Holds id (w.setCell ⟨blk, off + i, none⟩ v) blk off (F.setIfInBounds i v) := by
  have e := putRow_set id w blk off F i v hi
  rw [putRow_self id w blk off F h] at e
  rw [show v = id v from rfl, e]
  exact holds_putRow id w blk off F _ h (by simp)
theorem flat_set (d : Array E85) (i : Nat) (hi : i < d.size) (u : E85) :
    ((((flatK encE 4 d).setIfInBounds (i * 4) (.int .i64 u.f0.f0)).setIfInBounds (i * 4 + 1) (.int .i64 u.f0.f1)).setIfInBounds (i * 4 + 2) (.string u.f1)).setIfInBounds (i * 4 + 3) (.int .i64 u.f2) = flatK encE 4 (d.setIfInBounds i u) := by
  have e : ((((flatK encE 4 d).setIfInBounds (i * 4) (.int .i64 u.f0.f0)).setIfInBounds (i * 4 + 1) (.int .i64 u.f0.f1)).setIfInBounds (i * 4 + 2) (.string u.f1)).setIfInBounds (i * 4 + 3) (.int .i64 u.f2) = setMany (flatK encE 4 d) (i * 4) (encE u) := rfl
  rw [e]
  refine ext_get! (by simp) fun t ht => ?_
  have ht' : t < d.size * 4 := by simpa using ht
  rw [get_setMany _ _ _ t (by simpa using ht'), get_flatK _ _ _ t ht', get_flatK _ _ _ t (by simpa using ht')]
  have hl : (encE u).length = 4 := rfl
  rw [hl]
  by_cases a : t / 4 = i
  · rw [if_pos (by omega), a, getElem!_set_same d i u hi]
    rw [show t - i * 4 = t % 4 by omega]
  · rw [if_neg (by omega), getElem!_set_other d i (t / 4) u (by omega)]
theorem holdsK_set {w : World} {blk : Nat} {d : Array E85} (h : HoldsK encE 4 w blk 0 d) (i : Nat) (hi : i < d.size) (u : E85) :
    HoldsK encE 4 ((((w.setCell ⟨blk, i * 4, none⟩ (.int .i64 u.f0.f0)).setCell ⟨blk, i * 4 + 1, none⟩ (.int .i64 u.f0.f1)).setCell ⟨blk, i * 4 + 2, none⟩ (.string u.f1)).setCell ⟨blk, i * 4 + 3, none⟩ (.int .i64 u.f2)) blk 0 (d.setIfInBounds i u) := by
  unfold HoldsK at *
  rw [← flat_set d i hi u]
  have h0 := holds_set h (i * 4) (by simp; omega) (.int .i64 u.f0.f0)
  have h1 := holds_set h0 (i * 4 + 1) (by simp; omega) (.int .i64 u.f0.f1)
  have h2 := holds_set h1 (i * 4 + 2) (by simp; omega) (.string u.f1)
  have h3 := holds_set h2 (i * 4 + 3) (by simp; omega) (.int .i64 u.f2)
  simpa [Nat.zero_add] using h3
theorem holdsK_block {w w1 : World} {blk : Nat} {d : Array E85} (h : HoldsK encE 4 w blk 0 d) (hb : w1.heap[blk]? = w.heap[blk]?) : HoldsK encE 4 w1 blk 0 d := fun t ht =>
  ⟨(World.cell?_of_block (a := ⟨blk, 0 + t, none⟩) hb).trans (h t ht).1, (World.frozen?_of_block (a := ⟨blk, 0 + t, none⟩) hb).trans (h t ht).2⟩
theorem holdsK_at {w : World} {blk : Nat} {d : Array E85} (h : HoldsK encE 4 w blk 0 d) (j : Nat) (hj : j < d.size) :
    (w.cell? ⟨blk, j * 4, none⟩ = some (.int .i64 d[j]!.f0.f0) ∧ w.cell? ⟨blk, j * 4 + 1, none⟩ = some (.int .i64 d[j]!.f0.f1) ∧ w.cell? ⟨blk, j * 4 + 2, none⟩ = some (.string d[j]!.f1) ∧ w.cell? ⟨blk, j * 4 + 3, none⟩ = some (.int .i64 d[j]!.f2)) ∧
    (w.frozen? ⟨blk, j * 4, none⟩ = false ∧ w.frozen? ⟨blk, j * 4 + 1, none⟩ = false ∧ w.frozen? ⟨blk, j * 4 + 2, none⟩ = false ∧ w.frozen? ⟨blk, j * 4 + 3, none⟩ = false) := by
  have c := fun k hk => h.cell (c := k) hj hk
  have c0 := c 0 (by omega)
  have c1 := c 1 (by omega)
  have c2 := c 2 (by omega)
  have c3 := c 3 (by omega)
  simp only [Nat.zero_add, Nat.add_zero] at c0 c1 c2 c3
  exact ⟨⟨c0.1, c1.1, c2.1, c3.1⟩, c0.2, c1.2, c2.2, c3.2⟩
theorem grown_set {w w1 : World} {blk : Nat} (h : w.grownBy w1 (some blk)) (o : Nat) (v : Value) : w.grownBy (w1.setCell ⟨blk, o, none⟩ v) (some blk) :=
  ⟨h.os, h.tape, h.output, by rw [World.size_setCell]; exact h.size, fun k hk hne => by
    rw [Below.heap_setCell w1 ⟨blk, o, none⟩ v k (fun e => hne (by rw [e]))]; exact h.block k hk hne⟩
theorem grown_below {w w1 w2 : World} {blk : Nat} (h : w.grownBy w1 (some blk)) (hb : Below w1.heap.size w1 w2) : w.grownBy w2 (some blk) :=
  ⟨hb.os.trans h.os, hb.tape.trans h.tape, hb.output.trans h.output, Nat.le_trans h.size hb.size, fun k hk hne => (hb.block k (Nat.lt_of_lt_of_le hk h.size)).trans (h.block k hk hne)⟩
theorem grown_sets {w : World} {blk : Nat} : ∀ (vs : List Value) (o : Nat) {w1 : World}, w.grownBy w1 (some blk) → w.grownBy (w1.setCells blk o vs) (some blk)
  | [], _, _, h => h
  | v :: r, o, _, h => grown_sets r (o + 1) (grown_set h o v)
/-- slices.DeleteFunc, at a row of the call's own. -/
def keepE (x : E85) : Bool := !(x.f0.f1 == 0)
theorem idx_spec (d : Array E85) : (Lib.idxBy (fun _ (y : E85) => (y.f0.f1 == 0)) (d.toList.take d.size) default = -1 ∧ ∀ j, j < d.size → keepE d[j]! = true) ∨
    ∃ k, k < d.size ∧ Lib.idxBy (fun _ (y : E85) => (y.f0.f1 == 0)) (d.toList.take d.size) default = (k : Int) ∧ keepE d[k]! = false ∧ ∀ j, j < k → keepE d[j]! = true := by
  have tl : ∀ j, j < d.size → d.toList[j]! = d[j]! := fun j hj => by rw [getElem!_pos d j hj, getElem!_pos d.toList j (by simpa using hj)]; simp
  rw [List.take_of_length_le (by simp)]
  rcases idxByFrom_spec (fun _ (y : E85) => (y.f0.f1 == 0)) default d.toList 0 with ⟨e1, hall⟩ | ⟨k0, hk0, e1, ht, hall⟩
  · left
    refine ⟨e1, fun j hj => ?_⟩
    have := hall j (by simpa using hj)
    rw [tl j hj] at this
    unfold keepE; rw [this]; rfl
  · right
    have hk : k0 < d.size := by simpa using hk0
    refine ⟨k0, hk, by unfold Lib.idxBy; rw [e1]; simp, ?_, fun j hj => ?_⟩
    · rw [tl k0 hk] at ht
      unfold keepE; rw [ht]; rfl
    · have := hall j hj
      rw [tl j (by omega)] at this
      unfold keepE; rw [this]; rfl
theorem below_cells {w w2 : World} {C : Array Value} {T : TypeId} (hb : Below (w.alloc (.cells C T)).heap.size (w.alloc (.cells C T)) w2) :
    (∀ i v, C[i]? = some v → w2.cell? ⟨w.heap.size, i, none⟩ = some v) ∧ (∀ b o, b < w.heap.size → w2.cell? ⟨b, o, none⟩ = w.cell? ⟨b, o, none⟩) ∧ (∀ b o, b < w.heap.size → w2.frozen? ⟨b, o, none⟩ = w.frozen? ⟨b, o, none⟩) := by
  have hs : (w.alloc (.cells C T)).heap.size = w.heap.size + 1 := by simp
  refine ⟨fun i v hi => ?_, fun b o h => ?_, fun b o h => ?_⟩
  · rw [hb.cell (p := ⟨w.heap.size, i, none⟩) (by rw [hs]; exact Nat.lt_succ_self _)]
    simp [hi]
  · rw [hb.cell (p := ⟨b, o, none⟩) (by rw [hs]; exact Nat.lt_succ_of_lt h)]
    exact Below.cell (below_alloc (Below.refl w.heap.size w) _) h
  · rw [hb.frozen (p := ⟨b, o, none⟩) (by rw [hs]; exact Nat.lt_succ_of_lt h)]
    exact Below.frozen (below_alloc (Below.refl w.heap.size w) _) h
theorem zeroE : ∀ w, (zeroValue 85).run Try.prog w = .ok (.agg #[.int .i64 0, .int .i64 0, .string ⟨#[]⟩, .int .i64 0]) w := fun w => by kernel_rfl
theorem clear_entries (blk i n c : Nat) (hn : 0 < n) (w : World) (hc : ∀ t, t < n * 4 → (w.cell? ⟨blk, i * 4 + t, none⟩).isSome = true) (hf : ∀ t, t < n * 4 → w.frozen? ⟨blk, i * 4 + t, none⟩ = false) :
    ∃ Z : List Value, Z.length = n * 4 ∧ (Builtin.clear_ #[47] 0 #[.slice (some ⟨blk, i * 4, none⟩) n c]).run Try.prog w = .ok (.tuple #[]) (w.setCells blk (i * 4) Z) := by
  refine ⟨(Builtin.zeroCells (Value.agg #[.int .i64 0, .int .i64 0, .string ⟨#[]⟩, .int .i64 0]).cells n).toList, by simp [Builtin.zeroCells, Value.cells], ?_⟩
  have hst := run_storeCells_cells (P := Try.prog) blk (i * 4) (Builtin.zeroCells (Value.agg #[.int .i64 0, .int .i64 0, .string ⟨#[]⟩, .int .i64 0]).cells n).toList 0 w (fun j hj => hc j (by simpa [Builtin.zeroCells, Value.cells] using hj)) (fun j hj => hf j (by simpa [Builtin.zeroCells, Value.cells] using hj)) (by
    intro v hv
    simp only [Builtin.zeroCells, Value.cells, Array.toList_map, List.mem_map, Array.toList_range, List.mem_range] at hv
    obtain ⟨k, hk, rfl⟩ := hv
    have h4 : k % 4 < 4 := Nat.mod_lt _ (by decide)
    show (#[Value.int .i64 0, Value.int .i64 0, Value.string ⟨#[]⟩, Value.int .i64 0][k % 4]!).oneCell' = true
    generalize k % 4 = m at h4
    obtain rfl | rfl | rfl | rfl : m = 0 ∨ m = 1 ∨ m = 2 ∨ m = 3 := by omega
    all_goals rfl)
  simp only [Nat.add_zero] at hst
  obtain ⟨m, rfl⟩ : ∃ m, n = m + 1 := ⟨n - 1, by omega⟩
  simp [Builtin.clear_, run_underlying Try.underlying47, zeroE, hst]
set_option maxHeartbeats 4000000 in
theorem delete_calls (blk cap : Nat) (d : Array E85) (w : World) (hH : HoldsK encE 4 w blk 0 d) (hblk : blk < w.heap.size) (hn : d.size < 1000000000) (hcap : d.size ≤ cap) :
    Calls Try.prog 48 #[.slice (some ⟨blk, 0, none⟩) d.size cap, .func (.func 50) #[] #[]] w fun e w' =>
      ∃ d' : Array E85, d'.toList = d.toList.filter keepE ∧ e = .returned (.slice (some ⟨blk, 0, none⟩) d'.size cap) ∧ HoldsK encE 4 w' blk 0 d' ∧ w.grownBy w' (some blk) := by
  have eg : ∀ args w, (callFunc 50 args).run Try.prog w = .ok (.enter 50 args) w := enters_of Try.func50 (by kernel_rfl) rfl
  have hI := AnyQ.slices_IndexFunc Try.idxE 4 Try.isAgg85 Try.sizeOf85 encE (fun _ => rfl) (fun x => (x.f0.f1 == 0)) 50 #[] eg blk 0 d.size cap d.toList w (fun W x hb => (none_pred W x).mono fun _ _ ⟨he, h⟩ => ⟨he, hb.trans (h.mono hb.size)⟩) (by simp) (by omega) hblk (fun j hj i v hi => by
      have hj' : j < d.size := by simpa using hj
      have e1 : d.toList[j]! = d[j]! := by rw [getElem!_pos d j hj', getElem!_pos d.toList j hj]; simp
      rw [e1] at hi
      obtain ⟨⟨c0, c1, c2, c3⟩, _⟩ := holdsK_at hH j hj'
      rw [Nat.zero_add]
      match i, hi with
      | 0, hi => simp [encE] at hi; rw [← hi]; exact c0
      | 1, hi => simp [encE] at hi; rw [← hi]; exact c1
      | 2, hi => simp [encE] at hi; rw [← hi]; exact c2
      | 3, hi => simp [encE] at hi; rw [← hi]; exact c3
      | i + 4, hi => simp [encE] at hi)
  change Calls Try.prog 67 _ _ _ at hI
  have HH := Lib.hid hH
  have hw0 := Nat.lt_of_le_of_lt (Nat.zero_le _) hblk
  clear hH
  rcases idx_spec d with ⟨e1, hall⟩ | ⟨k0, hk0, e1, ht, hall⟩
  · rw [e1] at hI
    have HI := Lib.hid hI
    have hf : d.toList.filter keepE = d.toList := by
      rw [List.filter_eq_self]
      intro a ha
      obtain ⟨j, hj, rfl⟩ := List.getElem_of_mem ha
      have := hall j (by simpa using hj)
      rw [getElem!_pos d j (by simpa using hj)] at this
      simpa using this
    have HF := Lib.hid hf
    clear hI e1 hall hf
    go_enter Try.func48, Try.ntmps48
    go_wp2_with (go_at_call 67; refine HI.out.mono ?_; rintro e w1 ⟨rfl, hb⟩)
    go_ret
    exact ⟨d, HF.out.symm, rfl, holdsK_block HH.out (hb.block _ hblk), grown_below ⟨rfl, rfl, rfl, Nat.le_refl _, fun _ _ _ => rfl⟩ hb⟩
  · rw [e1] at hI
    have HI := Lib.hid hI
    have hne : ¬ (k0 : Int) = -1 := by omega
    obtain ⟨kp, HK⟩ : ∃ kp : Nat → Bool, Hid (kp = fun j => keepE d[j]!) := ⟨_, Lib.hid rfl⟩
    have hst : KeptInv kp d (k0 + 1) k0 d := KeptInv.start (fun j hj => by rw [HK.out]; exact hall j hj) (by rw [HK.out]; exact ht)
    have HS := Lib.hid hst
    clear hI e1 hall hst ht
    go_enter Try.func48, Try.ntmps48
    go_wp2_with (go_at_call 67; refine HI.out.mono ?_; rintro e w1 ⟨rfl, hb⟩)
    go_loopg [5, 6, 7] d.size (fun gg s5 s6 _ wr => ∃ (x y : Int) (i j : Nat) (dk : Array E85), s5 = .int .i64 x ∧ s6 = .int .i64 y ∧ Hid (x = i ∧ y = j) ∧ Hid (j ≤ d.size ∧ d.size - j ≤ gg) ∧ Hid (HoldsK encE 4 wr blk 0 dk) ∧ Hid (KeptInv kp d j i dk) ∧ Hid (w.grownBy wr (some blk)))
    case atStart => exact ⟨_, _, k0, k0 + 1, d, rfl, rfl, Lib.hid ⟨rfl, by omega⟩, Lib.hid ⟨by omega, by omega⟩, Lib.hid (holdsK_block HH.out (hb.block _ hblk)), HS, Lib.hid (grown_below ⟨rfl, rfl, rfl, Nat.le_refl _, fun _ _ _ => rfl⟩ hb)⟩
    case round =>
      obtain ⟨x, y, i, j, dk, rfl, rfl, HXY, HT, HHK, HKI, HG⟩ := hrel
      have hds := HKI.out.size
      have hij := HKI.out.lt
      by_cases hlt : j < d.size
      · obtain ⟨rfl, rfl⟩ := HXY.out
        have hltz : (j : Int) < (d.size : Int) := by omega
        obtain ⟨⟨a0, a1, a2, a3⟩, _⟩ := holdsK_at HHK.out j (by omega)
        have hu : dk[j]! = d[j]! := HKI.out.high j (by omega)
        rw [hu] at a0 a1 a2 a3
        have hbw : blk < wr.heap.size := Nat.lt_of_lt_of_le hblk HG.out.size
        have hcall := fun W => none_pred W d[j]!
        have hkp : kp j = !(d[j]!.f0.f1 == 0) := by rw [HK.out]; rfl
        clear hu
        generalize hgu : d[j]! = u at a0 a1 a2 a3 hcall hkp
        have HGU := Lib.hid hgu
        clear hgu
        change ∀ W, Calls Try.prog _ #[.agg #[.int .i64 u.f0.f0, .int .i64 u.f0.f1, .string u.f1, .int .i64 u.f2]] W _ at hcall
        generalize (u.f0.f1 == 0) = q at hcall hkp
        have HCA := Lib.hid hcall
        clear hcall
        cases q with
        | true =>
          have HKP := Lib.hid hkp
          clear hkp
          go_wp2_with (go_at_call 50; refine (HCA.out _).mono ?_; rintro e w2 ⟨rfl, hb2⟩)
          go_roundg (d.size - (j + 1))
          case measure => have := HT.out; omega
          case rel => exact ⟨_, _, i, j + 1, dk, rfl, rfl, Lib.hid ⟨rfl, by omega⟩, Lib.hid ⟨by omega, Nat.le_refl _⟩, Lib.hid (holdsK_block HHK.out ((hb2.block blk (by simp; omega)).trans ((below_alloc (Below.refl wr.heap.size wr) _).block blk hbw))), Lib.hid (KeptInv.skip HKI.out (by rw [HKP.out]; rfl)), Lib.hid (grown_below HG.out ((below_alloc (Below.refl wr.heap.size wr) _).trans (hb2.mono (by simp))))⟩
        | false =>
          have HKP := Lib.hid hkp
          clear hkp
          obtain ⟨⟨t0, t1, t2, t3⟩, f0, f1, f2, f3⟩ := holdsK_at HHK.out i (by omega)
          generalize dk[i]! = old at t0 t1 t2 t3
          have hbn : ¬ (blk = wr.heap.size) := by omega
          go_wp2_with (go_at_call 50; refine (HCA.out _).mono ?_; rintro e w2 ⟨rfl, hb2⟩; have q0 := (below_cells hb2).1 0 _ rfl; have q1 := (below_cells hb2).1 1 _ rfl; have q2 := (below_cells hb2).1 2 _ rfl; have q3 := (below_cells hb2).1 3 _ rfl; have s0 := ((below_cells hb2).2.1 blk (i * 4) hbw).trans t0; have s1 := ((below_cells hb2).2.1 blk (i * 4 + 1) hbw).trans t1; have s2 := ((below_cells hb2).2.1 blk (i * 4 + 2) hbw).trans t2; have s3 := ((below_cells hb2).2.1 blk (i * 4 + 3) hbw).trans t3; have g0 := ((below_cells hb2).2.2 blk (i * 4) hbw).trans f0; have g1 := ((below_cells hb2).2.2 blk (i * 4 + 1) hbw).trans f1; have g2 := ((below_cells hb2).2.2 blk (i * 4 + 2) hbw).trans f2; have g3 := ((below_cells hb2).2.2 blk (i * 4 + 3) hbw).trans f3)
          go_roundg (d.size - (j + 1))
          case measure => have := HT.out; omega
          case rel =>
            have hH2 : HoldsK encE 4 w2 blk 0 dk := holdsK_block HHK.out ((hb2.block blk (by simp; omega)).trans ((below_alloc (Below.refl wr.heap.size wr) _).block blk hbw))
            have hg2 : w.grownBy w2 (some blk) := grown_below HG.out ((below_alloc (Below.refl wr.heap.size wr) _).trans (hb2.mono (by simp)))
            exact ⟨_, _, i + 1, j + 1, dk.setIfInBounds i u, rfl, rfl, Lib.hid ⟨by omega, by omega⟩, Lib.hid ⟨by omega, Nat.le_refl _⟩, Lib.hid (holdsK_set hH2 i (by omega) u), Lib.hid (by rw [← HGU.out]; exact KeptInv.keep HKI.out hlt (by rw [HKP.out]; rfl)), Lib.hid (grown_set (grown_set (grown_set (grown_set hg2 _ _) _ _) _ _) _ _)⟩
      · obtain ⟨rfl, rfl⟩ := HXY.out
        have hje : j = d.size := by have := HT.out; omega
        have hltz : ¬ (j : Int) < (d.size : Int) := by omega
        have hi0 : (0 : Int) ≤ (i : Int) := by omega
        have hi1 : (i : Int) ≤ (cap : Int) := by omega
        have hi2 : (i : Int) ≤ (d.size : Int) := by omega
        have hic : ¬ cap = i := by omega
        obtain ⟨Z, hZ, hrun⟩ := clear_entries blk i (d.size - i) (cap - i) (by omega) wr (fun t ht => by
          have h := (HHK.out (i * 4 + t) (by simp; omega)).1
          rw [Nat.zero_add] at h
          rw [h]; rfl) (fun t ht => by
          have h := (HHK.out (i * 4 + t) (by simp; omega)).2
          rwa [Nat.zero_add] at h)
        have HZ := Lib.hid hZ
        clear hZ
        go_wp2
        go_ret
        refine ⟨(keptUpTo kp d d.size).toArray, ?_, ?_, ?_, ?_⟩
        · rw [HK.out]; exact keptUpTo_filter keepE d
        · have := HKI.out.len; rw [hje] at this; simp [this]
        · have hlen : (keptUpTo kp d d.size).length = i := by have := HKI.out.len; rwa [hje] at this
          intro t ht
          have ht4 : t < i * 4 := by simpa [hlen] using ht
          have hq : t / 4 < i := by omega
          have h := HHK.out t (by simp; omega)
          refine ⟨?_, ?_⟩
          · rw [World.cell?_setCells_out blk Z (i * 4) wr ⟨blk, 0 + t, none⟩ (fun _ _ => .inl (by simpa using ht4)), h.1]
            rw [get_flatK _ _ _ _ (by omega), get_flatK _ _ _ _ (by simp [hlen]; omega)]
            have hl := HKI.out.low (t / 4) hq
            rw [hje] at hl
            have e2 : (keptUpTo kp d d.size).toArray[t / 4]! = dk[t / 4]! := by
              rw [getElem!_pos (keptUpTo kp d d.size).toArray (t / 4) (by simp [hlen]; exact hq)]
              have := (List.getElem?_eq_some_iff.1 hl).2
              simpa using this
            rw [e2]
          · rw [World.frozen?_setCells]; exact h.2
        · exact grown_sets Z (i * 4) HG.out
end Go.Proofs.Ytgchajlfopmcjaa.P
namespace Go.Proofs.Ytgchajlfopmcjaa.P
open Go.Shelf Go.RowKit Go.Lib Go.Sort Go.Proofs.YtgchajlfopmcjaaW.PrintWords Go.Proofs.YtgchajlfopmcjaaW.PrintLast Go.Proofs.YtgchajlfopmcjaaW.PrintMore Go.Proofs.Ytgchajlfopmcjaa.BN
set_option linter.unusedVariables false
set_option linter.unusedSimpArgs false
def overE (a b : E85) : Bool := decide (a.f0.f0 < b.f0.f0 + b.f0.f1) && decide (b.f0.f0 < a.f0.f0 + a.f0.f1)
/-- Do two of them have a byte in common? -/
def meetB (l : List E85) : Bool := !decide ((l.filter keepE).Pairwise fun a b => overE a b = false)
theorem over_symm {a b : E85} (h : overE a b = false) : overE b a = false := by unfold overE at *; rw [Bool.and_comm]; exact h
theorem meet_perm {l d : List E85} (h : d.Perm (l.filter keepE)) : meetB l = !decide (d.Pairwise fun a b => overE a b = false) := by
  unfold meetB
  congr 1
  exact decide_eq_decide.2 (List.Perm.pairwise_iff (fun h => over_symm h) h.symm)
theorem bang (d : Array E85) (i : Nat) (h : i < d.size) : d[i]! = d.toList[i]'(by simpa using h) := by rw [getElem!_pos d i h]; simp
/-- A neighbour that begins ahead of the end of the one ahead of it. -/
def adjE (d : Array E85) (i : Nat) : Bool := decide (0 < i) && decide (d[i]!.f0.f0 < d[i - 1]!.f0.f0 + d[i - 1]!.f0.f1)
theorem adj_meets {d : Array E85} (hs : SortedIn (ltOf cfE) 0 d.size d) (hp : ∀ x ∈ d.toList, 0 < x.f0.f1) (i : Nat) (hi : i < d.size) (h : adjE d i = true) : (!decide (d.toList.Pairwise fun a b => overE a b = false)) = true := by
  unfold adjE at h
  simp only [Bool.and_eq_true, decide_eq_true_eq] at h
  obtain ⟨h0, h1⟩ := h
  rw [Bool.not_eq_true', decide_eq_false_iff_not]
  intro hpw
  have := (List.pairwise_iff_getElem.1 hpw) (i - 1) i (by simp; omega) (by simpa using hi) (by omega)
  rw [← bang d (i - 1) (by omega), ← bang d i hi] at this
  have hl := hs (i - 1) i (Nat.zero_le _) (by omega) hi
  rw [lt_cf] at hl
  have hm := hp d[i]! (by rw [bang d i hi]; exact List.getElem_mem _)
  unfold overE at this
  simp at hl this
  have := this (by omega)
  omega
theorem none_meets {d : Array E85} (hs : SortedIn (ltOf cfE) 0 d.size d) (h : ∀ i, i < d.size → adjE d i = false) : (!decide (d.toList.Pairwise fun a b => overE a b = false)) = false := by
  rw [Bool.not_eq_false', decide_eq_true_eq, List.pairwise_iff_getElem]
  intro i j hi hj hij
  have hi' : i < d.size := by simpa using hi
  have hj' : j < d.size := by simpa using hj
  rw [← bang d i hi', ← bang d j hj']
  have ha := h (i + 1) (by omega)
  unfold adjE at ha
  simp at ha
  have hl : d[i + 1]!.f0.f0 ≤ d[j]!.f0.f0 := by
    rcases Nat.lt_or_ge (i + 1) j with hh | hh
    · have := hs (i + 1) j (Nat.zero_le _) hh hj'
      rw [lt_cf] at this
      simpa using this
    · rw [show j = i + 1 by omega]; exact Int.le_refl _
  unfold overE
  simp
  intro _

  omega
end Go.Proofs.Ytgchajlfopmcjaa.P
namespace Go.Proofs.Ytgchajlfopmcjaa.P
open Go.Shelf Go.RowKit Go.Lib Go.Sort Go.Proofs.YtgchajlfopmcjaaW.PrintWords Go.Proofs.YtgchajlfopmcjaaW.PrintLast Go.Proofs.YtgchajlfopmcjaaW.PrintMore Go.Proofs.Ytgchajlfopmcjaa.BN
set_option linter.unusedVariables false
set_option linter.unusedSimpArgs false
set_option maxRecDepth 100000
def cellsE (l : List E85) : List Value := l.flatMap encE
theorem cellsE_len (l : List E85) : (cellsE l).length = l.length * 4 := by
  induction l with
  | nil => rfl
  | cons x l ih => rw [cellsE, List.flatMap_cons, List.length_append]; rw [cellsE] at ih; rw [ih, List.length_cons]; show 4 + _ = _; omega
theorem cellsE_at : ∀ (l : List E85) (j c : Nat), j < l.length → c < 4 → (cellsE l)[j * 4 + c]? = (encE (l.getD j zE85))[c]?
  | [], j, c, h, _ => absurd h (by simp)
  | x :: l, 0, c, h, hc => by
    rw [cellsE, List.flatMap_cons, List.getElem?_append_left (by show _ < 4; omega)]
    simp
  | x :: l, j + 1, c, h, hc => by
    rw [cellsE, List.flatMap_cons, List.getElem?_append_right (by show 4 ≤ _; omega)]
    have := cellsE_at l j c (by simpa using h) hc
    rw [cellsE] at this
    rw [show (j + 1) * 4 + c - (encE x).length = j * 4 + c by show _ - 4 = _; omega, this]
    simp
/-- The file that a pointer of the call's own leads to. -/
def FileAt (B : Nat) (w : World) (g : Nat) (s : ByteArray) (l : List E85) : Prop := B ≤ g ∧ ∃ v, w.heap[g]? = some (.cells #[.string s, v] 49 (0, 0)) ∧ w.ownsRow B 85 4 v l.length (cellsE l)
theorem holds_of_own {w : World} {B g cap : Nat} {l : List E85} (h : w.ownsRow B 85 4 (.slice (some ⟨g, 0, none⟩) l.length cap) l.length (cellsE l)) : HoldsK encE 4 w g 0 l.toArray := by
  intro t ht
  have ht' : t < l.length * 4 := by simpa using ht
  rw [get_flatK _ _ _ _ (by simpa using ht'), Nat.zero_add]
  refine ⟨?_, World.ownsRow.frozenAt h t⟩
  rw [World.ownsRow.cellAt h t ht']
  have e := cellsE_at l (t / 4) (t % 4) (by omega) (Nat.mod_lt _ (by decide))
  rw [show t / 4 * 4 + t % 4 = t by omega] at e
  rw [e]
  have e2 : l.toArray[t / 4]! = l.getD (t / 4) zE85 := by
    rw [getElem!_pos l.toArray (t / 4) (by simp; omega), List.getD_eq_getElem?_getD, List.getElem?_eq_getElem (by omega)]; simp
  rw [e2]
  have h4 : t % 4 < (encE (l.getD (t / 4) zE85)).length := Nat.mod_lt _ (by decide)
  rw [List.getElem?_eq_getElem h4]
  show some _ = some ((encE (l.getD (t / 4) zE85))[t % 4]!)
  rw [getElem!_pos (encE (l.getD (t / 4) zE85)) (t % 4) h4]
theorem below_grow' {B : Nat} {w W : World} (h : Below B w W) (hB : B ≤ W.heap.size) (os : Array Obj) : Below B w (grow W os) :=
  ⟨h.os, h.tape, h.output, by simp only [grow, Array.size_append]; have := h.size; omega, fun k hk => by
    show (W.heap ++ os)[k]? = _
    rw [Array.getElem?_append_left (by omega)]; exact h.block k hk⟩
theorem del_nil (w : World) : Calls Try.prog 48 #[.slice none 0 0, .func (.func 50) #[] #[]] w fun e w' => e = .returned (.slice none 0 0) ∧ w' = w := by
  have hi : Calls Try.prog 67 #[.slice none 0 0, .func (.func 50) #[] #[]] w fun e w' => e = .returned (.int .i64 (-1)) ∧ w' = w := by
    go_enter Try.func67, Try.ntmps67
    go_wp2
    refine wp_loop_rounds 1 ?_
    rw [rounds_succ]
    go_wp2
    go_ret
    exact ⟨rfl, rfl⟩
  go_enter Try.func48, Try.ntmps48
  go_wp2_with (go_at_call 67; refine hi.mono ?_; rintro e w1 ⟨rfl, rfl⟩)
  go_ret
  exact ⟨rfl, rfl⟩
theorem span_end (a m : Int) (w : World) (h0 : 0 ≤ a) (h1 : a ≤ 1000000000000) (h2 : 0 ≤ m) (h3 : m ≤ 1000000000000) : Calls Try.prog 47 #[.agg #[.int .i64 a, .int .i64 m]] w fun e w' => e = .returned (.int .i64 (a + m)) ∧ Below w.heap.size w w' := by
  go_enter Try.func47, Try.ntmps47
  go_wp2
  go_ret
  exact ⟨rfl, (Below.refl _ _).alloc (Nat.le_refl _) _⟩
def smallE (x : E85) : Prop := 0 ≤ x.f0.f0 ∧ x.f0.f0 ≤ 4294967296 ∧ 0 ≤ x.f0.f1 ∧ x.f0.f1 ≤ 4294967296
set_option maxHeartbeats 4000000 in
theorem meet_nil (B g : Nat) (s : ByteArray) (w : World) (hg : w.heap[g]? = some (.cells #[.string s, .slice none 0 0] 49 (0, 0))) :
    Calls Try.prog 23 #[.pointer (some ⟨g, 0, none⟩)] w fun e w' => e = .returned (.bool false) ∧ Below w.heap.size w w' := by
  have hc : w.cell? ⟨g, 1, none⟩ = some (.slice none 0 0) := by rw [blk_cell hg]; rfl
  have h1 := fun W => AnyE.slices_Clone_nil Try.cloneE 0 0 W
  have h3 := fun W => AnyF.slices_SortFunc_none Try.sortE none 0 (.func (.func 52) #[] #[]) W
  change ∀ W, Calls Try.prog 49 _ _ _ at h1
  change ∀ W, Calls Try.prog 51 _ _ _ at h3
  have H1 := Lib.hid h1
  have H3 := Lib.hid h3
  clear hg h1 h3
  go_enter Try.func23, Try.ntmps23
  go_wp2_with (first | (go_at_call 49; refine (H1.out _).mono ?_; rintro e w1 ⟨rfl, rfl⟩) | (go_at_call 48; refine (del_nil _).mono ?_; rintro e w1 ⟨rfl, rfl⟩) | (go_at_call 51; refine (H3.out _).mono ?_; rintro e w1 ⟨rfl, rfl⟩))
  refine wp_loop_rounds 1 ?_
  rw [rounds_succ]
  go_wp2
  go_ret
  exact ⟨rfl, Below.refl _ _⟩
theorem info85 : (Try.prog.info? 85).map (fun i => (i.zero, i.size, i.bytes)) = some (some (.agg #[.int .i64 0, .int .i64 0, .string ⟨#[]⟩, .int .i64 0]), 4, 40) := by kernel_rfl
theorem encE_one (x : E85) : ∀ v ∈ encE x, v.oneCell' = true := by
  intro v hv
  simp [encE] at hv
  rcases hv with rfl | rfl | rfl | rfl <;> rfl
theorem clone_calls {B g cap : Nat} {l : List E85} {w : World} (h : w.ownsRow B 85 4 (.slice (some ⟨g, 0, none⟩) l.length cap) l.length (cellsE l)) (hn : l.length ≤ 1000000) :
    Calls Try.prog 49 #[.slice (some ⟨g, 0, none⟩) l.length cap] w fun e w' => ∃ b c, e = .returned (.slice (some ⟨b, 0, none⟩) l.length c) ∧ w.heap.size ≤ b ∧ b < w'.heap.size ∧ l.length ≤ c ∧ HoldsK encE 4 w' b 0 l.toArray ∧ Below w.heap.size w w' := by
  obtain ⟨i0, hi, hz0, hz1, hz2⟩ := info_parts info85
  refine (AnyE.slices_Clone Try.cloneE i0 _ 4 40 hi hz0 hz1 hz2 rfl (by decide) Try.sizeOf85 g 0 l.length cap (cellsE l) w (cellsE_len l) (by unfold maxLen; omega) (by omega) (fun j u hj => ?_) (fun u hu => ?_)).mono ?_
  · have hl := (List.getElem?_eq_some_iff.1 hj).1
    rw [cellsE_len] at hl
    rw [Nat.zero_add, World.ownsRow.cellAt h j hl, hj]
  · rw [cellsE, List.mem_flatMap] at hu
    obtain ⟨x, _, hx⟩ := hu
    exact encE_one x u hx
  · rintro e w1 ⟨v, rfl, ho, hne, hb⟩
    rcases ho.2 with ⟨rfl, _⟩ | ⟨b, c, cur, rfl, hb1, hb2, hb3, hb4, hb5, hb6⟩
    · exact absurd rfl hne
    · exact ⟨b, c, rfl, hb1, blk_lt hb2, hb3, holds_of_own (B := w.heap.size) ho, hb⟩
theorem below_holds {B b : Nat} {w w' : World} {d d0 : Array E85} (m : Nat) (os : Array Obj) (hH : HoldsK encE 4 w b 0 d0) (hs : d.size = d0.size) (hb : b < w.heap.size) (hB : B ≤ b) (hw : w' = sortWorldK encE 4 w b 0 m d os) : HoldsK encE 4 w' b 0 d ∧ Below B w w' := by
  subst hw
  have e1 : (putRowK encE 4 (Sort.ahead w m) b 0 d).heap.size = w.heap.size := by unfold putRowK putRow mapBlock; simp [Sort.ahead]
  refine ⟨holdsK_grow encE 4 _ os b 0 d (by rw [e1]; exact hb) (holdsK_putRowK encE 4 (Sort.ahead w m) b 0 d0 d hH hs), below_grow' ?_ (by rw [e1]; omega) os⟩
  exact below_putRow (enc := (id : Value → Value)) ⟨rfl, rfl, rfl, Nat.le_refl _, fun _ _ => rfl⟩ hB
set_option maxHeartbeats 4000000 in
theorem meet_some (B g g0 cap : Nat) (s : ByteArray) (l : List E85) (w : World) (hg : w.heap[g]? = some (.cells #[.string s, .slice (some ⟨g0, 0, none⟩) l.length cap] 49 (0, 0)))
    (ho : w.ownsRow B 85 4 (.slice (some ⟨g0, 0, none⟩) l.length cap) l.length (cellsE l)) (hn : l.length ≤ 1000) (hsm : ∀ x ∈ l, smallE x) :
    Calls Try.prog 23 #[.pointer (some ⟨g, 0, none⟩)] w fun e w' => e = .returned (.bool (meetB l)) ∧ Below w.heap.size w w' := by
  have hc : w.cell? ⟨g, 1, none⟩ = some (.slice (some ⟨g0, 0, none⟩) l.length cap) := by rw [blk_cell hg]; rfl
  have H1 := Lib.hid (clone_calls ho (by omega))
  have HS := Lib.hid hsm
  have hw0 := blk_lt hg
  clear hg ho hsm
  go_enter Try.func23, Try.ntmps23
  go_wp2_with fail
  refine H1.out.mono ?_
  rintro e w1 ⟨b, c, rfl, hb1, hb2, hb3, hH1, hB1⟩
  go_wp2_with fail
  refine (delete_calls b c l.toArray w1 hH1 hb2 (by simp; omega) (by simpa using hb3)).mono ?_
  rintro e w2 ⟨d1, hd1, rfl, hH2, hg2⟩
  have hdl : d1.size ≤ l.length := by
    have := congrArg List.length hd1
    have h2 := List.length_filter_le keepE l
    simp at this
    omega
  have H3 := Lib.hid (AnyQ.slices_SortFunc Try.sortE 4 Try.isAgg85 Try.sizeOf85 encE (fun _ => rfl) encE_one cfE swo_cf 52 #[] b 0 c d1 w2 (enters_of Try.func52 (by kernel_rfl) rfl) (cmp_lays b 0 d1.size w2) hH2 (Nat.lt_of_lt_of_le hb2 hg2.size) (by omega))
  have HD1 := Lib.hid hd1
  have HH2 := Lib.hid hH2
  have HG2 := Lib.hid hg2
  have HB1 := Lib.hid hB1
  clear hd1 hH2 hg2 hB1 hH1
  go_wp2_with fail
  refine H3.out.mono ?_
  rintro e w3 ⟨rfl, d2, m, os, hp, hst, hw3⟩
  obtain ⟨hH3, hB3⟩ := below_holds (B := w.heap.size) m os HH2.out hp.1 (Nat.lt_of_lt_of_le hb2 HG2.out.size) hb1 hw3
  have hB : Below w.heap.size w w3 := (Below.grown HB1.out HG2.out HB1.out.size (fun k hk => by cases hk; exact hb1)).trans hB3
  have hsz : d2.size = d1.size := hp.1
  have hperm : d2.toList.Perm (l.filter keepE) := by
    have h := hp.2.2
    rw [← hsz] at h
    have e1 : (d2.extract 0 d2.size).toList = d2.toList := by simp
    have e2 : (d1.extract 0 d2.size).toList = d1.toList := by rw [hsz]; simp
    rw [e1, e2, HD1.out] at h
    simpa using h
  have hall : ∀ x ∈ d2.toList, smallE x ∧ 0 < x.f0.f1 := fun x hx => by
    have h1 := hperm.mem_iff.1 hx
    rw [List.mem_filter] at h1
    have h2 := HS.out x h1.1
    refine ⟨h2, ?_⟩
    have h3 := h1.2
    unfold keepE at h3
    simp at h3
    unfold smallE at h2
    omega
  have hM : meetB l = !decide (d2.toList.Pairwise fun a b => overE a b = false) := meet_perm hperm
  rw [← hsz]
  rw [← hsz] at hst
  have HM := Lib.hid hM
  have HST := Lib.hid hst
  have HAL := Lib.hid hall
  have HH := Lib.hid hH3
  have HB := Lib.hid hB
  have hn2 : d2.size ≤ 1000 := by omega
  have hc2 : d2.size ≤ c := by omega
  have hb3' : b < w3.heap.size := Nat.lt_of_lt_of_le (Nat.lt_of_lt_of_le hb2 HG2.out.size) hB3.size
  clear hM hst hall hH3 hB hB3 hw3 hp hperm
  have hlen : (0 : Int) ≤ (d2.size : Int) := by omega
  go_wp2_with fail
  go_loopg [15] (d2.size + 1) (fun gk v15 wr => ∃ (x : Int) (k : Nat), v15 = .int .i64 x ∧ Hid (x = (k : Int)) ∧ Hid (k ≤ d2.size ∧ d2.size + 1 - k ≤ gk ∧ ∀ j, j < k → adjE d2 j = false) ∧ Hid (Below w3.heap.size w3 wr))
  case atStart => exact ⟨0, 0, rfl, Lib.hid rfl, Lib.hid ⟨by omega, by omega, fun j hj => absurd hj (by omega)⟩, Lib.hid (Below.refl _ _)⟩
  case round =>
    obtain ⟨x, k, rfl, HXK, HT, HBR⟩ := hrel
    have hbr : b < wr.heap.size := Nat.lt_of_lt_of_le hb3' HBR.out.size
    have HHR := Lib.hid (holdsK_block HH.out (HBR.out.block b hb3'))
    by_cases hlt : k < d2.size
    · have hltz : x < (d2.size : Int) := by have := HXK.out; omega
      have hk0 : (0 : Int) ≤ x := by have := HXK.out; omega
      by_cases hz : k = 0
      · subst hz
        have hx00 : x = 0 := HXK.out
        have g0 : ¬ 0 < x := by omega
        have g1 := decide_eq_false (p := 0 < x) g0
        have hxw : IntKind.i64.wrap (x + 1) = x + 1 := by rw [i64_w, wrap64_small (by omega) (by omega)]
        have HX0 := Lib.hid hx00
        clear hx00
        go_wp2_with fail
        have hmx : Try.prog.follows .mixedOrders = true := by kernel_rfl
        refine wp_region_kept hmx (by kernel_rfl) ?_
        repeat (go_big_quiet_step (fail))
        refine wpQuiet_nil ?_
        rintro _ ⟨pw, rfl⟩
        have HB2 := Lib.hid (HBR.out.trans (pw.h.mono HBR.out.size))
        go_wp2
        go_roundg (d2.size)
        case measure => have := HT.out; omega
        case rel => exact ⟨x + 1, 1, rfl, Lib.hid (by have := HX0.out; omega), Lib.hid ⟨by omega, by omega, fun j hj => by rw [show j = 0 by omega]; rfl⟩, HB2⟩
      · have hx1k : x - 1 = ((k - 1 : Nat) : Int) := by have := HXK.out; omega
        obtain ⟨y, hy⟩ : ∃ y : Int, x - 1 = y := ⟨_, rfl⟩
        have g0 : 0 < x := by have := HXK.out; omega
        have g1 := decide_eq_true g0
        have hy0 : 0 ≤ y := by omega
        have hyn : y < (d2.size : Int) := by omega
        have hyb0 := eq_true hy0
        have hyb1 := eq_true hyn
        have hyw : IntKind.i64.wrap (x - 1) = y := by rw [i64_w, wrap64_small (by omega) (by omega), hy]
        have hxw : IntKind.i64.wrap (x + 1) = x + 1 := by rw [i64_w, wrap64_small (by omega) (by omega)]
        have exk : x.toNat = k := by have := HXK.out; omega
        have eyk : y.toNat = k - 1 := by omega
        obtain ⟨⟨a0, _, _, _⟩, _⟩ := holdsK_at HHR.out k hlt
        obtain ⟨⟨b0, b1, _, _⟩, _⟩ := holdsK_at HHR.out (k - 1) (by omega)
        rw [← exk] at a0
        rw [← eyk] at b0 b1
        have hadj : adjE d2 k = decide (d2[x.toNat]!.f0.f0 < d2[y.toNat]!.f0.f0 + d2[y.toNat]!.f0.f1) := by unfold adjE; rw [decide_eq_true (show 0 < k by omega), Bool.true_and, exk, eyk]
        have hsy := (HAL.out d2[y.toNat]! (by rw [bang d2 y.toNat (by omega)]; exact List.getElem_mem _)).1
        have hsx := (HAL.out d2[x.toNat]! (by rw [bang d2 x.toNat (by omega)]; exact List.getElem_mem _)).1
        unfold smallE at hsy hsx
        generalize d2[x.toNat]!.f0.f0 = ax at a0 hadj hsx
        generalize d2[y.toNat]!.f0.f0 = ay at b0 hadj hsy
        generalize d2[y.toNat]!.f0.f1 = my at b1 hadj hsy
        have HE := Lib.hid (fun W => span_end ay my W (by omega) (by omega) (by omega) (by omega))
        have p0 := kept_cell a0
        have p1 := kept_cell b0
        have p2 := kept_cell b1
        clear hsx hsy exk eyk hx1k hy a0 b0 b1
        cases hq : decide (ax < ay + my) with
        | true =>
          have hqt : ax < ay + my := of_decide_eq_true hq
          rw [hq] at hadj
          have HA := Lib.hid hadj
          clear hadj
          go_wp2_with fail
          have hmx : Try.prog.follows .mixedOrders = true := by kernel_rfl
          refine wp_region_kept hmx (by kernel_rfl) ?_
          repeat (go_big_quiet_step (exact kept_calls (HE.out _)))
          refine wpQuiet_nil ?_
          rintro _ ⟨pw, rfl⟩
          have HB2 := Lib.hid (HBR.out.trans (pw.h.mono HBR.out.size))
          go_wp2
          go_ret
          exact ⟨by rw [HM.out, adj_meets HST.out (fun x hx => (HAL.out x hx).2) k hlt HA.out]; rfl, HB.out.trans (HB2.out.mono HB.out.size)⟩
        | false =>
          have hqt : ¬ ax < ay + my := of_decide_eq_false hq
          rw [hq] at hadj
          have HA := Lib.hid hadj
          clear hadj
          go_wp2_with fail
          have hmx : Try.prog.follows .mixedOrders = true := by kernel_rfl
          refine wp_region_kept hmx (by kernel_rfl) ?_
          repeat (go_big_quiet_step (exact kept_calls (HE.out _)))
          refine wpQuiet_nil ?_
          rintro _ ⟨pw, rfl⟩
          have HB2 := Lib.hid (HBR.out.trans (pw.h.mono HBR.out.size))
          go_wp2
          go_roundg (d2.size - k)
          case measure => have := HT.out; omega
          case rel =>
            refine ⟨x + 1, k + 1, rfl, Lib.hid (by have := HXK.out; omega), Lib.hid ⟨by omega, by omega, fun j hj => ?_⟩, HB2⟩
            rcases Nat.lt_or_ge j k with h | h
            · exact HT.out.2.2 j h
            · rw [show j = k by omega]; exact HA.out
    · have hke : k = d2.size := by have := HT.out; omega
      have hltz : ¬ x < (d2.size : Int) := by have := HXK.out; omega
      have hno := HT.out.2.2
      rw [hke] at hno
      have HN := Lib.hid hno
      clear hno
      go_wp2
      go_ret
      exact ⟨by rw [HM.out, none_meets HST.out HN.out]; rfl, HB.out.trans (HBR.out.mono HB.out.size)⟩
theorem meet_calls (B g : Nat) (s : ByteArray) (l : List E85) (w : World) (hf : FileAt B w g s l) (hn : l.length ≤ 1000) (hsm : ∀ x ∈ l, smallE x) :
    Calls Try.prog 23 #[.pointer (some ⟨g, 0, none⟩)] w fun e w' => e = .returned (.bool (meetB l)) ∧ Below w.heap.size w w' := by
  obtain ⟨hB, v, hg, ho⟩ := hf
  have ho2 := ho
  rcases ho.2 with ⟨rfl, h0⟩ | ⟨b, c, cur, rfl, hb1, hb2, hb3, hb4, hb5, hb6⟩
  · have : l = [] := List.length_eq_zero_iff.1 h0
    subst this
    exact meet_nil B g s w hg
  · exact meet_some B g b c s l w hg ho2 hn hsm
end Go.Proofs.Ytgchajlfopmcjaa.P
