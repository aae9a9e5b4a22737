/- (*sfnt.file).meet, front and read, walked: whether entries meet; a file's front; one record read. Conditions: a text of at most 2^24 bytes. -/
import Derived.Test.YtgchajlfopmcjaaPx0
import Derived.Test.YtgchajlfopmcjaaShelf
import Derived.Test.YtgchajlfopmcjaaShelg
import Derived.Test.YtgchajlfopmcjaaBeNum
import Derived.Test.YtgchajlfopmcjaaBinRight
import Derived.Lib.Hide
import Derived.Lib.SlKept
import Derived.Deep.Upon
import Derived.Shelf.SlicesE.DeleteFunc
import Derived.Lib.OwnBridge
import Derived.BigQuiet
import Derived.Test.YtgchajlfopmcjaaSfRight
import Derived.Test.YtgchajlfopmcjaaSfSum
import Derived.Test.YtgchajlfopmcjaaBackSpec
import Derived.Test.YtgchajlfopmcjaaPx2
import Derived.Deep.RegionHeld3
import Derived.Deep.AppendLies
import Derived.Deep.DrawnRows
namespace Go.Proofs.Ytgchajlfopmcjaa.P
open Go.Shelf Go.RowKit Go.Lib Go.Sort Go.Proofs.YtgchajlfopmcjaaW.PrintWords Go.Proofs.YtgchajlfopmcjaaW.PrintLast Go.Proofs.YtgchajlfopmcjaaW.PrintMore Go.Proofs.Ytgchajlfopmcjaa.BN
set_option linter.unusedVariables false
set_option linter.unusedSimpArgs false
set_option maxRecDepth 100000
structure E83 where
  f0 : Int
  f1 : Int
structure E85 where
  f0 : E83
  f1 : ByteArray
  f2 : Int
def zE85 : E85 := ⟨⟨0, 0⟩, ⟨#[]⟩, 0⟩
instance : Inhabited E85 := ⟨zE85⟩
/-- An entry's four cells. -/
def encE (x : E85) : List Value := [.int .i64 x.f0.f0, .int .i64 x.f0.f1, .string x.f1, .int .i64 x.f2]
theorem none_pred (W : World) (x : E85) :
    Calls Try.prog 50 #[.agg (encE x).toArray] W fun e w' => e = .returned (.bool (x.f0.f1 == 0)) ∧ Below W.heap.size W w' := by
  show Calls Try.prog 50 #[.agg #[.int .i64 x.f0.f0, .int .i64 x.f0.f1, .string x.f1, .int .i64 x.f2]] W _
  go_enter Try.func50, Try.ntmps50
  go_wp2
  go_ret
  exact ⟨rfl, (Below.refl _ _).alloc (Nat.le_refl _) _⟩
def cfE (x y : E85) : Int := Lib.compareInt x.f0.f0 y.f0.f0
set_option maxHeartbeats 1000000 in
theorem cmp_closure (x y : E85) (W : World) : Calls Try.prog 52 #[.agg (encE x).toArray, .agg (encE y).toArray] W fun e w' => e = .returned (.int .i64 (cfE x y)) ∧ ∃ q os', w' = grow (W.drewN q) os' := by
  have hcon := fun W' => Try.cmp_Compare_int x.f0.f0 y.f0.f0 W'
  show Calls Try.prog 52 #[.agg #[.int .i64 x.f0.f0, .int .i64 x.f0.f1, .string x.f1, .int .i64 x.f2], .agg #[.int .i64 y.f0.f0, .int .i64 y.f0.f1, .string y.f1, .int .i64 y.f2]] W _
  unfold cfE
  generalize Lib.compareInt x.f0.f0 y.f0.f0 = r at hcon ⊢
  go_enter Try.func52, Try.ntmps52
  go_wp2_with (go_at_call 53; refine (hcon _).mono ?_; rintro e w' ⟨rfl, rfl⟩)
  go_ret
  exact ⟨rfl, 0, _, by rw [alloc_eq_grow, alloc_eq_grow, grow_grow]; rfl⟩
theorem cmp_lays (blk off size : Nat) (w : World) : CmpLays Try.prog 52 #[] encE 4 cfE blk off size w := fun _ _ _ _ x y => cmp_closure x y _
theorem lt_cf (x y : E85) : ltOf cfE x y = decide (x.f0.f0 < y.f0.f0) := by
  unfold ltOf cfE Lib.compareInt
  by_cases h1 : x.f0.f0 < y.f0.f0
  · simp [h1]
  · by_cases h2 : y.f0.f0 < x.f0.f0 <;> simp [h1, h2]
theorem swo_cf : SWO (ltOf cfE) where
  irrefl x := by rw [lt_cf]; simp
  trans x y z h1 h2 := by rw [lt_cf] at *; simp at *; omega
  ntrans x y z h1 h2 := by rw [lt_cf] at *; simp at *; omega
/-! ### the row of entries -/
theorem holds_set {w : World} {blk off : Nat} {F : Array Value} (h : Holds id w blk off F) (i : Nat) (hi : i < F.size) (v : Value) : Holds id (w.setCell ⟨blk, off + i, none⟩ v) blk off (F.setIfInBounds i v) := by
  have e := putRow_set id w blk off F i v hi
  rw [putRow_self id w blk off F h] at e
  rw [show v = id v from rfl, e]
  exact holds_putRow id w blk off F _ h (by simp)
theorem flat_set (d : Array E85) (i : Nat) (hi : i < d.size) (u : E85) :
    ((((flatK encE 4 d).setIfInBounds (i * 4) (.int .i64 u.f0.f0)).setIfInBounds (i * 4 + 1) (.int .i64 u.f0.f1)).setIfInBounds (i * 4 + 2) (.string u.f1)).setIfInBounds (i * 4 + 3) (.int .i64 u.f2) = flatK encE 4 (d.setIfInBounds i u) := by
  have e : ((((flatK encE 4 d).setIfInBounds (i * 4) (.int .i64 u.f0.f0)).setIfInBounds (i * 4 + 1) (.int .i64 u.f0.f1)).setIfInBounds (i * 4 + 2) (.string u.f1)).setIfInBounds (i * 4 + 3) (.int .i64 u.f2) = setMany (flatK encE 4 d) (i * 4) (encE u) := rfl
  rw [e]
  refine ext_get! (by simp) fun t ht => ?_
  have ht' : t < d.size * 4 := by simpa using ht
  rw [get_setMany _ _ _ t (by simpa using ht'), get_flatK _ _ _ t ht', get_flatK _ _ _ t (by simpa using ht')]
  have hl : (encE u).length = 4 := rfl
  rw [hl]
  by_cases a : t / 4 = i
  · rw [if_pos (by omega), a, getElem!_set_same d i u hi]
    rw [show t - i * 4 = t % 4 by omega]
  · rw [if_neg (by omega), getElem!_set_other d i (t / 4) u (by omega)]
theorem holdsK_set {w : World} {blk : Nat} {d : Array E85} (h : HoldsK encE 4 w blk 0 d) (i : Nat) (hi : i < d.size) (u : E85) :
    HoldsK encE 4 ((((w.setCell ⟨blk, i * 4, none⟩ (.int .i64 u.f0.f0)).setCell ⟨blk, i * 4 + 1, none⟩ (.int .i64 u.f0.f1)).setCell ⟨blk, i * 4 + 2, none⟩ (.string u.f1)).setCell ⟨blk, i * 4 + 3, none⟩ (.int .i64 u.f2)) blk 0 (d.setIfInBounds i u) := by
  unfold HoldsK at *
  rw [← flat_set d i hi u]
  have h0 := holds_set h (i * 4) (by simp; omega) (.int .i64 u.f0.f0)
  have h1 := holds_set h0 (i * 4 + 1) (by simp; omega) (.int .i64 u.f0.f1)
  have h2 := holds_set h1 (i * 4 + 2) (by simp; omega) (.string u.f1)
  have h3 := holds_set h2 (i * 4 + 3) (by simp; omega) (.int .i64 u.f2)
  simpa [Nat.zero_add] using h3
theorem holdsK_block {w w1 : World} {blk : Nat} {d : Array E85} (h : HoldsK encE 4 w blk 0 d) (hb : w1.heap[blk]? = w.heap[blk]?) : HoldsK encE 4 w1 blk 0 d := fun t ht =>
  ⟨(World.cell?_of_block (a := ⟨blk, 0 + t, none⟩) hb).trans (h t ht).1, (World.frozen?_of_block (a := ⟨blk, 0 + t, none⟩) hb).trans (h t ht).2⟩
theorem holdsK_at {w : World} {blk : Nat} {d : Array E85} (h : HoldsK encE 4 w blk 0 d) (j : Nat) (hj : j < d.size) :
    (w.cell? ⟨blk, j * 4, none⟩ = some (.int .i64 d[j]!.f0.f0) ∧ w.cell? ⟨blk, j * 4 + 1, none⟩ = some (.int .i64 d[j]!.f0.f1) ∧ w.cell? ⟨blk, j * 4 + 2, none⟩ = some (.string d[j]!.f1) ∧ w.cell? ⟨blk, j * 4 + 3, none⟩ = some (.int .i64 d[j]!.f2)) ∧
    (w.frozen? ⟨blk, j * 4, none⟩ = false ∧ w.frozen? ⟨blk, j * 4 + 1, none⟩ = false ∧ w.frozen? ⟨blk, j * 4 + 2, none⟩ = false ∧ w.frozen? ⟨blk, j * 4 + 3, none⟩ = false) := by
  have c := fun k hk => h.cell (c := k) hj hk
  have c0 := c 0 (by omega)
  have c1 := c 1 (by omega)
  have c2 := c 2 (by omega)
  have c3 := c 3 (by omega)
  simp only [Nat.zero_add, Nat.add_zero] at c0 c1 c2 c3
  exact ⟨⟨c0.1, c1.1, c2.1, c3.1⟩, c0.2, c1.2, c2.2, c3.2⟩
theorem grown_set {w w1 : World} {blk : Nat} (h : w.grownBy w1 (some blk)) (o : Nat) (v : Value) : w.grownBy (w1.setCell ⟨blk, o, none⟩ v) (some blk) :=
  ⟨h.os, h.tape, h.output, by rw [World.size_setCell]; exact h.size, fun k hk hne => by
    rw [Below.heap_setCell w1 ⟨blk, o, none⟩ v k (fun e => hne (by rw [e]))]; exact h.block k hk hne⟩
theorem grown_below {w w1 w2 : World} {blk : Nat} (h : w.grownBy w1 (some blk)) (hb : Below w1.heap.size w1 w2) : w.grownBy w2 (some blk) :=
  ⟨hb.os.trans h.os, hb.tape.trans h.tape, hb.output.trans h.output, Nat.le_trans h.size hb.size, fun k hk hne => (hb.block k (Nat.lt_of_lt_of_le hk h.size)).trans (h.block k hk hne)⟩
theorem grown_sets {w : World} {blk : Nat} : ∀ (vs : List Value) (o : Nat) {w1 : World}, w.grownBy w1 (some blk) → w.grownBy (w1.setCells blk o vs) (some blk)
  | [], _, _, h => h
  | v :: r, o, _, h => grown_sets r (o + 1) (grown_set h o v)
/-- slices.DeleteFunc, at a row of the call's own. -/
def keepE (x : E85) : Bool := !(x.f0.f1 == 0)
theorem idx_spec (d : Array E85) : (Lib.idxBy (fun _ (y : E85) => (y.f0.f1 == 0)) (d.toList.take d.size) default = -1 ∧ ∀ j, j < d.size → keepE d[j]! = true) ∨
    ∃ k, k < d.size ∧ Lib.idxBy (fun _ (y : E85) => (y.f0.f1 == 0)) (d.toList.take d.size) default = (k : Int) ∧ keepE d[k]! = false ∧ ∀ j, j < k → keepE d[j]! = true := by
  have tl : ∀ j, j < d.size → d.toList[j]! = d[j]! := fun j hj => by rw [getElem!_pos d j hj, getElem!_pos d.toList j (by simpa using hj)]; simp
  rw [List.take_of_length_le (by simp)]
  rcases idxByFrom_spec (fun _ (y : E85) => (y.f0.f1 == 0)) default d.toList 0 with ⟨e1, hall⟩ | ⟨k0, hk0, e1, ht, hall⟩
  · left
    refine ⟨e1, fun j hj => ?_⟩
    have := hall j (by simpa using hj)
    rw [tl j hj] at this
    unfold keepE; rw [this]; rfl
  · right
    have hk : k0 < d.size := by simpa using hk0
    refine ⟨k0, hk, by unfold Lib.idxBy; rw [e1]; simp, ?_, fun j hj => ?_⟩
    · rw [tl k0 hk] at ht
      unfold keepE; rw [ht]; rfl
    · have := hall j hj
      rw [tl j (by omega)] at this
      unfold keepE; rw [this]; rfl
theorem below_cells {w w2 : World} {C : Array Value} {T : TypeId} (hb : Below (w.alloc (.cells C T)).heap.size (w.alloc (.cells C T)) w2) :
    (∀ i v, C[i]? = some v → w2.cell? ⟨w.heap.size, i, none⟩ = some v) ∧ (∀ b o, b < w.heap.size → w2.cell? ⟨b, o, none⟩ = w.cell? ⟨b, o, none⟩) ∧ (∀ b o, b < w.heap.size → w2.frozen? ⟨b, o, none⟩ = w.frozen? ⟨b, o, none⟩) := by
  have hs : (w.alloc (.cells C T)).heap.size = w.heap.size + 1 := by simp
  refine ⟨fun i v hi => ?_, fun b o h => ?_, fun b o h => ?_⟩
  · rw [hb.cell (p := ⟨w.heap.size, i, none⟩) (by rw [hs]; exact Nat.lt_succ_self _)]
    simp [hi]
  · rw [hb.cell (p := ⟨b, o, none⟩) (by rw [hs]; exact Nat.lt_succ_of_lt h)]
    exact Below.cell (below_alloc (Below.refl w.heap.size w) _) h
  · rw [hb.frozen (p := ⟨b, o, none⟩) (by rw [hs]; exact Nat.lt_succ_of_lt h)]
    exact Below.frozen (below_alloc (Below.refl w.heap.size w) _) h
theorem zeroE : ∀ w, (zeroValue 85).run Try.prog w = .ok (.agg #[.int .i64 0, .int .i64 0, .string ⟨#[]⟩, .int .i64 0]) w := fun w => by kernel_rfl
theorem clear_entries (blk i n c : Nat) (hn : 0 < n) (w : World) (hc : ∀ t, t < n * 4 → (w.cell? ⟨blk, i * 4 + t, none⟩).isSome = true) (hf : ∀ t, t < n * 4 → w.frozen? ⟨blk, i * 4 + t, none⟩ = false) :
    ∃ Z : List Value, Z.length = n * 4 ∧ (Builtin.clear_ #[47] 0 #[.slice (some ⟨blk, i * 4, none⟩) n c]).run Try.prog w = .ok (.tuple #[]) (w.setCells blk (i * 4) Z) := by
  refine ⟨(Builtin.zeroCells (Value.agg #[.int .i64 0, .int .i64 0, .string ⟨#[]⟩, .int .i64 0]).cells n).toList, by simp [Builtin.zeroCells, Value.cells], ?_⟩
  have hst := run_storeCells_cells (P := Try.prog) blk (i * 4) (Builtin.zeroCells (Value.agg #[.int .i64 0, .int .i64 0, .string ⟨#[]⟩, .int .i64 0]).cells n).toList 0 w (fun j hj => hc j (by simpa [Builtin.zeroCells, Value.cells] using hj)) (fun j hj => hf j (by simpa [Builtin.zeroCells, Value.cells] using hj)) (by
    intro v hv
    simp only [Builtin.zeroCells, Value.cells, Array.toList_map, List.mem_map, Array.toList_range, List.mem_range] at hv
    obtain ⟨k, hk, rfl⟩ := hv
    have h4 : k % 4 < 4 := Nat.mod_lt _ (by decide)
    show (#[Value.int .i64 0, Value.int .i64 0, Value.string ⟨#[]⟩, Value.int .i64 0][k % 4]!).oneCell' = true
    generalize k % 4 = m at h4
    obtain rfl | rfl | rfl | rfl : m = 0 ∨ m = 1 ∨ m = 2 ∨ m = 3 := by omega
    all_goals rfl)
  simp only [Nat.add_zero] at hst
  obtain ⟨m, rfl⟩ : ∃ m, n = m + 1 := ⟨n - 1, by omega⟩
  simp [Builtin.clear_, run_underlying Try.underlying47, zeroE, hst]
set_option maxHeartbeats 4000000 in
theorem delete_calls (blk cap : Nat) (d : Array E85) (w : World) (hH : HoldsK encE 4 w blk 0 d) (hblk : blk < w.heap.size) (hn : d.size < 1000000000) (hcap : d.size ≤ cap) :
    Calls Try.prog 48 #[.slice (some ⟨blk, 0, none⟩) d.size cap, .func (.func 50) #[] #[]] w fun e w' =>
      ∃ d' : Array E85, d'.toList = d.toList.filter keepE ∧ e = .returned (.slice (some ⟨blk, 0, none⟩) d'.size cap) ∧ HoldsK encE 4 w' blk 0 d' ∧ w.grownBy w' (some blk) := by
  have eg : ∀ args w, (callFunc 50 args).run Try.prog w = .ok (.enter 50 args) w := enters_of Try.func50 (by kernel_rfl) rfl
  have hI := AnyQ.slices_IndexFunc Try.idxE 4 Try.isAgg85 Try.sizeOf85 encE (fun _ => rfl) (fun x => (x.f0.f1 == 0)) 50 #[] eg blk 0 d.size cap d.toList w (fun W x hb => (none_pred W x).mono fun _ _ ⟨he, h⟩ => ⟨he, hb.trans (h.mono hb.size)⟩) (by simp) (by omega) hblk (fun j hj i v hi => by
      have hj' : j < d.size := by simpa using hj
      have e1 : d.toList[j]! = d[j]! := by rw [getElem!_pos d j hj', getElem!_pos d.toList j hj]; simp
      rw [e1] at hi
      obtain ⟨⟨c0, c1, c2, c3⟩, _⟩ := holdsK_at hH j hj'
      rw [Nat.zero_add]
      match i, hi with
      | 0, hi => simp [encE] at hi; rw [← hi]; exact c0
      | 1, hi => simp [encE] at hi; rw [← hi]; exact c1
      | 2, hi => simp [encE] at hi; rw [← hi]; exact c2
      | 3, hi => simp [encE] at hi; rw [← hi]; exact c3
      | i + 4, hi => simp [encE] at hi)
  change Calls Try.prog 67 _ _ _ at hI
  have HH := Lib.hid hH
  have hw0 := Nat.lt_of_le_of_lt (Nat.zero_le _) hblk
  clear hH
  rcases idx_spec d with ⟨e1, hall⟩ | ⟨k0, hk0, e1, ht, hall⟩
  · rw [e1] at hI
    have HI := Lib.hid hI
    have hf : d.toList.filter keepE = d.toList := by
      rw [List.filter_eq_self]
      intro a ha
      obtain ⟨j, hj, rfl⟩ := List.getElem_of_mem ha
      have := hall j (by simpa using hj)
      rw [getElem!_pos d j (by simpa using hj)] at this
      simpa using this
    have HF := Lib.hid hf
    clear hI e1 hall hf
    go_enter Try.func48, Try.ntmps48
    go_wp2_with (go_at_call 67; refine HI.out.mono ?_; rintro e w1 ⟨rfl, hb⟩)
    go_ret
    exact ⟨d, HF.out.symm, rfl, holdsK_block HH.out (hb.block _ hblk), grown_below ⟨rfl, rfl, rfl, Nat.le_refl _, fun _ _ _ => rfl⟩ hb⟩
  · rw [e1] at hI
    have HI := Lib.hid hI
    have hne : ¬ (k0 : Int) = -1 := by omega
    obtain ⟨kp, HK⟩ : ∃ kp : Nat → Bool, Hid (kp = fun j => keepE d[j]!) := ⟨_, Lib.hid rfl⟩
    have hst : KeptInv kp d (k0 + 1) k0 d := KeptInv.start (fun j hj => by rw [HK.out]; exact hall j hj) (by rw [HK.out]; exact ht)
    have HS := Lib.hid hst
    clear hI e1 hall hst ht
    go_enter Try.func48, Try.ntmps48
    go_wp2_with (go_at_call 67; refine HI.out.mono ?_; rintro e w1 ⟨rfl, hb⟩)
    go_loopg [5, 6, 7] d.size (fun gg s5 s6 _ wr => ∃ (x y : Int) (i j : Nat) (dk : Array E85), s5 = .int .i64 x ∧ s6 = .int .i64 y ∧ Hid (x = i ∧ y = j) ∧ Hid (j ≤ d.size ∧ d.size - j ≤ gg) ∧ Hid (HoldsK encE 4 wr blk 0 dk) ∧ Hid (KeptInv kp d j i dk) ∧ Hid (w.grownBy wr (some blk)))
    case atStart => exact ⟨_, _, k0, k0 + 1, d, rfl, rfl, Lib.hid ⟨rfl, by omega⟩, Lib.hid ⟨by omega, by omega⟩, Lib.hid (holdsK_block HH.out (hb.block _ hblk)), HS, Lib.hid (grown_below ⟨rfl, rfl, rfl, Nat.le_refl _, fun _ _ _ => rfl⟩ hb)⟩
    case round =>
      obtain ⟨x, y, i, j, dk, rfl, rfl, HXY, HT, HHK, HKI, HG⟩ := hrel
      have hds := HKI.out.size
      have hij := HKI.out.lt
      by_cases hlt : j < d.size
      · obtain ⟨rfl, rfl⟩ := HXY.out
        have hltz : (j : Int) < (d.size : Int) := by omega
        obtain ⟨⟨a0, a1, a2, a3⟩, _⟩ := holdsK_at HHK.out j (by omega)
        have hu : dk[j]! = d[j]! := HKI.out.high j (by omega)
        rw [hu] at a0 a1 a2 a3
        have hbw : blk < wr.heap.size := Nat.lt_of_lt_of_le hblk HG.out.size
        have hcall := fun W => none_pred W d[j]!
        have hkp : kp j = !(d[j]!.f0.f1 == 0) := by rw [HK.out]; rfl
        clear hu
        generalize hgu : d[j]! = u at a0 a1 a2 a3 hcall hkp
        have HGU := Lib.hid hgu
        clear hgu
        change ∀ W, Calls Try.prog _ #[.agg #[.int .i64 u.f0.f0, .int .i64 u.f0.f1, .string u.f1, .int .i64 u.f2]] W _ at hcall
        generalize (u.f0.f1 == 0) = q at hcall hkp
        have HCA := Lib.hid hcall
        clear hcall
        cases q with
        | true =>
          have HKP := Lib.hid hkp
          clear hkp
          go_wp2_with (go_at_call 50; refine (HCA.out _).mono ?_; rintro e w2 ⟨rfl, hb2⟩)
          go_roundg (d.size - (j + 1))
          case measure => have := HT.out; omega
          case rel => exact ⟨_, _, i, j + 1, dk, rfl, rfl, Lib.hid ⟨rfl, by omega⟩, Lib.hid ⟨by omega, Nat.le_refl _⟩, Lib.hid (holdsK_block HHK.out ((hb2.block blk (by simp; omega)).trans ((below_alloc (Below.refl wr.heap.size wr) _).block blk hbw))), Lib.hid (KeptInv.skip HKI.out (by rw [HKP.out]; rfl)), Lib.hid (grown_below HG.out ((below_alloc (Below.refl wr.heap.size wr) _).trans (hb2.mono (by simp))))⟩
        | false =>
          have HKP := Lib.hid hkp
          clear hkp
          obtain ⟨⟨t0, t1, t2, t3⟩, f0, f1, f2, f3⟩ := holdsK_at HHK.out i (by omega)
          generalize dk[i]! = old at t0 t1 t2 t3
          have hbn : ¬ (blk = wr.heap.size) := by omega
          go_wp2_with (go_at_call 50; refine (HCA.out _).mono ?_; rintro e w2 ⟨rfl, hb2⟩; have q0 := (below_cells hb2).1 0 _ rfl; have q1 := (below_cells hb2).1 1 _ rfl; have q2 := (below_cells hb2).1 2 _ rfl; have q3 := (below_cells hb2).1 3 _ rfl; have s0 := ((below_cells hb2).2.1 blk (i * 4) hbw).trans t0; have s1 := ((below_cells hb2).2.1 blk (i * 4 + 1) hbw).trans t1; have s2 := ((below_cells hb2).2.1 blk (i * 4 + 2) hbw).trans t2; have s3 := ((below_cells hb2).2.1 blk (i * 4 + 3) hbw).trans t3; have g0 := ((below_cells hb2).2.2 blk (i * 4) hbw).trans f0; have g1 := ((below_cells hb2).2.2 blk (i * 4 + 1) hbw).trans f1; have g2 := ((below_cells hb2).2.2 blk (i * 4 + 2) hbw).trans f2; have g3 := ((below_cells hb2).2.2 blk (i * 4 + 3) hbw).trans f3)
          go_roundg (d.size - (j + 1))
          case measure => have := HT.out; omega
          case rel =>
            have hH2 : HoldsK encE 4 w2 blk 0 dk := holdsK_block HHK.out ((hb2.block blk (by simp; omega)).trans ((below_alloc (Below.refl wr.heap.size wr) _).block blk hbw))
            have hg2 : w.grownBy w2 (some blk) := grown_below HG.out ((below_alloc (Below.refl wr.heap.size wr) _).trans (hb2.mono (by simp)))
            exact ⟨_, _, i + 1, j + 1, dk.setIfInBounds i u, rfl, rfl, Lib.hid ⟨by omega, by omega⟩, Lib.hid ⟨by omega, Nat.le_refl _⟩, Lib.hid (holdsK_set hH2 i (by omega) u), Lib.hid (by rw [← HGU.out]; exact KeptInv.keep HKI.out hlt (by rw [HKP.out]; rfl)), Lib.hid (grown_set (grown_set (grown_set (grown_set hg2 _ _) _ _) _ _) _ _)⟩
      · obtain ⟨rfl, rfl⟩ := HXY.out
        have hje : j = d.size := by have := HT.out; omega
        have hltz : ¬ (j : Int) < (d.size : Int) := by omega
        have hi0 : (0 : Int) ≤ (i : Int) := by omega
        have hi1 : (i : Int) ≤ (cap : Int) := by omega
        have hi2 : (i : Int) ≤ (d.size : Int) := by omega
        have hic : ¬ cap = i := by omega
        obtain ⟨Z, hZ, hrun⟩ := clear_entries blk i (d.size - i) (cap - i) (by omega) wr (fun t ht => by
          have h := (HHK.out (i * 4 + t) (by simp; omega)).1
          rw [Nat.zero_add] at h
          rw [h]; rfl) (fun t ht => by
          have h := (HHK.out (i * 4 + t) (by simp; omega)).2
          rwa [Nat.zero_add] at h)
        have HZ := Lib.hid hZ
        clear hZ
        go_wp2
        go_ret
        refine ⟨(keptUpTo kp d d.size).toArray, ?_, ?_, ?_, ?_⟩
        · rw [HK.out]; exact keptUpTo_filter keepE d
        · have := HKI.out.len; rw [hje] at this; simp [this]
        · have hlen : (keptUpTo kp d d.size).length = i := by have := HKI.out.len; rwa [hje] at this
          intro t ht
          have ht4 : t < i * 4 := by simpa [hlen] using ht
          have hq : t / 4 < i := by omega
          have h := HHK.out t (by simp; omega)
          refine ⟨?_, ?_⟩
          · rw [World.cell?_setCells_out blk Z (i * 4) wr ⟨blk, 0 + t, none⟩ (fun _ _ => .inl (by simpa using ht4)), h.1]
            rw [get_flatK _ _ _ _ (by omega), get_flatK _ _ _ _ (by simp [hlen]; omega)]
            have hl := HKI.out.low (t / 4) hq
            rw [hje] at hl
            have e2 : (keptUpTo kp d d.size).toArray[t / 4]! = dk[t / 4]! := by
              rw [getElem!_pos (keptUpTo kp d d.size).toArray (t / 4) (by simp [hlen]; exact hq)]
              have := (List.getElem?_eq_some_iff.1 hl).2
              simpa using this
            rw [e2]
          · rw [World.frozen?_setCells]; exact h.2
        · exact grown_sets Z (i * 4) HG.out
end Go.Proofs.Ytgchajlfopmcjaa.P
namespace Go.Proofs.Ytgchajlfopmcjaa.P
open Go.Shelf Go.RowKit Go.Lib Go.Sort Go.Proofs.YtgchajlfopmcjaaW.PrintWords Go.Proofs.YtgchajlfopmcjaaW.PrintLast Go.Proofs.YtgchajlfopmcjaaW.PrintMore Go.Proofs.Ytgchajlfopmcjaa.BN
set_option linter.unusedVariables false
set_option linter.unusedSimpArgs false
def overE (a b : E85) : Bool := decide (a.f0.f0 < b.f0.f0 + b.f0.f1) && decide (b.f0.f0 < a.f0.f0 + a.f0.f1)
/-- Do two of them have a byte in common? -/
def meetB (l : List E85) : Bool := !decide ((l.filter keepE).Pairwise fun a b => overE a b = false)
theorem over_symm {a b : E85} (h : overE a b = false) : overE b a = false := by unfold overE at *; rw [Bool.and_comm]; exact h
theorem meet_perm {l d : List E85} (h : d.Perm (l.filter keepE)) : meetB l = !decide (d.Pairwise fun a b => overE a b = false) := by
  unfold meetB
  congr 1
  exact decide_eq_decide.2 (List.Perm.pairwise_iff (fun h => over_symm h) h.symm)
theorem bang (d : Array E85) (i : Nat) (h : i < d.size) : d[i]! = d.toList[i]'(by simpa using h) := by rw [getElem!_pos d i h]; simp
/-- A neighbour that begins ahead of the end of the one ahead of it. -/
def adjE (d : Array E85) (i : Nat) : Bool := decide (0 < i) && decide (d[i]!.f0.f0 < d[i - 1]!.f0.f0 + d[i - 1]!.f0.f1)
theorem adj_meets {d : Array E85} (hs : SortedIn (ltOf cfE) 0 d.size d) (hp : ∀ x ∈ d.toList, 0 < x.f0.f1) (i : Nat) (hi : i < d.size) (h : adjE d i = true) : (!decide (d.toList.Pairwise fun a b => overE a b = false)) = true := by
  unfold adjE at h
  simp only [Bool.and_eq_true, decide_eq_true_eq] at h
  obtain ⟨h0, h1⟩ := h
  rw [Bool.not_eq_true', decide_eq_false_iff_not]
  intro hpw
  have := (List.pairwise_iff_getElem.1 hpw) (i - 1) i (by simp; omega) (by simpa using hi) (by omega)
  rw [← bang d (i - 1) (by omega), ← bang d i hi] at this
  have hl := hs (i - 1) i (Nat.zero_le _) (by omega) hi
  rw [lt_cf] at hl
  have hm := hp d[i]! (by rw [bang d i hi]; exact List.getElem_mem _)
  unfold overE at this
  simp at hl this
  have := this (by omega)
  omega
theorem none_meets {d : Array E85} (hs : SortedIn (ltOf cfE) 0 d.size d) (h : ∀ i, i < d.size → adjE d i = false) : (!decide (d.toList.Pairwise fun a b => overE a b = false)) = false := by
  rw [Bool.not_eq_false', decide_eq_true_eq, List.pairwise_iff_getElem]
  intro i j hi hj hij
  have hi' : i < d.size := by simpa using hi
  have hj' : j < d.size := by simpa using hj
  rw [← bang d i hi', ← bang d j hj']
  have ha := h (i + 1) (by omega)
  unfold adjE at ha
  simp at ha
  have hl : d[i + 1]!.f0.f0 ≤ d[j]!.f0.f0 := by
    rcases Nat.lt_or_ge (i + 1) j with hh | hh
    · have := hs (i + 1) j (Nat.zero_le _) hh hj'
      rw [lt_cf] at this
      simpa using this
    · rw [show j = i + 1 by omega]; exact Int.le_refl _
  unfold overE
  simp
  intro _

  omega
end Go.Proofs.Ytgchajlfopmcjaa.P
namespace Go.Proofs.Ytgchajlfopmcjaa.P
open Go.Shelf Go.RowKit Go.Lib Go.Sort Go.Proofs.YtgchajlfopmcjaaW.PrintWords Go.Proofs.YtgchajlfopmcjaaW.PrintLast Go.Proofs.YtgchajlfopmcjaaW.PrintMore Go.Proofs.Ytgchajlfopmcjaa.BN
set_option linter.unusedVariables false
set_option linter.unusedSimpArgs false
set_option maxRecDepth 100000
def cellsE (l : List E85) : List Value := l.flatMap encE
theorem cellsE_len (l : List E85) : (cellsE l).length = l.length * 4 := by
  induction l with
  | nil => rfl
  | cons x l ih => rw [cellsE, List.flatMap_cons, List.length_append]; rw [cellsE] at ih; rw [ih, List.length_cons]; show 4 + _ = _; omega
theorem cellsE_at : ∀ (l : List E85) (j c : Nat), j < l.length → c < 4 → (cellsE l)[j * 4 + c]? = (encE (l.getD j zE85))[c]?
  | [], j, c, h, _ => absurd h (by simp)
  | x :: l, 0, c, h, hc => by
    rw [cellsE, List.flatMap_cons, List.getElem?_append_left (by show _ < 4; omega)]
    simp
  | x :: l, j + 1, c, h, hc => by
    rw [cellsE, List.flatMap_cons, List.getElem?_append_right (by show 4 ≤ _; omega)]
    have := cellsE_at l j c (by simpa using h) hc
    rw [cellsE] at this
    rw [show (j + 1) * 4 + c - (encE x).length = j * 4 + c by show _ - 4 = _; omega, this]
    simp
/-- The file that a pointer of the call's own leads to. -/
def FileAt (B : Nat) (w : World) (g : Nat) (s : ByteArray) (l : List E85) : Prop := B ≤ g ∧ ∃ v, w.heap[g]? = some (.cells #[.string s, v] 49 (0, 0)) ∧ w.ownsRow B 85 4 v l.length (cellsE l)
theorem holds_of_own {w : World} {B g cap : Nat} {l : List E85} (h : w.ownsRow B 85 4 (.slice (some ⟨g, 0, none⟩) l.length cap) l.length (cellsE l)) : HoldsK encE 4 w g 0 l.toArray := by
  intro t ht
  have ht' : t < l.length * 4 := by simpa using ht
  rw [get_flatK _ _ _ _ (by simpa using ht'), Nat.zero_add]
  refine ⟨?_, World.ownsRow.frozenAt h t⟩
  rw [World.ownsRow.cellAt h t ht']
  have e := cellsE_at l (t / 4) (t % 4) (by omega) (Nat.mod_lt _ (by decide))
  rw [show t / 4 * 4 + t % 4 = t by omega] at e
  rw [e]
  have e2 : l.toArray[t / 4]! = l.getD (t / 4) zE85 := by
    rw [getElem!_pos l.toArray (t / 4) (by simp; omega), List.getD_eq_getElem?_getD, List.getElem?_eq_getElem (by omega)]; simp
  rw [e2]
  have h4 : t % 4 < (encE (l.getD (t / 4) zE85)).length := Nat.mod_lt _ (by decide)
  rw [List.getElem?_eq_getElem h4]
  show some _ = some ((encE (l.getD (t / 4) zE85))[t % 4]!)
  rw [getElem!_pos (encE (l.getD (t / 4) zE85)) (t % 4) h4]
theorem below_grow' {B : Nat} {w W : World} (h : Below B w W) (hB : B ≤ W.heap.size) (os : Array Obj) : Below B w (grow W os) :=
  ⟨h.os, h.tape, h.output, by simp only [grow, Array.size_append]; have := h.size; omega, fun k hk => by
    show (W.heap ++ os)[k]? = _
    rw [Array.getElem?_append_left (by omega)]; exact h.block k hk⟩
theorem del_nil (w : World) : Calls Try.prog 48 #[.slice none 0 0, .func (.func 50) #[] #[]] w fun e w' => e = .returned (.slice none 0 0) ∧ w' = w := by
  have hi : Calls Try.prog 67 #[.slice none 0 0, .func (.func 50) #[] #[]] w fun e w' => e = .returned (.int .i64 (-1)) ∧ w' = w := by
    go_enter Try.func67, Try.ntmps67
    go_wp2
    refine wp_loop_rounds 1 ?_
    rw [rounds_succ]
    go_wp2
    go_ret
    exact ⟨rfl, rfl⟩
  go_enter Try.func48, Try.ntmps48
  go_wp2_with (go_at_call 67; refine hi.mono ?_; rintro e w1 ⟨rfl, rfl⟩)
  go_ret
  exact ⟨rfl, rfl⟩
theorem span_end (a m : Int) (w : World) (h0 : 0 ≤ a) (h1 : a ≤ 1000000000000) (h2 : 0 ≤ m) (h3 : m ≤ 1000000000000) : Calls Try.prog 47 #[.agg #[.int .i64 a, .int .i64 m]] w fun e w' => e = .returned (.int .i64 (a + m)) ∧ Below w.heap.size w w' := by
  go_enter Try.func47, Try.ntmps47
  go_wp2
  go_ret
  exact ⟨rfl, (Below.refl _ _).alloc (Nat.le_refl _) _⟩
def smallE (x : E85) : Prop := 0 ≤ x.f0.f0 ∧ x.f0.f0 ≤ 4294967296 ∧ 0 ≤ x.f0.f1 ∧ x.f0.f1 ≤ 4294967296
set_option maxHeartbeats 4000000 in
theorem meet_nil (B g : Nat) (s : ByteArray) (w : World) (hg : w.heap[g]? = some (.cells #[.string s, .slice none 0 0] 49 (0, 0))) :
    Calls Try.prog 23 #[.pointer (some ⟨g, 0, none⟩)] w fun e w' => e = .returned (.bool false) ∧ Below w.heap.size w w' := by
  have hc : w.cell? ⟨g, 1, none⟩ = some (.slice none 0 0) := by rw [blk_cell hg]; rfl
  have h1 := fun W => AnyE.slices_Clone_nil Try.cloneE 0 0 W
  have h3 := fun W => AnyF.slices_SortFunc_none Try.sortE none 0 (.func (.func 52) #[] #[]) W
  change ∀ W, Calls Try.prog 49 _ _ _ at h1
  change ∀ W, Calls Try.prog 51 _ _ _ at h3
  have H1 := Lib.hid h1
  have H3 := Lib.hid h3
  clear hg h1 h3
  go_enter Try.func23, Try.ntmps23
  go_wp2_with (first | (go_at_call 49; refine (H1.out _).mono ?_; rintro e w1 ⟨rfl, rfl⟩) | (go_at_call 48; refine (del_nil _).mono ?_; rintro e w1 ⟨rfl, rfl⟩) | (go_at_call 51; refine (H3.out _).mono ?_; rintro e w1 ⟨rfl, rfl⟩))
  refine wp_loop_rounds 1 ?_
  rw [rounds_succ]
  go_wp2
  go_ret
  exact ⟨rfl, Below.refl _ _⟩
theorem info85 : (Try.prog.info? 85).map (fun i => (i.zero, i.size, i.bytes)) = some (some (.agg #[.int .i64 0, .int .i64 0, .string ⟨#[]⟩, .int .i64 0]), 4, 40) := by kernel_rfl
theorem encE_one (x : E85) : ∀ v ∈ encE x, v.oneCell' = true := by
  intro v hv
  simp [encE] at hv
  rcases hv with rfl | rfl | rfl | rfl <;> rfl
theorem clone_calls {B g cap : Nat} {l : List E85} {w : World} (h : w.ownsRow B 85 4 (.slice (some ⟨g, 0, none⟩) l.length cap) l.length (cellsE l)) (hn : l.length ≤ 1000000) :
    Calls Try.prog 49 #[.slice (some ⟨g, 0, none⟩) l.length cap] w fun e w' => ∃ b c, e = .returned (.slice (some ⟨b, 0, none⟩) l.length c) ∧ w.heap.size ≤ b ∧ b < w'.heap.size ∧ l.length ≤ c ∧ HoldsK encE 4 w' b 0 l.toArray ∧ Below w.heap.size w w' := by
  obtain ⟨i0, hi, hz0, hz1, hz2⟩ := info_parts info85
  refine (AnyE.slices_Clone Try.cloneE i0 _ 4 40 hi hz0 hz1 hz2 rfl (by decide) Try.sizeOf85 g 0 l.length cap (cellsE l) w (cellsE_len l) (by unfold maxLen; omega) (by omega) (fun j u hj => ?_) (fun u hu => ?_)).mono ?_
  · have hl := (List.getElem?_eq_some_iff.1 hj).1
    rw [cellsE_len] at hl
    rw [Nat.zero_add, World.ownsRow.cellAt h j hl, hj]
  · rw [cellsE, List.mem_flatMap] at hu
    obtain ⟨x, _, hx⟩ := hu
    exact encE_one x u hx
  · rintro e w1 ⟨v, rfl, ho, hne, hb⟩
    rcases ho.2 with ⟨rfl, _⟩ | ⟨b, c, cur, rfl, hb1, hb2, hb3, hb4, hb5, hb6⟩
    · exact absurd rfl hne
    · exact ⟨b, c, rfl, hb1, blk_lt hb2, hb3, holds_of_own (B := w.heap.size) ho, hb⟩
theorem below_holds {B b : Nat} {w w' : World} {d d0 : Array E85} (m : Nat) (os : Array Obj) (hH : HoldsK encE 4 w b 0 d0) (hs : d.size = d0.size) (hb : b < w.heap.size) (hB : B ≤ b) (hw : w' = sortWorldK encE 4 w b 0 m d os) : HoldsK encE 4 w' b 0 d ∧ Below B w w' := by
  subst hw
  have e1 : (putRowK encE 4 (Sort.ahead w m) b 0 d).heap.size = w.heap.size := by unfold putRowK putRow mapBlock; simp [Sort.ahead]
  refine ⟨holdsK_grow encE 4 _ os b 0 d (by rw [e1]; exact hb) (holdsK_putRowK encE 4 (Sort.ahead w m) b 0 d0 d hH hs), below_grow' ?_ (by rw [e1]; omega) os⟩
  exact below_putRow (enc := (id : Value → Value)) ⟨rfl, rfl, rfl, Nat.le_refl _, fun _ _ => rfl⟩ hB
set_option maxHeartbeats 4000000 in
theorem meet_some (B g g0 cap : Nat) (s : ByteArray) (l : List E85) (w : World) (hg : w.heap[g]? = some (.cells #[.string s, .slice (some ⟨g0, 0, none⟩) l.length cap] 49 (0, 0)))
    (ho : w.ownsRow B 85 4 (.slice (some ⟨g0, 0, none⟩) l.length cap) l.length (cellsE l)) (hn : l.length ≤ 1000) (hsm : ∀ x ∈ l, smallE x) :
    Calls Try.prog 23 #[.pointer (some ⟨g, 0, none⟩)] w fun e w' => e = .returned (.bool (meetB l)) ∧ Below w.heap.size w w' := by
  have hc : w.cell? ⟨g, 1, none⟩ = some (.slice (some ⟨g0, 0, none⟩) l.length cap) := by rw [blk_cell hg]; rfl
  have H1 := Lib.hid (clone_calls ho (by omega))
  have HS := Lib.hid hsm
  have hw0 := blk_lt hg
  clear hg ho hsm
  go_enter Try.func23, Try.ntmps23
  go_wp2_with fail
  refine H1.out.mono ?_
  rintro e w1 ⟨b, c, rfl, hb1, hb2, hb3, hH1, hB1⟩
  go_wp2_with fail
  refine (delete_calls b c l.toArray w1 hH1 hb2 (by simp; omega) (by simpa using hb3)).mono ?_
  rintro e w2 ⟨d1, hd1, rfl, hH2, hg2⟩
  have hdl : d1.size ≤ l.length := by
    have := congrArg List.length hd1
    have h2 := List.length_filter_le keepE l
    simp at this
    omega
  have H3 := Lib.hid (AnyQ.slices_SortFunc Try.sortE 4 Try.isAgg85 Try.sizeOf85 encE (fun _ => rfl) encE_one cfE swo_cf 52 #[] b 0 c d1 w2 (enters_of Try.func52 (by kernel_rfl) rfl) (cmp_lays b 0 d1.size w2) hH2 (Nat.lt_of_lt_of_le hb2 hg2.size) (by omega))
  have HD1 := Lib.hid hd1
  have HH2 := Lib.hid hH2
  have HG2 := Lib.hid hg2
  have HB1 := Lib.hid hB1
  clear hd1 hH2 hg2 hB1 hH1
  go_wp2_with fail
  refine H3.out.mono ?_
  rintro e w3 ⟨rfl, d2, m, os, hp, hst, hw3⟩
  obtain ⟨hH3, hB3⟩ := below_holds (B := w.heap.size) m os HH2.out hp.1 (Nat.lt_of_lt_of_le hb2 HG2.out.size) hb1 hw3
  have hB : Below w.heap.size w w3 := (Below.grown HB1.out HG2.out HB1.out.size (fun k hk => by cases hk; exact hb1)).trans hB3
  have hsz : d2.size = d1.size := hp.1
  have hperm : d2.toList.Perm (l.filter keepE) := by
    have h := hp.2.2
    rw [← hsz] at h
    have e1 : (d2.extract 0 d2.size).toList = d2.toList := by simp
    have e2 : (d1.extract 0 d2.size).toList = d1.toList := by rw [hsz]; simp
    rw [e1, e2, HD1.out] at h
    simpa using h
  have hall : ∀ x ∈ d2.toList, smallE x ∧ 0 < x.f0.f1 := fun x hx => by
    have h1 := hperm.mem_iff.1 hx
    rw [List.mem_filter] at h1
    have h2 := HS.out x h1.1
    refine ⟨h2, ?_⟩
    have h3 := h1.2
    unfold keepE at h3
    simp at h3
    unfold smallE at h2
    omega
  have hM : meetB l = !decide (d2.toList.Pairwise fun a b => overE a b = false) := meet_perm hperm
  rw [← hsz]
  rw [← hsz] at hst
  have HM := Lib.hid hM
  have HST := Lib.hid hst
  have HAL := Lib.hid hall
  have HH := Lib.hid hH3
  have HB := Lib.hid hB
  have hn2 : d2.size ≤ 1000 := by omega
  have hc2 : d2.size ≤ c := by omega
  have hb3' : b < w3.heap.size := Nat.lt_of_lt_of_le (Nat.lt_of_lt_of_le hb2 HG2.out.size) hB3.size
  clear hM hst hall hH3 hB hB3 hw3 hp hperm
  have hlen : (0 : Int) ≤ (d2.size : Int) := by omega
  go_wp2_with fail
  go_loopg [15] (d2.size + 1) (fun gk v15 wr => ∃ (x : Int) (k : Nat), v15 = .int .i64 x ∧ Hid (x = (k : Int)) ∧ Hid (k ≤ d2.size ∧ d2.size + 1 - k ≤ gk ∧ ∀ j, j < k → adjE d2 j = false) ∧ Hid (Below w3.heap.size w3 wr))
  case atStart => exact ⟨0, 0, rfl, Lib.hid rfl, Lib.hid ⟨by omega, by omega, fun j hj => absurd hj (by omega)⟩, Lib.hid (Below.refl _ _)⟩
  case round =>
    obtain ⟨x, k, rfl, HXK, HT, HBR⟩ := hrel
    have hbr : b < wr.heap.size := Nat.lt_of_lt_of_le hb3' HBR.out.size
    have HHR := Lib.hid (holdsK_block HH.out (HBR.out.block b hb3'))
    by_cases hlt : k < d2.size
    · have hltz : x < (d2.size : Int) := by have := HXK.out; omega
      have hk0 : (0 : Int) ≤ x := by have := HXK.out; omega
      by_cases hz : k = 0
      · subst hz
        have hx00 : x = 0 := HXK.out
        have g0 : ¬ 0 < x := by omega
        have g1 := decide_eq_false (p := 0 < x) g0
        have hxw : IntKind.i64.wrap (x + 1) = x + 1 := by rw [i64_w, wrap64_small (by omega) (by omega)]
        have HX0 := Lib.hid hx00
        clear hx00
        go_wp2_with fail
        have hmx : Try.prog.follows .mixedOrders = true := by kernel_rfl
        refine wp_region_kept hmx (by kernel_rfl) ?_
        repeat (go_big_quiet_step (fail))
        refine wpQuiet_nil ?_
        rintro _ ⟨pw, rfl⟩
        have HB2 := Lib.hid (HBR.out.trans (pw.h.mono HBR.out.size))
        go_wp2
        go_roundg (d2.size)
        case measure => have := HT.out; omega
        case rel => exact ⟨x + 1, 1, rfl, Lib.hid (by have := HX0.out; omega), Lib.hid ⟨by omega, by omega, fun j hj => by rw [show j = 0 by omega]; rfl⟩, HB2⟩
      · have hx1k : x - 1 = ((k - 1 : Nat) : Int) := by have := HXK.out; omega
        obtain ⟨y, hy⟩ : ∃ y : Int, x - 1 = y := ⟨_, rfl⟩
        have g0 : 0 < x := by have := HXK.out; omega
        have g1 := decide_eq_true g0
        have hy0 : 0 ≤ y := by omega
        have hyn : y < (d2.size : Int) := by omega
        have hyb0 := eq_true hy0
        have hyb1 := eq_true hyn
        have hyw : IntKind.i64.wrap (x - 1) = y := by rw [i64_w, wrap64_small (by omega) (by omega), hy]
        have hxw : IntKind.i64.wrap (x + 1) = x + 1 := by rw [i64_w, wrap64_small (by omega) (by omega)]
        have exk : x.toNat = k := by have := HXK.out; omega
        have eyk : y.toNat = k - 1 := by omega
        obtain ⟨⟨a0, _, _, _⟩, _⟩ := holdsK_at HHR.out k hlt
        obtain ⟨⟨b0, b1, _, _⟩, _⟩ := holdsK_at HHR.out (k - 1) (by omega)
        rw [← exk] at a0
        rw [← eyk] at b0 b1
        have hadj : adjE d2 k = decide (d2[x.toNat]!.f0.f0 < d2[y.toNat]!.f0.f0 + d2[y.toNat]!.f0.f1) := by unfold adjE; rw [decide_eq_true (show 0 < k by omega), Bool.true_and, exk, eyk]
        have hsy := (HAL.out d2[y.toNat]! (by rw [bang d2 y.toNat (by omega)]; exact List.getElem_mem _)).1
        have hsx := (HAL.out d2[x.toNat]! (by rw [bang d2 x.toNat (by omega)]; exact List.getElem_mem _)).1
        unfold smallE at hsy hsx
        generalize d2[x.toNat]!.f0.f0 = ax at a0 hadj hsx
        generalize d2[y.toNat]!.f0.f0 = ay at b0 hadj hsy
        generalize d2[y.toNat]!.f0.f1 = my at b1 hadj hsy
        have HE := Lib.hid (fun W => span_end ay my W (by omega) (by omega) (by omega) (by omega))
        have p0 := kept_cell a0
        have p1 := kept_cell b0
        have p2 := kept_cell b1
        clear hsx hsy exk eyk hx1k hy a0 b0 b1
        cases hq : decide (ax < ay + my) with
        | true =>
          have hqt : ax < ay + my := of_decide_eq_true hq
          rw [hq] at hadj
          have HA := Lib.hid hadj
          clear hadj
          go_wp2_with fail
          have hmx : Try.prog.follows .mixedOrders = true := by kernel_rfl
          refine wp_region_kept hmx (by kernel_rfl) ?_
          repeat (go_big_quiet_step (exact kept_calls (HE.out _)))
          refine wpQuiet_nil ?_
          rintro _ ⟨pw, rfl⟩
          have HB2 := Lib.hid (HBR.out.trans (pw.h.mono HBR.out.size))
          go_wp2
          go_ret
          exact ⟨by rw [HM.out, adj_meets HST.out (fun x hx => (HAL.out x hx).2) k hlt HA.out]; rfl, HB.out.trans (HB2.out.mono HB.out.size)⟩
        | false =>
          have hqt : ¬ ax < ay + my := of_decide_eq_false hq
          rw [hq] at hadj
          have HA := Lib.hid hadj
          clear hadj
          go_wp2_with fail
          have hmx : Try.prog.follows .mixedOrders = true := by kernel_rfl
          refine wp_region_kept hmx (by kernel_rfl) ?_
          repeat (go_big_quiet_step (exact kept_calls (HE.out _)))
          refine wpQuiet_nil ?_
          rintro _ ⟨pw, rfl⟩
          have HB2 := Lib.hid (HBR.out.trans (pw.h.mono HBR.out.size))
          go_wp2
          go_roundg (d2.size - k)
          case measure => have := HT.out; omega
          case rel =>
            refine ⟨x + 1, k + 1, rfl, Lib.hid (by have := HXK.out; omega), Lib.hid ⟨by omega, by omega, fun j hj => ?_⟩, HB2⟩
            rcases Nat.lt_or_ge j k with h | h
            · exact HT.out.2.2 j h
            · rw [show j = k by omega]; exact HA.out
    · have hke : k = d2.size := by have := HT.out; omega
      have hltz : ¬ x < (d2.size : Int) := by have := HXK.out; omega
      have hno := HT.out.2.2
      rw [hke] at hno
      have HN := Lib.hid hno
      clear hno
      go_wp2
      go_ret
      exact ⟨by rw [HM.out, none_meets HST.out HN.out]; rfl, HB.out.trans (HBR.out.mono HB.out.size)⟩
theorem meet_calls (B g : Nat) (s : ByteArray) (l : List E85) (w : World) (hf : FileAt B w g s l) (hn : l.length ≤ 1000) (hsm : ∀ x ∈ l, smallE x) :
    Calls Try.prog 23 #[.pointer (some ⟨g, 0, none⟩)] w fun e w' => e = .returned (.bool (meetB l)) ∧ Below w.heap.size w w' := by
  obtain ⟨hB, v, hg, ho⟩ := hf
  have ho2 := ho
  rcases ho.2 with ⟨rfl, h0⟩ | ⟨b, c, cur, rfl, hb1, hb2, hb3, hb4, hb5, hb6⟩
  · have : l = [] := List.length_eq_zero_iff.1 h0
    subst this
    exact meet_nil B g s w hg
  · exact meet_some B g b c s l w hg ho2 hn hsm
end Go.Proofs.Ytgchajlfopmcjaa.P
namespace Go.Proofs.Ytgchajlfopmcjaa.P
open Go.Shelf Go.RowKit Go.Proofs.YtgchajlfopmcjaaW.PrintWords Go.Proofs.YtgchajlfopmcjaaW.PrintLast Go.Proofs.YtgchajlfopmcjaaW.PrintMore Go.Proofs.Ytgchajlfopmcjaa.BN
set_option linter.unusedVariables false
set_option linter.unusedSimpArgs false
set_option maxRecDepth 100000
/-- The number of four bytes at a place. -/
def nm (s : ByteArray) (a : Nat) : Int := be (((bytesl s).drop a).take 4)
theorem nm_small (s : ByteArray) (a : Nat) : 0 ≤ nm s a ∧ nm s a < 4294967296 := be_small _ (List.length_take_le _ _)
theorem get3 (s : ByteArray) (a : Nat) (hs : s.size ≤ 16777216) (ha : a + 12 ≤ s.size) : bin_Get.f s (a : Int) [4, 4, 4] = some ([nm s a, nm s (a + 4), nm s (a + 8)], 0) := by
  rw [get_spec s (a : Int) [4, 4, 4] (by omega) (by simp)]
  unfold gspec
  have hr : rightB [4, 4, 4] = true := by decide
  rw [if_neg (by rw [hr]; simp), if_neg (by omega)]
  simp [tot, vals, tvl, nm, List.drop_drop]
  omega
/-- A file's record, by its number. -/
def recE (s : ByteArray) (i : Nat) : E85 := ⟨⟨nm s (12 + 16 * i + 8), nm s (12 + 16 * i + 12)⟩, s.extract (12 + 16 * i) (12 + 16 * i + 4), nm s (12 + 16 * i + 4)⟩
def recsE (s : ByteArray) (n : Nat) : List E85 := (List.range n).map (recE s)
theorem recsE_succ (s : ByteArray) (n : Nat) : recsE s (n + 1) = recsE s n ++ [recE s n] := by unfold recsE; rw [List.range_succ, List.map_append]; rfl
theorem recsE_length (s : ByteArray) (n : Nat) : (recsE s n).length = n := by unfold recsE; simp
theorem recE_small (s : ByteArray) (i : Nat) : smallE (recE s i) := by
  have h1 := nm_small s (12 + 16 * i + 8)
  have h2 := nm_small s (12 + 16 * i + 12)
  unfold smallE recE
  simp only
  omega
/-- Is a record wrong, ahead of its table? -/
def badR (s : ByteArray) (many i : Nat) : Bool :=
  !tagB (recE s i).f1 || (decide (0 < i) && !Op.bytesLess (recE s (i - 1)).f1.toList (recE s i).f1.toList) || decide ((recE s i).f0.f0 % 4 ≠ 0) || decide ((recE s i).f0.f0 < 12 + 16 * (many : Int))
def dataR (s : ByteArray) (i : Nat) : ByteArray := s.extract (recE s i).f0.f0.toNat ((recE s i).f0.f0 + (recE s i).f0.f1).toNat
/-- The error of a record: 0: none. -/
def errR (s : ByteArray) (many i : Nat) : Int :=
  if badR s many i then 5 else if (s.size : Int) < (recE s i).f0.f0 + (recE s i).f0.f1 then 4 else if tabSum (recE s i).f1 (dataR s i) ≠ (recE s i).f2 then 5 else 0
def tabR (s : ByteArray) (many i : Nat) : S33 := if errR s many i = 0 then ⟨(recE s i).f1, dataR s i⟩ else z33
/-- Blocks of other types than a file's and its entries' stay. -/
def KeptT (w w' : World) : Prop := w.heap.size ≤ w'.heap.size ∧ ∀ (k : Nat) (cells : Array Value) (T : Nat) (fr : Nat × Nat), w.heap[k]? = some (Obj.cells cells T fr) → T ≠ 49 → T ≠ 85 → w'.heap[k]? = w.heap[k]?
theorem KeptT.refl (w : World) : KeptT w w := ⟨Nat.le_refl _, fun _ _ _ _ _ _ _ => rfl⟩
theorem KeptT.trans {a b c : World} (h : KeptT a b) (k : KeptT b c) : KeptT a c := ⟨Nat.le_trans h.1 k.1, fun q cells T fr hq h1 h2 => by
  have e := h.2 q cells T fr hq h1 h2
  rw [k.2 q cells T fr (e.trans hq) h1 h2, e]⟩
theorem KeptT.below {w w' : World} (h : Below w.heap.size w w') : KeptT w w' := ⟨h.size, fun k _ _ _ hk _ _ => h.block k (blk_lt hk)⟩
theorem KeptT.grown {w w' : World} {row : Option Nat} (h : w.grownBy w' row) (hr : ∀ k, row = some k → ∃ cells fr, w.heap[k]? = some (.cells cells 85 fr)) : KeptT w w' := ⟨h.size, fun k cells T fr hk _ h2 => h.block k (blk_lt hk) (fun e => by
  obtain ⟨c2, f2, h3⟩ := hr k e.symm
  rw [hk] at h3
  cases h3
  exact h2 rfl)⟩
theorem KeptT.set_ {w : World} {g : Nat} {cs : Array Value} {fr : Nat × Nat} (h : w.heap[g]? = some (.cells cs 49 fr)) (j : Nat) (v : Value) : KeptT w (w.setCell ⟨g, j, none⟩ v) := ⟨by simp, fun k cells T fr2 hk h1 h2 => Below.heap_setCell w ⟨g, j, none⟩ v k (fun e => by
  rw [show k = g from e, h] at hk
  cases hk
  exact h1 rfl)⟩
theorem K_row (vs : List Int) (w : World) (g : Nat) (hl : vs.length ≤ 9223372036854775807) (hg : ∀ j : Nat, j < vs.length → w.cell? ⟨g, j, none⟩ = some (.int .i64 (vs.getD j 0))) : Kd.C (Kd.int .i64) w (some ⟨g, 0, none⟩) vs.length vs := by
  refine Kd.C_of_reads (d := 0) ⟨rfl, hl, fun _ => ⟨⟨g, 0, none⟩, rfl, fun j hj => ?_⟩⟩
  have := hg j hj
  rw [show (⟨g, 0, none⟩ : Addr).add j = ⟨g, j, none⟩ by unfold Addr.add; by_cases h : j = 0 <;> simp [h]]
  exact this
theorem read_get (s : ByteArray) (a : Nat) (hs : s.size ≤ 16777216) (ha : a + 12 ≤ s.size) (w : World) (g : Nat) (hg : g = w.heap.size) :
    Calls Try.prog 19 #[.string s, .int .i64 (a : Int), .slice (some ⟨g, 0, none⟩) 3 3] (w.alloc (.cells #[.int .i64 4, .int .i64 4, .int .i64 4] 3)) fun e w' => ∃ (b c : Nat), e = .returned (.tuple #[.slice (some ⟨b, 0, none⟩) 3 c, .int .i64 0]) ∧
      (w'.cell? ⟨b, 0, none⟩ = some (.int .i64 (nm s a)) ∧ w'.cell? ⟨b, 1, none⟩ = some (.int .i64 (nm s (a + 4))) ∧ w'.cell? ⟨b, 2, none⟩ = some (.int .i64 (nm s (a + 8)))) ∧ w.heap.size + 1 ≤ b ∧ b < w'.heap.size ∧ Below w.heap.size w w' := by
  subst hg
  have hr : Kd.C (Kd.int .i64) (w.alloc (.cells #[.int .i64 4, .int .i64 4, .int .i64 4] 3)) (some ⟨w.heap.size, 0, none⟩) 3 [4, 4, 4] := K_row [4, 4, 4] _ _ (by simp) (fun j hj => by
    simp only [World.cell?, heap_alloc_new]
    obtain rfl | rfl | rfl : j = 0 ∨ j = 1 ∨ j = 2 := by simp at hj; omega
    all_goals rfl)
  refine (bin_Get.calls s (a : Int) _ 3 [4, 4, 4] _ _ _ hr (Nat.le_refl _) (get3 s a hs ha)).mono ?_
  rintro e w' ⟨v, he, hv, hb⟩
  obtain ⟨b, c, rfl, hb1, hb2, cells, hbc⟩ := Kd.R_form hv (by simp)
  have hq := Kd.own_of_R hv
  refine ⟨b, c, he, ⟨?_, ?_, ?_⟩, by simpa using hb1, hb2, ((Below.refl w.heap.size w).alloc (Nat.le_refl _) _).trans (hb.mono (by simp))⟩
  · exact World.ownsRow.cellAt hq 0 (by simp)
  · exact World.ownsRow.cellAt hq 1 (by simp)
  · exact World.ownsRow.cellAt hq 2 (by simp)
end Go.Proofs.Ytgchajlfopmcjaa.P
namespace Go.Proofs.Ytgchajlfopmcjaa.P
open Go.Shelf Go.RowKit Go.Proofs.YtgchajlfopmcjaaW.PrintWords Go.Proofs.YtgchajlfopmcjaaW.PrintLast Go.Proofs.YtgchajlfopmcjaaW.PrintMore Go.Proofs.Ytgchajlfopmcjaa.BN
set_option linter.unusedVariables false
set_option linter.unusedSimpArgs false
set_option maxRecDepth 100000
/-- The number of two bytes at a place. -/
def nm2 (s : ByteArray) (a : Nat) : Int := be (((bytesl s).drop a).take 2)
theorem nm2_small (s : ByteArray) (a : Nat) : 0 ≤ nm2 s a ∧ nm2 s a < 65536 := by
  have h := be_bound (((bytesl s).drop a).take 2)
  have hl : (((bytesl s).drop a).take 2).length ≤ 2 := List.length_take_le _ _
  unfold nm2
  generalize be (((bytesl s).drop a).take 2) = x at h ⊢
  generalize (((bytesl s).drop a).take 2).length = k at h hl
  obtain rfl | rfl | rfl : k = 0 ∨ k = 1 ∨ k = 2 := by omega
  all_goals omega
def verB (x : Int) : Bool := decide (x = 65536) || decide (x = 1330926671)
def frontS (s : ByteArray) : Int × Int × Int :=
  if 16777216 < s.size then (0, 0, 7) else if s.size < 12 then (0, 0, 4) else if verB (nm s 0) = false then (0, 0, 5)
  else if 64 < nm2 s 4 then (0, 0, 7) else if (s.size : Int) < 12 + 16 * nm2 s 4 then (0, 0, 4) else (nm s 0, nm2 s 4, 0)
def sizes5 : List Int := [4, 2, 2, 2, 2]
theorem get5 (s : ByteArray) (hs : s.size ≤ 16777216) : bin_Get.f s 0 sizes5 = some (if 12 ≤ s.size then ([nm s 0, nm2 s 4, nm2 s 6, nm2 s 8, nm2 s 10], 0) else ([], 4)) := by
  rw [get_spec s 0 sizes5 (by omega) (by decide)]
  unfold gspec
  rw [if_neg (by decide), if_neg (by omega)]
  simp only [sizes5, tot, vals, tvl, nm, nm2, List.drop_drop]
  by_cases h : 12 ≤ s.size <;> simp [h]
theorem ver_any (x : Int) (w : World) : Calls Try.prog 28 #[.int .i64 x] w fun e w' => e = .returned (.bool (verB x)) ∧ Below w.heap.size w w' := by
  refine (sfnt_version.calls x (verB x) w ?_).mono fun _ _ ⟨he, hd⟩ => ⟨he, Drawn0.below hd⟩
  unfold sfnt_version.f verB
  by_cases h : x = 65536
  · rw [if_pos h, decide_eq_true h]; rfl
  · rw [if_neg h, decide_eq_false h, Bool.false_or]; rfl
theorem lit5 (w : World) (g : Nat) (hg : g = w.heap.size) : Kd.C (Kd.int .i64) (w.alloc (.cells #[.int .i64 4, .int .i64 2, .int .i64 2, .int .i64 2, .int .i64 2] 3)) (some ⟨g, 0, none⟩) 5 sizes5 := by
  subst hg
  exact K_row sizes5 _ _ (by decide) (fun j hj => by
    simp only [World.cell?, heap_alloc_new]
    obtain rfl | rfl | rfl | rfl | rfl : j = 0 ∨ j = 1 ∨ j = 2 ∨ j = 3 ∨ j = 4 := by simp [sizes5] at hj; omega
    all_goals rfl)
theorem front_get (s : ByteArray) (hs : s.size ≤ 16777216) (h12 : 12 ≤ s.size) (w : World) (g : Nat) (hg : g = w.heap.size) :
    Calls Try.prog 19 #[.string s, .int .i64 0, .slice (some ⟨g, 0, none⟩) 5 5] (w.alloc (.cells #[.int .i64 4, .int .i64 2, .int .i64 2, .int .i64 2, .int .i64 2] 3)) fun e w' => ∃ (b c : Nat), e = .returned (.tuple #[.slice (some ⟨b, 0, none⟩) 5 c, .int .i64 0]) ∧
      w'.cell? ⟨b, 0, none⟩ = some (.int .i64 (nm s 0)) ∧ w'.cell? ⟨b, 1, none⟩ = some (.int .i64 (nm2 s 4)) ∧ Below w.heap.size w w' := by
  have h5 := get5 s hs
  rw [if_pos h12] at h5
  refine (bin_Get.calls s 0 _ 5 sizes5 _ _ _ (lit5 w g hg) (Nat.le_refl _) h5).mono ?_
  rintro e w' ⟨v, he, hv, hb⟩
  obtain ⟨b, c, rfl, hb1, hb2, cells, hbc⟩ := Kd.R_form hv (by simp)
  have hq := Kd.own_of_R hv
  exact ⟨b, c, he, World.ownsRow.cellAt hq 0 (by simp), World.ownsRow.cellAt hq 1 (by simp), ((Below.refl w.heap.size w).alloc (Nat.le_refl _) _).trans (hb.mono (by simp))⟩
theorem front_none (s : ByteArray) (hs : s.size ≤ 16777216) (h12 : ¬ 12 ≤ s.size) (w : World) (g : Nat) (hg : g = w.heap.size) :
    Calls Try.prog 19 #[.string s, .int .i64 0, .slice (some ⟨g, 0, none⟩) 5 5] (w.alloc (.cells #[.int .i64 4, .int .i64 2, .int .i64 2, .int .i64 2, .int .i64 2] 3)) fun e w' => ∃ (A : Option Addr) (c : Nat), e = .returned (.tuple #[.slice A 0 c, .int .i64 4]) ∧ Below w.heap.size w w' := by
  have h5 := get5 s hs
  rw [if_neg h12] at h5
  refine (bin_Get.calls s 0 _ 5 sizes5 _ _ _ (lit5 w g hg) (Nat.le_refl _) h5).mono ?_
  rintro e w' ⟨v, he, hv, hb⟩
  obtain ⟨A, c, rfl⟩ := Kd.R_slice hv
  exact ⟨A, c, he, ((Below.refl w.heap.size w).alloc (Nat.le_refl _) _).trans (hb.mono (by simp))⟩
set_option maxHeartbeats 4000000 in
theorem front_calls (s : ByteArray) (g : Nat) (w : World) (hc : w.cell? ⟨g, 0, none⟩ = some (.string s)) (hs : s.size ≤ 140737488351232) :
    Calls Try.prog 21 #[.pointer (some ⟨g, 0, none⟩)] w fun e w' => e = .returned (.tuple #[.int .i64 (frontS s).1, .int .i64 (frontS s).2.1, .int .i64 (frontS s).2.2]) ∧ Below w.heap.size w w' := by
  have hgl : g < w.heap.size := World.block_lt_of_cell? _ _ hc
  by_cases hL : 16777216 < s.size
  · have hLz : (16777216 : Int) < (s.size : Int) := by omega
    have hr : frontS s = (0, 0, 7) := by unfold frontS; rw [if_pos hL]
    rw [hr]
    clear hr
    go_enter Try.func21, Try.ntmps21
    go_wp2
    go_ret3
    exact ⟨rfl, Below.refl _ _⟩
  · have hLz : ¬ (16777216 : Int) < (s.size : Int) := by omega
    by_cases h12 : 12 ≤ s.size
    · have HGET := Lib.hid (fun W G hG => front_get s (by omega) h12 W G hG)
      obtain ⟨v, hv⟩ : ∃ v, nm s 0 = v := ⟨_, rfl⟩
      obtain ⟨m, hm⟩ : ∃ m, nm2 s 4 = m := ⟨_, rfl⟩
      have hms := nm2_small s 4
      have hr : frontS s = if verB v = false then (0, 0, 5) else if 64 < m then (0, 0, 7) else if (s.size : Int) < 12 + 16 * m then (0, 0, 4) else (v, m, 0) := by unfold frontS; rw [if_neg hL, if_neg (by omega), hv, hm]
      rw [hm] at hms
      have HR := Lib.hid hr
      have HV := Lib.hid hv
      have HM := Lib.hid hm
      have HVB := Lib.hid (ver_any v)
      clear hr hv hm
      obtain ⟨hm0, hm1⟩ := hms
      go_enter Try.func21, Try.ntmps21
      go_wp2_with fail
      refine (HGET.out _ _ (by simp)).mono ?_
      rintro e w1 ⟨b, c, rfl, q0, q1, hb⟩
      rw [HV.out] at q0
      rw [HM.out] at q1
      have d0 := (hb.cell (p := ⟨g, 0, none⟩) hgl).trans hc
      have HB := Lib.hid hb
      clear hb
      go_wp2_with fail
      refine (HVB.out _).mono ?_
      rintro e w2 ⟨rfl, hb2⟩
      have d2 := pw_cell_below hb2 d0
      have x0 := pw_cell_below hb2 q0
      have x1 := pw_cell_below hb2 q1
      have HB2 := Lib.hid (HB.out.trans (hb2.mono HB.out.size))
      have HR2 := Lib.hid HR.out
      clear hb2 d0 q0 q1
      cases hvb : verB v with
      | false =>
        have HR3 := Lib.hid (HR.out.trans (if_pos hvb))
        clear hvb
        go_wp2
        go_ret3
        exact ⟨by rw [HR3.out]; rfl, HB2.out⟩
      | true =>
        have HR3 := Lib.hid (HR.out.trans (if_neg (by rw [hvb]; decide)))
        clear hvb
        by_cases h64 : 64 < m
        · have HR4 := Lib.hid (HR3.out.trans (if_pos h64))
          go_wp2
          go_ret3
          exact ⟨by rw [HR4.out]; rfl, HB2.out⟩
        · have HR4 := Lib.hid (HR3.out.trans (if_neg h64))
          by_cases hfit : (s.size : Int) < 12 + 16 * m
          · have HR5 := Lib.hid (HR4.out.trans (if_pos hfit))
            go_wp2_with fail
            go_quiet (fail)
            go_wp2
            go_ret3
            exact ⟨by rw [HR5.out]; rfl, HB2.out.trans (Drawn0.below ⟨⟨_, rfl⟩⟩ |>.mono HB2.out.size)⟩
          · have HR5 := Lib.hid (HR4.out.trans (if_neg hfit))
            go_wp2_with fail
            go_quiet (fail)
            go_wp2_with fail
            go_quiet (fail)
            go_wp2
            go_ret3
            exact ⟨by rw [HR5.out]; rfl, HB2.out.trans (Drawn0.below (Drawn0.step (Drawn0.step (Drawn0.refl _) _) _) |>.mono HB2.out.size)⟩
    · have HGET := Lib.hid (fun W G hG => front_none s (by omega) h12 W G hG)
      have hr : frontS s = (0, 0, 4) := by unfold frontS; rw [if_neg hL, if_pos (by omega)]
      have HR := Lib.hid hr
      clear hr
      go_enter Try.func21, Try.ntmps21
      go_wp2_with fail
      refine (HGET.out _ _ (by simp)).mono ?_
      rintro e w1 ⟨A, c, rfl, hb⟩
      go_wp2
      go_ret3
      exact ⟨by rw [HR.out]; rfl, hb⟩
end Go.Proofs.Ytgchajlfopmcjaa.P
namespace Go.Proofs.Ytgchajlfopmcjaa.P
open Go.Shelf Go.RowKit Go.Proofs.YtgchajlfopmcjaaW.PrintWords Go.Proofs.YtgchajlfopmcjaaW.PrintLast Go.Proofs.YtgchajlfopmcjaaW.PrintMore Go.Proofs.Ytgchajlfopmcjaa.BN
set_option linter.unusedVariables false
set_option linter.unusedSimpArgs false
set_option maxRecDepth 100000
attribute [local go_sem ↓] Go.wp_at_zero Go.wp_at_succ
/-- What is known behind the append. -/
structure Mid (B : Nat) (w w4 : World) (g X : Nat) (s : ByteArray) (n g' cap : Nat) : Prop where
  file : FileAt B w4 g s (recsE s (n + 1))
  below : Below B w w4
  kept : KeptT w w4
  c0 : w4.cell? ⟨g, 0, none⟩ = some (.string s)
  c1 : w4.cell? ⟨g, 1, none⟩ = some (.slice (some ⟨g', 0, none⟩) (n + 1) cap)
  x : w4.heap[X]? = some (.cells #[.int .i64 (recE s n).f0.f0, .int .i64 (recE s n).f0.f1, .string (recE s n).f1, .int .i64 (recE s n).f2] 85 (0, 0))
  r : w4.heap[w.heap.size]? = some (.cells #[.string ⟨#[]⟩, .string ⟨#[]⟩] 33 (0, 0))
  prev : 0 < n → w4.cell? ⟨g', (n - 1) * 4 + 2, none⟩ = some (.string (recE s (n - 1)).f1)
theorem recsE_getD (s : ByteArray) (n j : Nat) (h : j < n) : (recsE s n).getD j zE85 = recE s j := by
  unfold recsE
  rw [List.getD_eq_getElem?_getD, List.getElem?_map, List.getElem?_range h]; rfl
theorem mid_facts {B : Nat} {w w1 w2 w3 : World} {g X g' cap n c : Nat} {A : Option Addr} {s : ByteArray} {x : E85} (hx : recE s n = x) (hBg : B ≤ g) (hB : B ≤ w.heap.size) (hg : w.heap[g]? = some (.cells #[.string s, .slice A n c] 49 (0, 0)))
    (ho : w.ownsRow B 85 4 (.slice A n c) n (cellsE (recsE s n))) (h1 : Below w.heap.size w w1) (hr : w1.heap[w.heap.size]? = some (.cells #[.string ⟨#[]⟩, .string ⟨#[]⟩] 33 (0, 0))) (hs1 : w.heap.size + 1 ≤ w1.heap.size)
    (h2 : Below w1.heap.size w1 w2) (hX : X = w1.heap.size) (hxb : w2.heap[X]? = some (.cells #[.int .i64 x.f0.f0, .int .i64 x.f0.f1, .string x.f1, .int .i64 x.f2] 85 (0, 0)))
    (ho3 : w3.ownsRow B 85 4 (.slice (some ⟨g', 0, none⟩) (n + 1) cap) (n + 1) (cellsE (recsE s n) ++ [.int .i64 x.f0.f0, .int .i64 x.f0.f1, .string x.f1, .int .i64 x.f2]))
    (hg3 : w2.grownBy w3 (Value.slice A n c).ownBlock) :
    (w3.cell? ⟨g, 1, none⟩ = some (.slice A n c) ∧ w3.frozen? ⟨g, 1, none⟩ = false ∧ w3.heap[X]? = w2.heap[X]?) ∧ Mid B w (w3.setCell ⟨g, 1, none⟩ (.slice (some ⟨g', 0, none⟩) (n + 1) cap)) g X s n g' cap := by
  subst hx hX
  have hgl := blk_lt hg
  have hne : some g ≠ (Value.slice A n c).ownBlock := own_ne ho hg (by decide)
  have hlt : ∀ k, (Value.slice A n c).ownBlock = some k → B ≤ k ∧ k < w.heap.size := fun k hk => ⟨own_base ho k hk, own_lt ho k hk⟩
  have h12 : Below w.heap.size w w2 := h1.trans (h2.mono h1.size)
  have hg2 : w2.heap[g]? = some (.cells #[.string s, .slice A n c] 49 (0, 0)) := (h12.block g hgl).trans hg
  have hgw3 : w3.heap[g]? = some (.cells #[.string s, .slice A n c] 49 (0, 0)) := (hg3.block g (Nat.lt_of_lt_of_le hgl h12.size) hne).trans hg2
  have hx3 : w3.heap[w1.heap.size]? = w2.heap[w1.heap.size]? := hg3.block _ (blk_lt hxb) (fun e => by have := (hlt _ e.symm).2; omega)
  have hr2 : w2.heap[w.heap.size]? = some (.cells #[.string ⟨#[]⟩, .string ⟨#[]⟩] 33 (0, 0)) := (h2.block _ (by omega)).trans hr
  have hr3 : w3.heap[w.heap.size]? = some (.cells #[.string ⟨#[]⟩, .string ⟨#[]⟩] 33 (0, 0)) := (hg3.block _ (blk_lt hr2) (fun e => by have := (hlt _ e.symm).2; omega)).trans hr2
  have hbel : Below B w w3 := Below.grown (h12.mono hB) hg3 (Nat.le_trans hB h12.size) (fun k hk => (hlt k hk).1)
  have hrows : cellsE (recsE s n) ++ encE (recE s n) = cellsE (recsE s (n + 1)) := by rw [recsE_succ, cellsE, cellsE, List.flatMap_append]; simp
  have ho3' : w3.ownsRow B 85 4 (.slice (some ⟨g', 0, none⟩) (n + 1) cap) (n + 1) (cellsE (recsE s (n + 1))) := by rw [← hrows]; exact ho3
  have hgg : g ≠ g' := fun e => by
    subst e
    have h4 := own_ne ho3' hgw3 (by decide)
    exact h4 rfl
  have ho4 : (w3.setCell ⟨g, 1, none⟩ (.slice (some ⟨g', 0, none⟩) (n + 1) cap)).ownsRow B 85 4 (.slice (some ⟨g', 0, none⟩) (n + 1) cap) (n + 1) (cellsE (recsE s (n + 1))) := own_setCell ho3' (p := ⟨g, 1, none⟩) (by simp [Value.ownBlock]; exact hgg) _
  have hg4 := blk_set hgw3 1 (.slice (some ⟨g', 0, none⟩) (n + 1) cap)
  refine ⟨⟨by rw [blk_cell hgw3]; rfl, blk_frozen hgw3 1, hx3⟩, ?_⟩
  exact {
    file := ⟨hBg, _, hg4, by rw [recsE_length]; exact ho4⟩
    below := hbel.setCell hBg _
    kept := KeptT.trans (KeptT.trans (KeptT.below h12) (KeptT.grown hg3 (fun k hk => by
      have e := (h12.block k (hlt k hk).2)
      obtain ⟨cells, h⟩ := own_typed ho k hk
      exact ⟨cells, (0, 0), e.trans h⟩))) (KeptT.set_ hgw3 1 _)
    c0 := by rw [blk_cell hg4]; rfl
    c1 := by rw [blk_cell hg4]; rfl
    x := by rw [Below.heap_setCell w3 ⟨g, 1, none⟩ _ _ (by show w1.heap.size ≠ g; have := h1.size; omega), hx3]; exact hxb
    r := by rw [Below.heap_setCell w3 ⟨g, 1, none⟩ _ _ (by show w.heap.size ≠ g; omega)]; exact hr3
    prev := fun h0 => by
      rw [World.ownsRow.cellAt ho4 ((n - 1) * 4 + 2) (by omega), cellsE_at _ (n - 1) 2 (by rw [recsE_length]; omega) (by decide), recsE_getD s (n + 1) (n - 1) (by omega)]
      rfl }
theorem mid_end {B : Nat} {w w4 w5 : World} {g X g' cap n : Nat} {s : ByteArray} (hm : Mid B w w4 g X s n g' cap) (hB : B ≤ w.heap.size) (hb : Below w4.heap.size w4 w5) (u v : Value) :
    FileAt B ((w5.setCell ⟨w.heap.size, 0, none⟩ u).setCell ⟨w.heap.size, 1, none⟩ v) g s (recsE s (n + 1)) ∧ Below B w ((w5.setCell ⟨w.heap.size, 0, none⟩ u).setCell ⟨w.heap.size, 1, none⟩ v) ∧ KeptT w ((w5.setCell ⟨w.heap.size, 0, none⟩ u).setCell ⟨w.heap.size, 1, none⟩ v) := by
  have hr5 := (hb.block _ (blk_lt hm.r)).trans hm.r
  obtain ⟨hBg, vv, hg4, ho4⟩ := hm.file
  have hg5 := (hb.block _ (blk_lt hg4)).trans hg4
  have ho5 := pw_own_below ho4 hb
  have n1 : w.heap.size ≠ g := blk_ne hr5 hg5 (by decide)
  have n2 : some w.heap.size ≠ vv.ownBlock := own_ne ho5 hr5 (by decide)
  have hbe : Below B w w5 := hm.below.trans (hb.mono (Nat.le_trans hB hm.below.size))
  refine ⟨⟨hBg, vv, ?_, ?_⟩, (hbe.setCell hB _).setCell hB _, ?_⟩
  · rw [Below.heap_setCell _ ⟨w.heap.size, 1, none⟩ v g (Ne.symm n1), Below.heap_setCell _ ⟨w.heap.size, 0, none⟩ u g (Ne.symm n1)]; exact hg5
  · exact own_setCell (own_setCell ho5 (p := ⟨w.heap.size, 0, none⟩) n2 u) (p := ⟨w.heap.size, 1, none⟩) n2 v
  · have hk := KeptT.trans hm.kept (KeptT.below hb)
    refine ⟨by simp; exact hk.1, fun k cells T fr h1 h2 h3 => ?_⟩
    have hlt := blk_lt h1
    rw [Below.heap_setCell _ ⟨w.heap.size, 1, none⟩ v k (by show k ≠ w.heap.size; omega), Below.heap_setCell _ ⟨w.heap.size, 0, none⟩ u k (by show k ≠ w.heap.size; omega)]
    exact hk.2 k cells T fr h1 h2 h3
theorem keep4 {W W' : World} (hb : Below W.heap.size W W') {a b c d : Addr} {va vb vc vd : Value} (h : W.cell? a = some va ∧ W.cell? b = some vb ∧ W.cell? c = some vc ∧ W.cell? d = some vd) :
    W'.cell? a = some va ∧ W'.cell? b = some vb ∧ W'.cell? c = some vc ∧ W'.cell? d = some vd := ⟨pw_cell_below hb h.1, pw_cell_below hb h.2.1, pw_cell_below hb h.2.2.1, pw_cell_below hb h.2.2.2⟩
theorem keep4s {W : World} {Y i : Nat} {u : Value} {a b c d : Addr} {va vb vc vd : Value} (ha : ¬ a.block = Y) (hb : ¬ b.block = Y) (hc : ¬ c.block = Y) (hd : ¬ d.block = Y) (h : W.cell? a = some va ∧ W.cell? b = some vb ∧ W.cell? c = some vc ∧ W.cell? d = some vd) :
    (W.setCell ⟨Y, i, none⟩ u).cell? a = some va ∧ (W.setCell ⟨Y, i, none⟩ u).cell? b = some vb ∧ (W.setCell ⟨Y, i, none⟩ u).cell? c = some vc ∧ (W.setCell ⟨Y, i, none⟩ u).cell? d = some vd := by
  have k : ∀ q : Addr, ¬ q.block = Y → (W.setCell ⟨Y, i, none⟩ u).cell? q = W.cell? q := fun q hq => World.cell?_of_block (Below.heap_setCell W ⟨Y, i, none⟩ u q.block hq)
  rw [k a ha, k b hb, k c hc, k d hd]
  exact h
theorem new_cells {w w2 : World} {C : Array Value} {T : TypeId} (hb : Below (w.alloc (.cells C T)).heap.size (w.alloc (.cells C T)) w2) : w2.heap[w.heap.size]? = some (.cells C T (0, 0)) := (hb.block _ (by simp)).trans (heap_alloc_new w _)
theorem new_cellsD {w w2 : World} {C : Array Value} {T : TypeId} (hb : Below (w.alloc (.cells C T)).drew.heap.size (w.alloc (.cells C T)).drew w2) : w2.heap[w.heap.size]? = some (.cells C T (0, 0)) := (hb.block w.heap.size (by show w.heap.size < (w.alloc (.cells C T)).heap.size; simp)).trans (heap_alloc_new w _)
theorem tail1 {w4 w6 w7 : World} {o : Obj} (h6 : Below w4.heap.size w4 w6) (hbk : Below w6.drew.heap.size w6.drew w7) : Below w4.heap.size w4 (w7.alloc o) := by
  have h7 : Below w6.heap.size w6 w7 := (below_drew (Below.refl w6.heap.size w6)).trans hbk
  have h8 : Below w4.heap.size w4 w7 := h6.trans (h7.mono h6.size)
  exact below_alloc h8 _
theorem tail2 {w4 w6 w7 : World} {C : Array Value} {T : TypeId} {u v : Value} (h6 : Below w4.heap.size w4 w6) (hbk : Below (w6.alloc (.cells C T)).drew.heap.size (w6.alloc (.cells C T)).drew w7) :
    Below w4.heap.size w4 ((w7.setCell ⟨w6.heap.size, 0, none⟩ u).setCell ⟨w6.heap.size, 1, none⟩ v) := by
  have h7 : Below w6.heap.size w6 w7 := (below_drew (below_alloc (Below.refl w6.heap.size w6) _)).trans (hbk.mono (by show w6.heap.size ≤ (w6.alloc (.cells C T)).heap.size; simp))
  have h8 : Below w4.heap.size w4 w7 := h6.trans (h7.mono h6.size)
  exact (h8.setCell h6.size _).setCell h6.size _
theorem two_set {W : World} {Y : Nat} {u v a b : Value} (h0 : W.cell? ⟨Y, 0, none⟩ = some a) (h1 : W.cell? ⟨Y, 1, none⟩ = some b) :
    ((W.setCell ⟨Y, 0, none⟩ u).setCell ⟨Y, 1, none⟩ v).cell? ⟨Y, 0, none⟩ = some u ∧ ((W.setCell ⟨Y, 0, none⟩ u).setCell ⟨Y, 1, none⟩ v).cell? ⟨Y, 1, none⟩ = some v := by
  refine ⟨?_, ?_⟩
  · rw [World.cell?_setCell_other _ _ _ _ (by simp)]
    exact World.cell?_setCell_same _ _ _ h0
  · exact World.cell?_setCell_same _ _ _ ((World.cell?_setCell_other _ _ _ _ (by simp)).trans h1)
theorem rec_cut (s : ByteArray) (n : Nat) (h : 12 + 16 * n + 4 ≤ s.size) : recE s n = ⟨⟨nm s (12 + 16 * n + 4 + 4), nm s (12 + 16 * n + 4 + 8)⟩, (s.extract (12 + 16 * n) s.size).extract 0 4, nm s (12 + 16 * n + 4)⟩ := by
  have e : (s.extract (12 + 16 * n) s.size).extract 0 4 = s.extract (12 + 16 * n) (12 + 16 * n + 4) := by
    rw [ByteArray.extract_extract]
    congr 1
    omega
  rw [e]
  rfl
set_option maxHeartbeats 8000000 in
theorem read_calls (B g : Nat) (s : ByteArray) (n many : Nat) (w : World) (hf : FileAt B w g s (recsE s n)) (hB : B ≤ w.heap.size) (hs : s.size ≤ 16777216) (hn : n < many) (hmany : many ≤ 64) (hfit : 12 + 16 * many ≤ s.size) :
    Calls Try.prog 22 #[.pointer (some ⟨g, 0, none⟩), .int .i64 (many : Int)] w fun e w' =>
      e = .returned (.tuple #[.agg #[.string (tabR s many n).f0, .string (tabR s many n).f1], .int .i64 (errR s many n)]) ∧ FileAt B w' g s (recsE s (n + 1)) ∧ Below B w w' ∧ KeptT w w' := by
  obtain ⟨hBg, v, hg, ho⟩ := hf
  rw [recsE_length] at ho
  obtain ⟨A, c, rfl⟩ := own_slice ho
  have c0 : w.cell? ⟨g, 0, none⟩ = some (.string s) := by rw [blk_cell hg]; rfl
  have c1 : w.cell? ⟨g, 1, none⟩ = some (.slice A n c) := by rw [blk_cell hg]; rfl
  have hgl := blk_lt hg
  have hgne : ¬ (g = w.heap.size) := by omega
  have hgne2 : ¬ (g = w.heap.size + 1) := by omega
  have HG := Lib.hid hg
  have HO := Lib.hid ho
  have hGET := Lib.hid (fun W G hG => read_get s (12 + 16 * n + 4) hs (by omega) W G hG)
  have hat : (12 : Int) + 16 * (n : Int) + 4 = ((12 + 16 * n + 4 : Nat) : Int) := by omega
  have HAT := Lib.hid hat
  obtain ⟨s1, hx1⟩ : ∃ s1, s.extract (12 + 16 * n) s.size = s1 := ⟨_, rfl⟩
  obtain ⟨tg, hx2⟩ : ∃ tg, s1.extract 0 4 = tg := ⟨_, rfl⟩
  have hz1 : s1.size = s.size - (12 + 16 * n) := by rw [← hx1]; simp
  have hz2 : 4 ≤ s1.size := by omega
  have hz3 : (4 : Int) ≤ (s1.size : Int) := by omega
  have hz4 : (12 : Int) + 16 * (n : Int) ≤ (s.size : Int) := by omega
  have hz6 : (4 : Int) ≤ ((s.size - ((12 : Int) + 16 * (n : Int)).toNat : Nat) : Int) := by omega
  have hz5 : (0 : Int) ≤ (12 : Int) + 16 * (n : Int) := by omega
  have HZ1 := Lib.hid hz1
  obtain ⟨nsum, hq0⟩ : ∃ x, nm s (12 + 16 * n + 4) = x := ⟨_, rfl⟩
  obtain ⟨nat, hq1⟩ : ∃ x, nm s (12 + 16 * n + 4 + 4) = x := ⟨_, rfl⟩
  obtain ⟨nmany, hq2⟩ : ∃ x, nm s (12 + 16 * n + 4 + 8) = x := ⟨_, rfl⟩
  have hrec : recE s n = ⟨⟨nat, nmany⟩, tg, nsum⟩ := by
    rw [← hq0, ← hq1, ← hq2, ← hx2, ← hx1]
    exact rec_cut s n (by omega)
  have HREC := Lib.hid hrec
  have HQ0 := Lib.hid hq0
  have HQ1 := Lib.hid hq1
  have HQ2 := Lib.hid hq2
  clear hg ho hat hz1 hrec hq0 hq1 hq2
  go_enter Try.func22, Try.ntmps22
  go_wp2_with fail
  rw [HAT.out]
  refine (hGET.out _ _ (by simp)).mono ?_
  rintro e w1 ⟨b, cb, rfl, ⟨q0, q1, q2⟩, hb1, hb2, hb⟩
  have hbw := (below_alloc (Below.refl w.heap.size w) _).trans (hb.mono (by simp))
  have d0 := (hbw.cell (p := ⟨g, 0, none⟩) hgl).trans c0
  have d1 := (hbw.cell (p := ⟨g, 1, none⟩) hgl).trans c1
  rw [HQ0.out] at q0
  rw [HQ1.out] at q1
  rw [HQ2.out] at q2
  have HBW := Lib.hid hbw
  have hsz1 := hb.size
  simp only [World.size_alloc] at hsz1 hb1
  have hbb := hb.block w.heap.size (by simp)
  rw [heap_alloc_new] at hbb
  have HBB := Lib.hid hbb
  clear hbw hb hbb
  go_wp2_with fail
  go_region_held3 (fun w' => w'.cell? ⟨b, 0, none⟩ = some (.int .i64 nsum) ∧ w'.cell? ⟨b, 1, none⟩ = some (.int .i64 nat) ∧ w'.cell? ⟨b, 2, none⟩ = some (.int .i64 nmany) ∧ w'.cell? ⟨g, 0, none⟩ = some (.string s)) (go_keep) (fail)
  have hcut : (s.extract ((12 : Int) + 16 * (n : Int)).toNat s.size).extract 0 4 = tg := by
    rw [show ((12 : Int) + 16 * (n : Int)).toNat = 12 + 16 * n by omega, hx1, hx2]
  rw [hcut]
  clear hcut hx1 hx2 hz6
  generalize hw2 : (w1.alloc (.cells #[.int .i64 nat, .int .i64 nmany, .string tg, .int .i64 nsum] 85)).drew = w2
  have hB2 : Below w1.heap.size w1 w2 := by rw [← hw2]; exact below_drew (below_alloc (Below.refl w1.heap.size w1) _)
  have hxb : w2.heap[w1.heap.size]? = some (.cells #[.int .i64 nat, .int .i64 nmany, .string tg, .int .i64 nsum] 85 (0, 0)) := by rw [← hw2]; exact heap_alloc_new w1 _
  have hsz2 : w2.heap.size = w1.heap.size + 1 := by rw [← hw2]; simp
  have e2 : w2.cell? ⟨w1.heap.size, 0, none⟩ = some (.int .i64 nat) := by rw [blk_cell hxb]; rfl
  have e3 : w2.cell? ⟨w1.heap.size, 1, none⟩ = some (.int .i64 nmany) := by rw [blk_cell hxb]; rfl
  have e4 : w2.cell? ⟨w1.heap.size, 2, none⟩ = some (.string tg) := by rw [blk_cell hxb]; rfl
  have e5 : w2.cell? ⟨w1.heap.size, 3, none⟩ = some (.int .i64 nsum) := by rw [blk_cell hxb]; rfl
  have hgw1 : g < w1.heap.size := by omega
  have e1 : w2.cell? ⟨g, 1, none⟩ = some (.slice A n c) := (hB2.cell (p := ⟨g, 1, none⟩) hgw1).trans d1
  have HXB := Lib.hid hxb
  have HB2 := Lib.hid hB2
  have HW2 := Lib.hid hsz2
  clear hw2 hxb hB2 q0 q1 q2 d0 d1 hsz2
  obtain ⟨i0, hi0, hz0', hz1', hz2'⟩ := info_parts info85
  go_wp2_with fail
  refine wp_region_noPanic ?_
  refine start_ (n := 11) (S := fun w' => w'.cell? ⟨g, 1, none⟩ = some (.slice A n c) ∧ w'.cell? ⟨w1.heap.size, 0, none⟩ = some (.int .i64 nat) ∧ w'.cell? ⟨w1.heap.size, 1, none⟩ = some (.int .i64 nmany) ∧ w'.cell? ⟨w1.heap.size, 2, none⟩ = some (.string tg) ∧ w'.cell? ⟨w1.heap.size, 3, none⟩ = some (.int .i64 nsum)) (ds := [10]) #[false, false, false, false, false, false, false, false, false, false, false] (by kernel_rfl) rfl rfl ⟨e1, e2, e3, e4, e5⟩ (fun hHeld => ?_)
  refine pure_ (i := 0) (N := some 52) (v := ?_) (a' := ?_) #[true, false, false, false, false, false, false, false, false, false, false] rfl rfl (by kernel_rfl) (fun _ _ _ h => h) (Or.inl ⟨by rfl, ?_⟩) ?_ ?_
  rotate_left
  · intro w'
    go_simp
    with_reducible rfl
  rotate_left
  · simp only [Act.put, List.setIfInBounds_toArray, List.set_cons_zero, List.set_cons_succ]
    rfl
  refine pure_ (i := 1) (N := some 53) (v := ?_) (a' := ?_) #[true, true, false, false, false, false, false, false, false, false, false] rfl rfl (by kernel_rfl) (fun _ _ _ h => h) (Or.inl ⟨by rfl, ?_⟩) ?_ ?_
  rotate_left
  · intro w'
    go_simp
    with_reducible rfl
  rotate_left
  · simp only [Act.put, List.setIfInBounds_toArray, List.set_cons_zero, List.set_cons_succ]
    rfl
  refine pure_ (i := 2) (N := some 54) (v := ?_) (a' := ?_) #[true, true, true, false, false, false, false, false, false, false, false] rfl rfl (by kernel_rfl) (fun _ _ _ h => h) (Or.inl ⟨by rfl, ?_⟩) ?_ ?_
  rotate_left
  · intro w'
    go_simp
    with_reducible rfl
  rotate_left
  · simp only [Act.put, List.setIfInBounds_toArray, List.set_cons_zero, List.set_cons_succ]
    rfl
  refine pure_ (i := 3) (N := some 55) (v := ?_) (a' := ?_) #[true, true, true, true, false, false, false, false, false, false, false] rfl rfl (by kernel_rfl) (fun _ _ _ h => h) (Or.inl ⟨by rfl, ?_⟩) ?_ ?_
  rotate_left
  · intro w'
    go_simp
    with_reducible rfl
  rotate_left
  · simp only [Act.put, List.setIfInBounds_toArray, List.set_cons_zero, List.set_cons_succ]
    rfl
  refine take_ (i := 4) (N := some 56) (v := ?_) (a' := ?_) #[true, true, true, true, true, false, false, false, false, false, false] rfl rfl (by kernel_rfl) (fun _ _ _ h => h) (Or.inl ⟨by rfl, ?_⟩) hHeld ?_ ?_
  rotate_left
  · intro w' s0
    obtain ⟨t1, t2, t3, t4, t5⟩ := s0
    go_simp
    with_reducible rfl
  rotate_left
  · simp only [Act.put, List.setIfInBounds_toArray, List.set_cons_zero, List.set_cons_succ]
    rfl
  refine take_ (i := 5) (N := some 57) (v := ?_) (a' := ?_) #[true, true, true, true, true, true, false, false, false, false, false] rfl rfl (by kernel_rfl) (fun _ _ _ h => h) (Or.inl ⟨by rfl, ?_⟩) hHeld ?_ ?_
  rotate_left
  · intro w' s0
    obtain ⟨t1, t2, t3, t4, t5⟩ := s0
    go_simp
    with_reducible rfl
  rotate_left
  · simp only [Act.put, List.setIfInBounds_toArray, List.set_cons_zero, List.set_cons_succ]
    rfl
  refine one_ (i := 6) (N := some 58) #[true, true, true, true, true, true, true, false, false, false, false] rfl rfl (by kernel_rfl) (by decide) (fun K hK => ?_)
  go_simp
  have hA1 : Below w2.heap.size w2 (w2.alloc (.cells #[.int .i64 nat, .int .i64 nmany, .string tg, .int .i64 nsum] 85)).drew := below_drew (below_alloc (Below.refl w2.heap.size w2) _)
  have hgw2 : g < w2.heap.size := by have := HW2.out; omega
  have hxw2 : w1.heap.size < w2.heap.size := by have := HW2.out; omega
  refine hK.out _ _ ⟨(hA1.cell (p := ⟨g, 1, none⟩) hgw2).trans e1, (hA1.cell (p := ⟨w1.heap.size, 0, none⟩) hxw2).trans e2, (hA1.cell (p := ⟨w1.heap.size, 1, none⟩) hxw2).trans e3, (hA1.cell (p := ⟨w1.heap.size, 2, none⟩) hxw2).trans e4, (hA1.cell (p := ⟨w1.heap.size, 3, none⟩) hxw2).trans e5⟩ (fun hHeld => ?_)
  clear hK K
  refine one_ (i := 7) (N := some 59) #[true, true, true, true, true, true, true, true, false, false, false] rfl rfl (by kernel_rfl) (by decide) (fun K hK => ?_)
  refine step_append_lies _ rfl (.tmp 56) (.tmp 58) 47 rfl B 85 i0 _ 4 40 Try.underlying47 hi0 hz0' hz1' hz2' rfl (by omega) (.slice A n c) n (cellsE (recsE s n)) rfl ?_ ⟨w2.heap.size, 0, none⟩ 1 1 [.int .i64 nat, .int .i64 nmany, .string tg, .int .i64 nsum] rfl rfl (World.news_of_block (cs := #[.int .i64 nat, .int .i64 nmany, .string tg, .int .i64 nsum]) (t := 85) (fr := (0, 0)) (heap_alloc_new w2 _)) (by simp [Value.oneCell']) (by omega) (by unfold maxLen; omega) (by omega) ?_ (w2.heap.size + 1) (by simp) ?_
  · exact pw_own_below (pw_own_below (pw_own_below HO.out HBW.out) (HB2.out)) hA1
  · have h1 := HBW.out.size
    have h2 := HB2.out.size
    simp
    omega
  intro g' cap w3 hown3 hgrow3 hat hlt
  have hgrow2 : w2.grownBy w3 (Value.slice A n c).ownBlock := by
    have h := hgrow3
    exact ⟨h.os, h.tape, h.output, by have := h.size; simp at this; omega, fun k hk hne => (h.block k (by simp; omega) hne).trans (by have := hA1.block k hk; exact this)⟩
  obtain ⟨⟨m1, m2, m3⟩, hMid⟩ := mid_facts HREC.out hBg hB HG.out HO.out HBW.out HBB.out hsz1 HB2.out rfl HXB.out hown3 hgrow2
  have HMID := Lib.hid hMid
  clear hown3 hgrow3 hgrow2 hMid hat
  refine hK.out _ _ ⟨m1, ?_⟩ (fun hHeld => ?_)
  · have hx3 := m3.trans HXB.out
    exact ⟨by rw [blk_cell hx3]; rfl, by rw [blk_cell hx3]; rfl, by rw [blk_cell hx3]; rfl, by rw [blk_cell hx3]; rfl⟩
  clear hK K m3
  refine norm_ (a' := ?_) ?_ ?_
  rotate_left
  · simp only [Act.put, List.setIfInBounds_toArray, List.set_cons_zero, List.set_cons_succ]
    rfl
  refine pure_ (i := 8) (N := some 60) (v := ?_) (a' := ?_) #[true, true, true, true, true, true, true, true, true, false, false] rfl rfl (by kernel_rfl) (fun _ _ _ h => h) (Or.inl ⟨by rfl, ?_⟩) ?_ ?_
  rotate_left
  · intro w'
    go_simp
    with_reducible rfl
  rotate_left
  · simp only [Act.put, List.setIfInBounds_toArray, List.set_cons_zero, List.set_cons_succ]
    rfl
  refine pure_ (i := 9) (N := some 61) (v := ?_) (a' := ?_) #[true, true, true, true, true, true, true, true, true, true, false] rfl rfl (by kernel_rfl) (fun _ _ _ h => h) (Or.inl ⟨by rfl, ?_⟩) ?_ ?_
  rotate_left
  · intro w'
    go_simp
    with_reducible rfl
  rotate_left
  · simp only [Act.put, List.setIfInBounds_toArray, List.set_cons_zero, List.set_cons_succ]
    rfl
  refine last_ (i := 10) (N := none) #[true, true, true, true, true, true, true, true, true, true, true] rfl rfl (by kernel_rfl) (by decide) (fun K hK => ?_)
  go_simp
  refine hK.out _ _ ?_
  clear hK K
  refine done_ (by kernel_rfl) ?_
  refine NoPanic.normal ?_
  have HSz := Lib.hid hsz1
  obtain ⟨X, hX⟩ : ∃ X, w1.heap.size = X := ⟨_, rfl⟩
  rw [hX] at HMID ⊢
  have hRX : ¬ (w.heap.size = X) := by omega
  clear m1 m2 e1 e2 e3 e4 e5 hsz1 hX hb1 hb2 hgw1 hgw2 hxw2 hA1 hz2 hz3 hi0 hz0' hz1' hz2' c0 c1
  generalize w3.setCell ⟨g, 1, none⟩ (.slice (some ⟨g', 0, none⟩) (n + 1) cap) = w4 at HMID ⊢
  have f0 := HMID.out.c0
  have f1 := HMID.out.c1
  have hxx := HMID.out.x
  rw [HREC.out] at hxx
  have x0 : w4.cell? ⟨X, 0, none⟩ = some (.int .i64 nat) := by rw [blk_cell hxx]; rfl
  have x1 : w4.cell? ⟨X, 1, none⟩ = some (.int .i64 nmany) := by rw [blk_cell hxx]; rfl
  have x2 : w4.cell? ⟨X, 2, none⟩ = some (.string tg) := by rw [blk_cell hxx]; rfl
  have x3 : w4.cell? ⟨X, 3, none⟩ = some (.int .i64 nsum) := by rw [blk_cell hxx]; rfl
  clear hxx
  have HBw := Lib.hid hB
  clear hB
  have hsm : (0 ≤ nat ∧ nat < 4294967296) ∧ 0 ≤ nmany ∧ nmany < 4294967296 := by rw [← HQ1.out, ← HQ2.out]; exact ⟨nm_small _ _, nm_small _ _⟩
  obtain ⟨⟨hs1, hs2⟩, hs3, hs4⟩ := hsm
  go_wp2_with fail
  obtain ⟨xn, hxn⟩ : ∃ xn : Int, (n : Int) = xn := ⟨_, rfl⟩
  rw [hxn] at hz4 hz5 ⊢
  have hprev := HMID.out.prev
  have HXN := Lib.hid hxn
  clear hxn
  have HTG := Lib.hid (tag_calls tg)
  have HEND := Lib.hid (fun W => span_end nat nmany W (by omega) (by omega) (by omega) (by omega))
  have hbad : badR s many n = (!tagB tg || (decide (0 < n) && !Op.bytesLess (recE s (n - 1)).f1.toList tg.toList) || decide (nat % 4 ≠ 0) || decide (nat < 12 + 16 * (many : Int))) := by unfold badR; rw [HREC.out]
  generalize tagB tg = tgb at HTG hbad
  have p0 := kept_cell x0
  have p1 := kept_cell x1
  have p2 := kept_cell x2
  have p3 := kept_cell x3
  have pf0 := kept_cell f0
  have pf1 := kept_cell f1
  clear x0 x1 x2 x3 f0 f1
  cases tgb with
  | false =>
    have hE : errR s many n = 5 := by unfold errR; rw [hbad]; rfl
    have HER := Lib.hid hE
    clear hbad hE
    have hmx : Try.prog.follows .mixedOrders = true := by kernel_rfl
    refine wp_region_kept hmx (by kernel_rfl) ?_
    repeat (go_big_quiet_step (exact kept_calls (HTG.out _)))
    refine wpQuiet_nil ?_
    rintro _ ⟨pw, rfl⟩
    have HB5 := Lib.hid pw.h
    have hrr := (HB5.out.block _ (blk_lt HMID.out.r)).trans HMID.out.r
    have r0 : pw.w'.cell? ⟨w.heap.size, 0, none⟩ = some (.string ⟨#[]⟩) := by rw [blk_cell hrr]; rfl
    have r1 : pw.w'.cell? ⟨w.heap.size, 1, none⟩ = some (.string ⟨#[]⟩) := by rw [blk_cell hrr]; rfl
    have z0 : pw.w'.frozen? ⟨w.heap.size, 0, none⟩ = false := blk_frozen hrr 0
    have z1 : pw.w'.frozen? ⟨w.heap.size, 1, none⟩ = false := blk_frozen hrr 1
    clear hrr
    go_wp2
    refine bodyPost_ret (v := .tuple #[.agg #[.string ⟨#[]⟩, .string ⟨#[]⟩], .int .i64 5]) (by simp [results, Try.results22, go_sem, r0, r1]) rfl ⟨?_, mid_end HMID.out HBw.out HB5.out _ _⟩
    have ht : tabR s many n = z33 := by unfold tabR; rw [HER.out]; rfl
    rw [HER.out, ht]
    rfl
  | true =>
    by_cases hn0 : n < 1
    · have gx : ¬ 0 < xn := by have := HXN.out; omega
      have gd := decide_eq_false (p := 0 < xn) gx
      rw [decide_eq_false (show ¬ 0 < n by omega)] at hbad
      clear hprev
      by_cases hm4 : nat % 4 = 0
      · have hq1 : (nat % 4 == 0) = true := by rw [hm4]; rfl
        have hq2 : (nat % 4 != 0) = false := by rw [hm4]; rfl
        rw [decide_eq_false (show ¬ nat % 4 ≠ 0 by omega)] at hbad
        clear hm4
        by_cases hlo : nat < 12 + 16 * (many : Int)
        · rw [decide_eq_true hlo] at hbad
          have hE : errR s many n = 5 := by unfold errR; rw [hbad]; rfl
          have HER := Lib.hid hE
          clear hbad hE
          have hmx : Try.prog.follows .mixedOrders = true := by kernel_rfl
          refine wp_region_kept hmx (by kernel_rfl) ?_
          repeat (go_big_quiet_step (exact kept_calls (HTG.out _)))
          refine wpQuiet_nil ?_
          rintro _ ⟨pw, rfl⟩
          have HB5 := Lib.hid pw.h
          have hrr := (HB5.out.block _ (blk_lt HMID.out.r)).trans HMID.out.r
          have r0 : pw.w'.cell? ⟨w.heap.size, 0, none⟩ = some (.string ⟨#[]⟩) := by rw [blk_cell hrr]; rfl
          have r1 : pw.w'.cell? ⟨w.heap.size, 1, none⟩ = some (.string ⟨#[]⟩) := by rw [blk_cell hrr]; rfl
          have z0 : pw.w'.frozen? ⟨w.heap.size, 0, none⟩ = false := blk_frozen hrr 0
          have z1 : pw.w'.frozen? ⟨w.heap.size, 1, none⟩ = false := blk_frozen hrr 1
          clear hrr
          go_wp2
          refine bodyPost_ret (v := .tuple #[.agg #[.string ⟨#[]⟩, .string ⟨#[]⟩], .int .i64 5]) (by simp [results, Try.results22, go_sem, r0, r1]) rfl ⟨?_, mid_end HMID.out HBw.out HB5.out _ _⟩
          have ht : tabR s many n = z33 := by unfold tabR; rw [HER.out]; rfl
          rw [HER.out, ht]
          rfl
        · rw [decide_eq_false hlo] at hbad
          replace hbad : badR s many n = false := hbad
          have HNB := Lib.hid hbad
          clear hbad
          have hmx : Try.prog.follows .mixedOrders = true := by kernel_rfl
          refine wp_region_kept hmx (by kernel_rfl) ?_
          repeat (go_big_quiet_step (exact kept_calls (HTG.out _)))
          refine wpQuiet_nil ?_
          rintro _ ⟨pw, rfl⟩
          have HB5 := Lib.hid pw.h
          have y0 := p0 pw
          have y1 := p1 pw
          have y2 := p2 pw
          have y3 := p3 pw
          have yf := pf0 pw
          generalize pw.w' = w5 at HB5 y0 y1 y2 y3 yf ⊢
          clear p0 p1 p2 p3 pf0 pf1
          go_wp2_with fail
          have k0 := kept_cell y0
          have k1 := kept_cell y1
          have k2 := kept_cell y2
          have k3 := kept_cell y3
          have kf := kept_cell yf
          by_cases hov : (s.size : Int) < nat + nmany
          · have hE : errR s many n = 4 := by unfold errR; rw [HNB.out, HREC.out]; rw [if_neg Bool.false_ne_true, if_pos hov]
            have HER := Lib.hid hE
            clear hE
            have hmx : Try.prog.follows .mixedOrders = true := by kernel_rfl
            refine wp_region_kept hmx (by kernel_rfl) ?_
            repeat (go_big_quiet_step (exact kept_calls (HEND.out _)))
            refine wpQuiet_nil ?_
            rintro _ ⟨pw, rfl⟩
            have HB6 := Lib.hid (HB5.out.trans (pw.h.mono HB5.out.size))
            have hrr := (HB6.out.block _ (blk_lt HMID.out.r)).trans HMID.out.r
            have r0 : pw.w'.cell? ⟨w.heap.size, 0, none⟩ = some (.string ⟨#[]⟩) := by rw [blk_cell hrr]; rfl
            have r1 : pw.w'.cell? ⟨w.heap.size, 1, none⟩ = some (.string ⟨#[]⟩) := by rw [blk_cell hrr]; rfl
            have z0 : pw.w'.frozen? ⟨w.heap.size, 0, none⟩ = false := blk_frozen hrr 0
            have z1 : pw.w'.frozen? ⟨w.heap.size, 1, none⟩ = false := blk_frozen hrr 1
            clear hrr
            go_wp2
            refine bodyPost_ret (v := .tuple #[.agg #[.string ⟨#[]⟩, .string ⟨#[]⟩], .int .i64 4]) (by simp [results, Try.results22, go_sem, r0, r1]) rfl ⟨?_, mid_end HMID.out HBw.out HB6.out _ _⟩
            have ht : tabR s many n = z33 := by unfold tabR; rw [HER.out]; rfl
            rw [HER.out, ht]
            rfl
          · have hmx : Try.prog.follows .mixedOrders = true := by kernel_rfl
            refine wp_region_kept hmx (by kernel_rfl) ?_
            repeat (go_big_quiet_step (exact kept_calls (HEND.out _)))
            refine wpQuiet_nil ?_
            rintro _ ⟨pw, rfl⟩
            have HB6 := Lib.hid (HB5.out.trans (pw.h.mono HB5.out.size))
            have v0 := k0 pw
            have v1 := k1 pw
            have v2 := k2 pw
            have v3 := k3 pw
            have vf := kf pw
            generalize pw.w' = w6 at HB6 v0 v1 v2 v3 vf ⊢
            clear k0 k1 k2 k3 kf y0 y1 y2 y3 yf
            have hv0 : (0 : Int) ≤ nat + nmany := by omega
            have hv1 : nat ≤ nat + nmany := by omega
            have hv2 : nat + nmany ≤ (s.size : Int) := by omega
            have hXw : ¬ X = w6.heap.size := by have := World.block_lt_of_cell? _ _ v0; simp at this; omega
            have hgw : ¬ g = w6.heap.size := by have := World.block_lt_of_cell? _ _ vf; simp at this; omega
            obtain ⟨D, hD⟩ : ∃ D, s.extract nat.toNat (nat + nmany).toNat = D := ⟨_, rfl⟩
            go_wp2_with fail
            go_region_held3 (fun w' => w'.cell? ⟨X, 0, none⟩ = some (.int .i64 nat) ∧ w'.cell? ⟨X, 1, none⟩ = some (.int .i64 nmany) ∧ w'.cell? ⟨X, 2, none⟩ = some (.string tg) ∧ w'.cell? ⟨g, 0, none⟩ = some (.string s)) (first | exact keep4 hbk (by assumption) | exact keep4 (below_alloc hbk _) ⟨v0, v1, v2, vf⟩ | exact keep4s hXw hXw hXw hgw (keep4s hXw hXw hXw hgw (by assumption)) | go_keep) (first | (go_at_call 47; refine (HEND.out _).mono ?_; rintro e w7 ⟨rfl, hbk⟩; try (have hnb : w7.heap[w6.heap.size]? = some (.cells #[.string ⟨#[]⟩, .string ⟨#[]⟩] 33 (0, 0)) := new_cellsD hbk; have u0 : w7.cell? ⟨w6.heap.size, 0, none⟩ = some (.string ⟨#[]⟩) := (blk_cell hnb 0).trans rfl; have u1 : w7.cell? ⟨w6.heap.size, 1, none⟩ = some (.string ⟨#[]⟩) := (blk_cell hnb 1).trans rfl; have uf0 := blk_frozen hnb 0; have uf1 := blk_frozen hnb 1; clear hnb)))
            · have hB8 := tail1 (o := (.cells #[.string tg, .string D] 33)) HB6.out hbk
              have u0 : (w7.alloc (.cells #[.string tg, .string D] 33)).cell? ⟨w7.heap.size, 0, none⟩ = some (.string tg) := by simp
              have u1 : (w7.alloc (.cells #[.string tg, .string D] 33)).cell? ⟨w7.heap.size, 1, none⟩ = some (.string D) := by simp
              have u3 : (w7.alloc (.cells #[.string tg, .string D] 33)).cell? ⟨X, 3, none⟩ = some (.int .i64 nsum) := pw_cell_below (below_alloc (Below.refl w7.heap.size w7) _) (pw_cell_below hbk v3)
              clear v0 v1 v2 v3 vf hXw hgw hbk
              generalize w7.alloc (.cells #[.string tg, .string D] 33) = w8 at hB8 u0 u1 u3 ⊢
              generalize w7.heap.size = T at u0 u1 ⊢
              have HB8 := Lib.hid hB8
              clear hB8
              have hdl : D.size ≤ 1000000000 := by
                rw [← hD, ByteArray.size_extract]
                omega
              have HSUM := Lib.hid (sfnt_sum_calls tg D hdl)
              have hErr : errR s many n = if tabSum tg D ≠ nsum then 5 else 0 := by
                unfold errR dataR
                rw [HNB.out, HREC.out]
                simp only [hD]
                rw [if_neg Bool.false_ne_true, if_neg (show ¬ (s.size : Int) < nat + nmany by omega)]
              have hTab : errR s many n = 0 → tabR s many n = ⟨tg, D⟩ := fun h => by
                unfold tabR dataR
                rw [if_pos h, HREC.out]
                simp only [hD]
              generalize tabSum tg D = sm at HSUM hErr
              have HTB := Lib.hid hTab
              clear hTab hdl hD hv0 hv1 hv2 hov
              go_wp2_with fail
              have k0 := kept_cell u0
              have k1 := kept_cell u1
              have k3 := kept_cell u3
              clear u0 u1 u3
              by_cases hsn : sm = nsum
              · rw [if_neg (fun h => h hsn)] at hErr
                have HER := Lib.hid hErr
                have hq1 : (sm != nsum) = false := by rw [hsn]; simp
                have hq2 : (sm == nsum) = true := by rw [hsn]; simp
                clear hsn hErr
                have hmx : Try.prog.follows .mixedOrders = true := by kernel_rfl
                refine wp_region_kept hmx (by kernel_rfl) ?_
                repeat (go_big_quiet_step (exact kept_calls (HSUM.out _)))
                refine wpQuiet_nil ?_
                rintro _ ⟨pw, rfl⟩
                have HB9 := Lib.hid (HB8.out.trans (pw.h.mono HB8.out.size))
                have t0 := k0 pw
                have t1 := k1 pw
                have hrr := (HB9.out.block _ (blk_lt HMID.out.r)).trans HMID.out.r
                have r0 : pw.w'.cell? ⟨w.heap.size, 0, none⟩ = some (.string ⟨#[]⟩) := by rw [blk_cell hrr]; rfl
                have r1 : pw.w'.cell? ⟨w.heap.size, 1, none⟩ = some (.string ⟨#[]⟩) := by rw [blk_cell hrr]; rfl
                have z0 : pw.w'.frozen? ⟨w.heap.size, 0, none⟩ = false := blk_frozen hrr 0
                have z1 : pw.w'.frozen? ⟨w.heap.size, 1, none⟩ = false := blk_frozen hrr 1
                clear hrr
                go_wp2
                refine bodyPost_ret (v := .tuple #[.agg #[.string tg, .string D], .int .i64 0]) (by simp [results, Try.results22, go_sem, r0, r1]) rfl ⟨?_, mid_end HMID.out HBw.out HB9.out _ _⟩
                rw [HTB.out HER.out, HER.out]
              · rw [if_pos hsn] at hErr
                have HER := Lib.hid hErr
                have hq1 : (sm != nsum) = true := by simpa using hsn
                have hq2 : (sm == nsum) = false := by simpa using hsn
                clear hsn hErr
                have hmx : Try.prog.follows .mixedOrders = true := by kernel_rfl
                refine wp_region_kept hmx (by kernel_rfl) ?_
                repeat (go_big_quiet_step (exact kept_calls (HSUM.out _)))
                refine wpQuiet_nil ?_
                rintro _ ⟨pw, rfl⟩
                have HB9 := Lib.hid (HB8.out.trans (pw.h.mono HB8.out.size))
                have hrr := (HB9.out.block _ (blk_lt HMID.out.r)).trans HMID.out.r
                have r0 : pw.w'.cell? ⟨w.heap.size, 0, none⟩ = some (.string ⟨#[]⟩) := by rw [blk_cell hrr]; rfl
                have r1 : pw.w'.cell? ⟨w.heap.size, 1, none⟩ = some (.string ⟨#[]⟩) := by rw [blk_cell hrr]; rfl
                have z0 : pw.w'.frozen? ⟨w.heap.size, 0, none⟩ = false := blk_frozen hrr 0
                have z1 : pw.w'.frozen? ⟨w.heap.size, 1, none⟩ = false := blk_frozen hrr 1
                clear hrr
                go_wp2
                refine bodyPost_ret (v := .tuple #[.agg #[.string ⟨#[]⟩, .string ⟨#[]⟩], .int .i64 5]) (by simp [results, Try.results22, go_sem, r0, r1]) rfl ⟨?_, mid_end HMID.out HBw.out HB9.out _ _⟩
                have ht : tabR s many n = z33 := by unfold tabR; rw [HER.out]; rfl
                rw [HER.out, ht]
                rfl
            · have hB8 := tail2 (u := .string tg) (v := .string D) HB6.out hbk
              have hu0 := u0
              have hu1 := u1
              have e0 : ((w7.setCell ⟨w6.heap.size, 0, none⟩ (.string tg)).setCell ⟨w6.heap.size, 1, none⟩ (.string D)).cell? ⟨w6.heap.size, 0, none⟩ = some (.string tg) := (two_set hu0 hu1).1
              have e1 : ((w7.setCell ⟨w6.heap.size, 0, none⟩ (.string tg)).setCell ⟨w6.heap.size, 1, none⟩ (.string D)).cell? ⟨w6.heap.size, 1, none⟩ = some (.string D) := (two_set hu0 hu1).2
              have u3 : ((w7.setCell ⟨w6.heap.size, 0, none⟩ (.string tg)).setCell ⟨w6.heap.size, 1, none⟩ (.string D)).cell? ⟨X, 3, none⟩ = some (.int .i64 nsum) := by
                rw [World.cell?_of_block (a := ⟨X, 3, none⟩) (Below.heap_setCell _ ⟨w6.heap.size, 1, none⟩ _ X hXw), World.cell?_of_block (a := ⟨X, 3, none⟩) (Below.heap_setCell _ ⟨w6.heap.size, 0, none⟩ _ X hXw)]
                exact pw_cell_below hbk (pw_cell_below (below_drew (below_alloc (Below.refl w6.heap.size w6) _)) v3)
              clear v0 v1 v2 v3 vf hXw hgw hbk u0 u1 uf0 uf1 hu0 hu1
              generalize ((w7.setCell ⟨w6.heap.size, 0, none⟩ (.string tg)).setCell ⟨w6.heap.size, 1, none⟩ (.string D)) = w8 at hB8 e0 e1 u3 ⊢
              generalize w6.heap.size = T at e0 e1 ⊢
              have u0 := e0
              have u1 := e1
              clear e0 e1
              have HB8 := Lib.hid hB8
              clear hB8
              have hdl : D.size ≤ 1000000000 := by
                rw [← hD, ByteArray.size_extract]
                omega
              have HSUM := Lib.hid (sfnt_sum_calls tg D hdl)
              have hErr : errR s many n = if tabSum tg D ≠ nsum then 5 else 0 := by
                unfold errR dataR
                rw [HNB.out, HREC.out]
                simp only [hD]
                rw [if_neg Bool.false_ne_true, if_neg (show ¬ (s.size : Int) < nat + nmany by omega)]
              have hTab : errR s many n = 0 → tabR s many n = ⟨tg, D⟩ := fun h => by
                unfold tabR dataR
                rw [if_pos h, HREC.out]
                simp only [hD]
              generalize tabSum tg D = sm at HSUM hErr
              have HTB := Lib.hid hTab
              clear hTab hdl hD hv0 hv1 hv2 hov
              go_wp2_with fail
              have k0 := kept_cell u0
              have k1 := kept_cell u1
              have k3 := kept_cell u3
              clear u0 u1 u3
              by_cases hsn : sm = nsum
              · rw [if_neg (fun h => h hsn)] at hErr
                have HER := Lib.hid hErr
                have hq1 : (sm != nsum) = false := by rw [hsn]; simp
                have hq2 : (sm == nsum) = true := by rw [hsn]; simp
                clear hsn hErr
                have hmx : Try.prog.follows .mixedOrders = true := by kernel_rfl
                refine wp_region_kept hmx (by kernel_rfl) ?_
                repeat (go_big_quiet_step (exact kept_calls (HSUM.out _)))
                refine wpQuiet_nil ?_
                rintro _ ⟨pw, rfl⟩
                have HB9 := Lib.hid (HB8.out.trans (pw.h.mono HB8.out.size))
                have t0 := k0 pw
                have t1 := k1 pw
                have hrr := (HB9.out.block _ (blk_lt HMID.out.r)).trans HMID.out.r
                have r0 : pw.w'.cell? ⟨w.heap.size, 0, none⟩ = some (.string ⟨#[]⟩) := by rw [blk_cell hrr]; rfl
                have r1 : pw.w'.cell? ⟨w.heap.size, 1, none⟩ = some (.string ⟨#[]⟩) := by rw [blk_cell hrr]; rfl
                have z0 : pw.w'.frozen? ⟨w.heap.size, 0, none⟩ = false := blk_frozen hrr 0
                have z1 : pw.w'.frozen? ⟨w.heap.size, 1, none⟩ = false := blk_frozen hrr 1
                clear hrr
                go_wp2
                refine bodyPost_ret (v := .tuple #[.agg #[.string tg, .string D], .int .i64 0]) (by simp [results, Try.results22, go_sem, r0, r1]) rfl ⟨?_, mid_end HMID.out HBw.out HB9.out _ _⟩
                rw [HTB.out HER.out, HER.out]
              · rw [if_pos hsn] at hErr
                have HER := Lib.hid hErr
                have hq1 : (sm != nsum) = true := by simpa using hsn
                have hq2 : (sm == nsum) = false := by simpa using hsn
                clear hsn hErr
                have hmx : Try.prog.follows .mixedOrders = true := by kernel_rfl
                refine wp_region_kept hmx (by kernel_rfl) ?_
                repeat (go_big_quiet_step (exact kept_calls (HSUM.out _)))
                refine wpQuiet_nil ?_
                rintro _ ⟨pw, rfl⟩
                have HB9 := Lib.hid (HB8.out.trans (pw.h.mono HB8.out.size))
                have hrr := (HB9.out.block _ (blk_lt HMID.out.r)).trans HMID.out.r
                have r0 : pw.w'.cell? ⟨w.heap.size, 0, none⟩ = some (.string ⟨#[]⟩) := by rw [blk_cell hrr]; rfl
                have r1 : pw.w'.cell? ⟨w.heap.size, 1, none⟩ = some (.string ⟨#[]⟩) := by rw [blk_cell hrr]; rfl
                have z0 : pw.w'.frozen? ⟨w.heap.size, 0, none⟩ = false := blk_frozen hrr 0
                have z1 : pw.w'.frozen? ⟨w.heap.size, 1, none⟩ = false := blk_frozen hrr 1
                clear hrr
                go_wp2
                refine bodyPost_ret (v := .tuple #[.agg #[.string ⟨#[]⟩, .string ⟨#[]⟩], .int .i64 5]) (by simp [results, Try.results22, go_sem, r0, r1]) rfl ⟨?_, mid_end HMID.out HBw.out HB9.out _ _⟩
                have ht : tabR s many n = z33 := by unfold tabR; rw [HER.out]; rfl
                rw [HER.out, ht]
                rfl
      · have hE : errR s many n = 5 := by unfold errR; rw [hbad, decide_eq_true hm4]; rfl
        have hq1 : (nat % 4 == 0) = false := by simpa using hm4
        have hq2 : (nat % 4 != 0) = true := by simpa using hm4
        clear hm4
        have HER := Lib.hid hE
        clear hbad hE
        have hmx : Try.prog.follows .mixedOrders = true := by kernel_rfl
        refine wp_region_kept hmx (by kernel_rfl) ?_
        repeat (go_big_quiet_step (exact kept_calls (HTG.out _)))
        refine wpQuiet_nil ?_
        rintro _ ⟨pw, rfl⟩
        have HB5 := Lib.hid pw.h
        have hrr := (HB5.out.block _ (blk_lt HMID.out.r)).trans HMID.out.r
        have r0 : pw.w'.cell? ⟨w.heap.size, 0, none⟩ = some (.string ⟨#[]⟩) := by rw [blk_cell hrr]; rfl
        have r1 : pw.w'.cell? ⟨w.heap.size, 1, none⟩ = some (.string ⟨#[]⟩) := by rw [blk_cell hrr]; rfl
        have z0 : pw.w'.frozen? ⟨w.heap.size, 0, none⟩ = false := blk_frozen hrr 0
        have z1 : pw.w'.frozen? ⟨w.heap.size, 1, none⟩ = false := blk_frozen hrr 1
        clear hrr
        go_wp2
        refine bodyPost_ret (v := .tuple #[.agg #[.string ⟨#[]⟩, .string ⟨#[]⟩], .int .i64 5]) (by simp [results, Try.results22, go_sem, r0, r1]) rfl ⟨?_, mid_end HMID.out HBw.out HB5.out _ _⟩
        have ht : tabR s many n = z33 := by unfold tabR; rw [HER.out]; rfl
        rw [HER.out, ht]
        rfl
    · have gx : 0 < xn := by have := HXN.out; omega
      have gd := decide_eq_true gx
      have hpv := hprev (by omega)
      rw [decide_eq_true (show 0 < n by omega)] at hbad
      clear hprev
      generalize (recE s (n - 1)).f1 = pt at hpv hbad
      obtain ⟨y, hy⟩ : ∃ y : Int, xn - 1 = y := ⟨_, rfl⟩
      have hyk : y = ((n - 1 : Nat) : Int) := by have := HXN.out; omega
      have hy0 : 0 ≤ y := by omega
      have hyn : y < xn + 1 := by omega
      have hyt : y.toNat = n - 1 := by omega
      have hyb0 := eq_true hy0
      have hxe : ((n + 1 : Nat) : Int) = xn + 1 := by have := HXN.out; omega
      have hyn2 : y < ((n + 1 : Nat) : Int) := by omega
      have hyb1 := eq_true hyn2
      have hyw : IntKind.i64.wrap (xn - 1) = y := by rw [i64_w, wrap64_small (by omega) (by omega), hy]
      rw [← hyt] at hpv
      have pp := kept_cell hpv
      have HY := Lib.hid hy
      clear hy hyk hyt hxe hpv
      have hle := leq_flip tg.toList pt.toList
      cases hbl : Op.bytesLess pt.toList tg.toList with
      | false =>
        rw [hbl] at hle hbad
        have hE : errR s many n = 5 := by unfold errR; rw [hbad]; rfl
        clear hbl
        have HER := Lib.hid hE
        clear hbad hE
        have hmx : Try.prog.follows .mixedOrders = true := by kernel_rfl
        refine wp_region_kept hmx (by kernel_rfl) ?_
        repeat (go_big_quiet_step (exact kept_calls (HTG.out _)))
        refine wpQuiet_nil ?_
        rintro _ ⟨pw, rfl⟩
        have HB5 := Lib.hid pw.h
        have hrr := (HB5.out.block _ (blk_lt HMID.out.r)).trans HMID.out.r
        have r0 : pw.w'.cell? ⟨w.heap.size, 0, none⟩ = some (.string ⟨#[]⟩) := by rw [blk_cell hrr]; rfl
        have r1 : pw.w'.cell? ⟨w.heap.size, 1, none⟩ = some (.string ⟨#[]⟩) := by rw [blk_cell hrr]; rfl
        have z0 : pw.w'.frozen? ⟨w.heap.size, 0, none⟩ = false := blk_frozen hrr 0
        have z1 : pw.w'.frozen? ⟨w.heap.size, 1, none⟩ = false := blk_frozen hrr 1
        clear hrr
        go_wp2
        refine bodyPost_ret (v := .tuple #[.agg #[.string ⟨#[]⟩, .string ⟨#[]⟩], .int .i64 5]) (by simp [results, Try.results22, go_sem, r0, r1]) rfl ⟨?_, mid_end HMID.out HBw.out HB5.out _ _⟩
        have ht : tabR s many n = z33 := by unfold tabR; rw [HER.out]; rfl
        rw [HER.out, ht]
        rfl
      | true =>
        rw [hbl] at hle hbad
        clear hbl
        by_cases hm4 : nat % 4 = 0
        · have hq1 : (nat % 4 == 0) = true := by rw [hm4]; rfl
          have hq2 : (nat % 4 != 0) = false := by rw [hm4]; rfl
          rw [decide_eq_false (show ¬ nat % 4 ≠ 0 by omega)] at hbad
          clear hm4
          by_cases hlo : nat < 12 + 16 * (many : Int)
          · rw [decide_eq_true hlo] at hbad
            have hE : errR s many n = 5 := by unfold errR; rw [hbad]; rfl
            have HER := Lib.hid hE
            clear hbad hE
            have hmx : Try.prog.follows .mixedOrders = true := by kernel_rfl
            refine wp_region_kept hmx (by kernel_rfl) ?_
            repeat (go_big_quiet_step (exact kept_calls (HTG.out _)))
            refine wpQuiet_nil ?_
            rintro _ ⟨pw, rfl⟩
            have HB5 := Lib.hid pw.h
            have hrr := (HB5.out.block _ (blk_lt HMID.out.r)).trans HMID.out.r
            have r0 : pw.w'.cell? ⟨w.heap.size, 0, none⟩ = some (.string ⟨#[]⟩) := by rw [blk_cell hrr]; rfl
            have r1 : pw.w'.cell? ⟨w.heap.size, 1, none⟩ = some (.string ⟨#[]⟩) := by rw [blk_cell hrr]; rfl
            have z0 : pw.w'.frozen? ⟨w.heap.size, 0, none⟩ = false := blk_frozen hrr 0
            have z1 : pw.w'.frozen? ⟨w.heap.size, 1, none⟩ = false := blk_frozen hrr 1
            clear hrr
            go_wp2
            refine bodyPost_ret (v := .tuple #[.agg #[.string ⟨#[]⟩, .string ⟨#[]⟩], .int .i64 5]) (by simp [results, Try.results22, go_sem, r0, r1]) rfl ⟨?_, mid_end HMID.out HBw.out HB5.out _ _⟩
            have ht : tabR s many n = z33 := by unfold tabR; rw [HER.out]; rfl
            rw [HER.out, ht]
            rfl
          · rw [decide_eq_false hlo] at hbad
            replace hbad : badR s many n = false := hbad
            have p9 := pp
            clear pp
            have HNB := Lib.hid hbad
            clear hbad
            have hmx : Try.prog.follows .mixedOrders = true := by kernel_rfl
            refine wp_region_kept hmx (by kernel_rfl) ?_
            repeat (go_big_quiet_step (exact kept_calls (HTG.out _)))
            refine wpQuiet_nil ?_
            rintro _ ⟨pw, rfl⟩
            have HB5 := Lib.hid pw.h
            have y0 := p0 pw
            have y1 := p1 pw
            have y2 := p2 pw
            have y3 := p3 pw
            have yf := pf0 pw
            generalize pw.w' = w5 at HB5 y0 y1 y2 y3 yf ⊢
            clear p9 p0 p1 p2 p3 pf0 pf1
            go_wp2_with fail
            have k0 := kept_cell y0
            have k1 := kept_cell y1
            have k2 := kept_cell y2
            have k3 := kept_cell y3
            have kf := kept_cell yf
            by_cases hov : (s.size : Int) < nat + nmany
            · have hE : errR s many n = 4 := by unfold errR; rw [HNB.out, HREC.out]; rw [if_neg Bool.false_ne_true, if_pos hov]
              have HER := Lib.hid hE
              clear hE
              have hmx : Try.prog.follows .mixedOrders = true := by kernel_rfl
              refine wp_region_kept hmx (by kernel_rfl) ?_
              repeat (go_big_quiet_step (exact kept_calls (HEND.out _)))
              refine wpQuiet_nil ?_
              rintro _ ⟨pw, rfl⟩
              have HB6 := Lib.hid (HB5.out.trans (pw.h.mono HB5.out.size))
              have hrr := (HB6.out.block _ (blk_lt HMID.out.r)).trans HMID.out.r
              have r0 : pw.w'.cell? ⟨w.heap.size, 0, none⟩ = some (.string ⟨#[]⟩) := by rw [blk_cell hrr]; rfl
              have r1 : pw.w'.cell? ⟨w.heap.size, 1, none⟩ = some (.string ⟨#[]⟩) := by rw [blk_cell hrr]; rfl
              have z0 : pw.w'.frozen? ⟨w.heap.size, 0, none⟩ = false := blk_frozen hrr 0
              have z1 : pw.w'.frozen? ⟨w.heap.size, 1, none⟩ = false := blk_frozen hrr 1
              clear hrr
              go_wp2
              refine bodyPost_ret (v := .tuple #[.agg #[.string ⟨#[]⟩, .string ⟨#[]⟩], .int .i64 4]) (by simp [results, Try.results22, go_sem, r0, r1]) rfl ⟨?_, mid_end HMID.out HBw.out HB6.out _ _⟩
              have ht : tabR s many n = z33 := by unfold tabR; rw [HER.out]; rfl
              rw [HER.out, ht]
              rfl
            · have hmx : Try.prog.follows .mixedOrders = true := by kernel_rfl
              refine wp_region_kept hmx (by kernel_rfl) ?_
              repeat (go_big_quiet_step (exact kept_calls (HEND.out _)))
              refine wpQuiet_nil ?_
              rintro _ ⟨pw, rfl⟩
              have HB6 := Lib.hid (HB5.out.trans (pw.h.mono HB5.out.size))
              have v0 := k0 pw
              have v1 := k1 pw
              have v2 := k2 pw
              have v3 := k3 pw
              have vf := kf pw
              generalize pw.w' = w6 at HB6 v0 v1 v2 v3 vf ⊢
              clear k0 k1 k2 k3 kf y0 y1 y2 y3 yf
              have hv0 : (0 : Int) ≤ nat + nmany := by omega
              have hv1 : nat ≤ nat + nmany := by omega
              have hv2 : nat + nmany ≤ (s.size : Int) := by omega
              have hXw : ¬ X = w6.heap.size := by have := World.block_lt_of_cell? _ _ v0; simp at this; omega
              have hgw : ¬ g = w6.heap.size := by have := World.block_lt_of_cell? _ _ vf; simp at this; omega
              obtain ⟨D, hD⟩ : ∃ D, s.extract nat.toNat (nat + nmany).toNat = D := ⟨_, rfl⟩
              go_wp2_with fail
              go_region_held3 (fun w' => w'.cell? ⟨X, 0, none⟩ = some (.int .i64 nat) ∧ w'.cell? ⟨X, 1, none⟩ = some (.int .i64 nmany) ∧ w'.cell? ⟨X, 2, none⟩ = some (.string tg) ∧ w'.cell? ⟨g, 0, none⟩ = some (.string s)) (first | exact keep4 hbk (by assumption) | exact keep4 (below_alloc hbk _) ⟨v0, v1, v2, vf⟩ | exact keep4s hXw hXw hXw hgw (keep4s hXw hXw hXw hgw (by assumption)) | go_keep) (first | (go_at_call 47; refine (HEND.out _).mono ?_; rintro e w7 ⟨rfl, hbk⟩; try (have hnb : w7.heap[w6.heap.size]? = some (.cells #[.string ⟨#[]⟩, .string ⟨#[]⟩] 33 (0, 0)) := new_cellsD hbk; have u0 : w7.cell? ⟨w6.heap.size, 0, none⟩ = some (.string ⟨#[]⟩) := (blk_cell hnb 0).trans rfl; have u1 : w7.cell? ⟨w6.heap.size, 1, none⟩ = some (.string ⟨#[]⟩) := (blk_cell hnb 1).trans rfl; have uf0 := blk_frozen hnb 0; have uf1 := blk_frozen hnb 1; clear hnb)))
              · have hB8 := tail1 (o := (.cells #[.string tg, .string D] 33)) HB6.out hbk
                have u0 : (w7.alloc (.cells #[.string tg, .string D] 33)).cell? ⟨w7.heap.size, 0, none⟩ = some (.string tg) := by simp
                have u1 : (w7.alloc (.cells #[.string tg, .string D] 33)).cell? ⟨w7.heap.size, 1, none⟩ = some (.string D) := by simp
                have u3 : (w7.alloc (.cells #[.string tg, .string D] 33)).cell? ⟨X, 3, none⟩ = some (.int .i64 nsum) := pw_cell_below (below_alloc (Below.refl w7.heap.size w7) _) (pw_cell_below hbk v3)
                clear v0 v1 v2 v3 vf hXw hgw hbk
                generalize w7.alloc (.cells #[.string tg, .string D] 33) = w8 at hB8 u0 u1 u3 ⊢
                generalize w7.heap.size = T at u0 u1 ⊢
                have HB8 := Lib.hid hB8
                clear hB8
                have hdl : D.size ≤ 1000000000 := by
                  rw [← hD, ByteArray.size_extract]
                  omega
                have HSUM := Lib.hid (sfnt_sum_calls tg D hdl)
                have hErr : errR s many n = if tabSum tg D ≠ nsum then 5 else 0 := by
                  unfold errR dataR
                  rw [HNB.out, HREC.out]
                  simp only [hD]
                  rw [if_neg Bool.false_ne_true, if_neg (show ¬ (s.size : Int) < nat + nmany by omega)]
                have hTab : errR s many n = 0 → tabR s many n = ⟨tg, D⟩ := fun h => by
                  unfold tabR dataR
                  rw [if_pos h, HREC.out]
                  simp only [hD]
                generalize tabSum tg D = sm at HSUM hErr
                have HTB := Lib.hid hTab
                clear hTab hdl hD hv0 hv1 hv2 hov
                go_wp2_with fail
                have k0 := kept_cell u0
                have k1 := kept_cell u1
                have k3 := kept_cell u3
                clear u0 u1 u3
                by_cases hsn : sm = nsum
                · rw [if_neg (fun h => h hsn)] at hErr
                  have HER := Lib.hid hErr
                  have hq1 : (sm != nsum) = false := by rw [hsn]; simp
                  have hq2 : (sm == nsum) = true := by rw [hsn]; simp
                  clear hsn hErr
                  have hmx : Try.prog.follows .mixedOrders = true := by kernel_rfl
                  refine wp_region_kept hmx (by kernel_rfl) ?_
                  repeat (go_big_quiet_step (exact kept_calls (HSUM.out _)))
                  refine wpQuiet_nil ?_
                  rintro _ ⟨pw, rfl⟩
                  have HB9 := Lib.hid (HB8.out.trans (pw.h.mono HB8.out.size))
                  have t0 := k0 pw
                  have t1 := k1 pw
                  have hrr := (HB9.out.block _ (blk_lt HMID.out.r)).trans HMID.out.r
                  have r0 : pw.w'.cell? ⟨w.heap.size, 0, none⟩ = some (.string ⟨#[]⟩) := by rw [blk_cell hrr]; rfl
                  have r1 : pw.w'.cell? ⟨w.heap.size, 1, none⟩ = some (.string ⟨#[]⟩) := by rw [blk_cell hrr]; rfl
                  have z0 : pw.w'.frozen? ⟨w.heap.size, 0, none⟩ = false := blk_frozen hrr 0
                  have z1 : pw.w'.frozen? ⟨w.heap.size, 1, none⟩ = false := blk_frozen hrr 1
                  clear hrr
                  go_wp2
                  refine bodyPost_ret (v := .tuple #[.agg #[.string tg, .string D], .int .i64 0]) (by simp [results, Try.results22, go_sem, r0, r1]) rfl ⟨?_, mid_end HMID.out HBw.out HB9.out _ _⟩
                  rw [HTB.out HER.out, HER.out]
                · rw [if_pos hsn] at hErr
                  have HER := Lib.hid hErr
                  have hq1 : (sm != nsum) = true := by simpa using hsn
                  have hq2 : (sm == nsum) = false := by simpa using hsn
                  clear hsn hErr
                  have hmx : Try.prog.follows .mixedOrders = true := by kernel_rfl
                  refine wp_region_kept hmx (by kernel_rfl) ?_
                  repeat (go_big_quiet_step (exact kept_calls (HSUM.out _)))
                  refine wpQuiet_nil ?_
                  rintro _ ⟨pw, rfl⟩
                  have HB9 := Lib.hid (HB8.out.trans (pw.h.mono HB8.out.size))
                  have hrr := (HB9.out.block _ (blk_lt HMID.out.r)).trans HMID.out.r
                  have r0 : pw.w'.cell? ⟨w.heap.size, 0, none⟩ = some (.string ⟨#[]⟩) := by rw [blk_cell hrr]; rfl
                  have r1 : pw.w'.cell? ⟨w.heap.size, 1, none⟩ = some (.string ⟨#[]⟩) := by rw [blk_cell hrr]; rfl
                  have z0 : pw.w'.frozen? ⟨w.heap.size, 0, none⟩ = false := blk_frozen hrr 0
                  have z1 : pw.w'.frozen? ⟨w.heap.size, 1, none⟩ = false := blk_frozen hrr 1
                  clear hrr
                  go_wp2
                  refine bodyPost_ret (v := .tuple #[.agg #[.string ⟨#[]⟩, .string ⟨#[]⟩], .int .i64 5]) (by simp [results, Try.results22, go_sem, r0, r1]) rfl ⟨?_, mid_end HMID.out HBw.out HB9.out _ _⟩
                  have ht : tabR s many n = z33 := by unfold tabR; rw [HER.out]; rfl
                  rw [HER.out, ht]
                  rfl
              · have hB8 := tail2 (u := .string tg) (v := .string D) HB6.out hbk
                have hu0 := u0
                have hu1 := u1
                have e0 : ((w7.setCell ⟨w6.heap.size, 0, none⟩ (.string tg)).setCell ⟨w6.heap.size, 1, none⟩ (.string D)).cell? ⟨w6.heap.size, 0, none⟩ = some (.string tg) := (two_set hu0 hu1).1
                have e1 : ((w7.setCell ⟨w6.heap.size, 0, none⟩ (.string tg)).setCell ⟨w6.heap.size, 1, none⟩ (.string D)).cell? ⟨w6.heap.size, 1, none⟩ = some (.string D) := (two_set hu0 hu1).2
                have u3 : ((w7.setCell ⟨w6.heap.size, 0, none⟩ (.string tg)).setCell ⟨w6.heap.size, 1, none⟩ (.string D)).cell? ⟨X, 3, none⟩ = some (.int .i64 nsum) := by
                  rw [World.cell?_of_block (a := ⟨X, 3, none⟩) (Below.heap_setCell _ ⟨w6.heap.size, 1, none⟩ _ X hXw), World.cell?_of_block (a := ⟨X, 3, none⟩) (Below.heap_setCell _ ⟨w6.heap.size, 0, none⟩ _ X hXw)]
                  exact pw_cell_below hbk (pw_cell_below (below_drew (below_alloc (Below.refl w6.heap.size w6) _)) v3)
                clear v0 v1 v2 v3 vf hXw hgw hbk u0 u1 uf0 uf1 hu0 hu1
                generalize ((w7.setCell ⟨w6.heap.size, 0, none⟩ (.string tg)).setCell ⟨w6.heap.size, 1, none⟩ (.string D)) = w8 at hB8 e0 e1 u3 ⊢
                generalize w6.heap.size = T at e0 e1 ⊢
                have u0 := e0
                have u1 := e1
                clear e0 e1
                have HB8 := Lib.hid hB8
                clear hB8
                have hdl : D.size ≤ 1000000000 := by
                  rw [← hD, ByteArray.size_extract]
                  omega
                have HSUM := Lib.hid (sfnt_sum_calls tg D hdl)
                have hErr : errR s many n = if tabSum tg D ≠ nsum then 5 else 0 := by
                  unfold errR dataR
                  rw [HNB.out, HREC.out]
                  simp only [hD]
                  rw [if_neg Bool.false_ne_true, if_neg (show ¬ (s.size : Int) < nat + nmany by omega)]
                have hTab : errR s many n = 0 → tabR s many n = ⟨tg, D⟩ := fun h => by
                  unfold tabR dataR
                  rw [if_pos h, HREC.out]
                  simp only [hD]
                generalize tabSum tg D = sm at HSUM hErr
                have HTB := Lib.hid hTab
                clear hTab hdl hD hv0 hv1 hv2 hov
                go_wp2_with fail
                have k0 := kept_cell u0
                have k1 := kept_cell u1
                have k3 := kept_cell u3
                clear u0 u1 u3
                by_cases hsn : sm = nsum
                · rw [if_neg (fun h => h hsn)] at hErr
                  have HER := Lib.hid hErr
                  have hq1 : (sm != nsum) = false := by rw [hsn]; simp
                  have hq2 : (sm == nsum) = true := by rw [hsn]; simp
                  clear hsn hErr
                  have hmx : Try.prog.follows .mixedOrders = true := by kernel_rfl
                  refine wp_region_kept hmx (by kernel_rfl) ?_
                  repeat (go_big_quiet_step (exact kept_calls (HSUM.out _)))
                  refine wpQuiet_nil ?_
                  rintro _ ⟨pw, rfl⟩
                  have HB9 := Lib.hid (HB8.out.trans (pw.h.mono HB8.out.size))
                  have t0 := k0 pw
                  have t1 := k1 pw
                  have hrr := (HB9.out.block _ (blk_lt HMID.out.r)).trans HMID.out.r
                  have r0 : pw.w'.cell? ⟨w.heap.size, 0, none⟩ = some (.string ⟨#[]⟩) := by rw [blk_cell hrr]; rfl
                  have r1 : pw.w'.cell? ⟨w.heap.size, 1, none⟩ = some (.string ⟨#[]⟩) := by rw [blk_cell hrr]; rfl
                  have z0 : pw.w'.frozen? ⟨w.heap.size, 0, none⟩ = false := blk_frozen hrr 0
                  have z1 : pw.w'.frozen? ⟨w.heap.size, 1, none⟩ = false := blk_frozen hrr 1
                  clear hrr
                  go_wp2
                  refine bodyPost_ret (v := .tuple #[.agg #[.string tg, .string D], .int .i64 0]) (by simp [results, Try.results22, go_sem, r0, r1]) rfl ⟨?_, mid_end HMID.out HBw.out HB9.out _ _⟩
                  rw [HTB.out HER.out, HER.out]
                · rw [if_pos hsn] at hErr
                  have HER := Lib.hid hErr
                  have hq1 : (sm != nsum) = true := by simpa using hsn
                  have hq2 : (sm == nsum) = false := by simpa using hsn
                  clear hsn hErr
                  have hmx : Try.prog.follows .mixedOrders = true := by kernel_rfl
                  refine wp_region_kept hmx (by kernel_rfl) ?_
                  repeat (go_big_quiet_step (exact kept_calls (HSUM.out _)))
                  refine wpQuiet_nil ?_
                  rintro _ ⟨pw, rfl⟩
                  have HB9 := Lib.hid (HB8.out.trans (pw.h.mono HB8.out.size))
                  have hrr := (HB9.out.block _ (blk_lt HMID.out.r)).trans HMID.out.r
                  have r0 : pw.w'.cell? ⟨w.heap.size, 0, none⟩ = some (.string ⟨#[]⟩) := by rw [blk_cell hrr]; rfl
                  have r1 : pw.w'.cell? ⟨w.heap.size, 1, none⟩ = some (.string ⟨#[]⟩) := by rw [blk_cell hrr]; rfl
                  have z0 : pw.w'.frozen? ⟨w.heap.size, 0, none⟩ = false := blk_frozen hrr 0
                  have z1 : pw.w'.frozen? ⟨w.heap.size, 1, none⟩ = false := blk_frozen hrr 1
                  clear hrr
                  go_wp2
                  refine bodyPost_ret (v := .tuple #[.agg #[.string ⟨#[]⟩, .string ⟨#[]⟩], .int .i64 5]) (by simp [results, Try.results22, go_sem, r0, r1]) rfl ⟨?_, mid_end HMID.out HBw.out HB9.out _ _⟩
                  have ht : tabR s many n = z33 := by unfold tabR; rw [HER.out]; rfl
                  rw [HER.out, ht]
                  rfl
        · have hE : errR s many n = 5 := by unfold errR; rw [hbad, decide_eq_true hm4]; rfl
          have hq1 : (nat % 4 == 0) = false := by simpa using hm4
          have hq2 : (nat % 4 != 0) = true := by simpa using hm4
          clear hm4
          have HER := Lib.hid hE
          clear hbad hE
          have hmx : Try.prog.follows .mixedOrders = true := by kernel_rfl
          refine wp_region_kept hmx (by kernel_rfl) ?_
          repeat (go_big_quiet_step (exact kept_calls (HTG.out _)))
          refine wpQuiet_nil ?_
          rintro _ ⟨pw, rfl⟩
          have HB5 := Lib.hid pw.h
          have hrr := (HB5.out.block _ (blk_lt HMID.out.r)).trans HMID.out.r
          have r0 : pw.w'.cell? ⟨w.heap.size, 0, none⟩ = some (.string ⟨#[]⟩) := by rw [blk_cell hrr]; rfl
          have r1 : pw.w'.cell? ⟨w.heap.size, 1, none⟩ = some (.string ⟨#[]⟩) := by rw [blk_cell hrr]; rfl
          have z0 : pw.w'.frozen? ⟨w.heap.size, 0, none⟩ = false := blk_frozen hrr 0
          have z1 : pw.w'.frozen? ⟨w.heap.size, 1, none⟩ = false := blk_frozen hrr 1
          clear hrr
          go_wp2
          refine bodyPost_ret (v := .tuple #[.agg #[.string ⟨#[]⟩, .string ⟨#[]⟩], .int .i64 5]) (by simp [results, Try.results22, go_sem, r0, r1]) rfl ⟨?_, mid_end HMID.out HBw.out HB5.out _ _⟩
          have ht : tabR s many n = z33 := by unfold tabR; rw [HER.out]; rfl
          rw [HER.out, ht]
          rfl
end Go.Proofs.Ytgchajlfopmcjaa.P
