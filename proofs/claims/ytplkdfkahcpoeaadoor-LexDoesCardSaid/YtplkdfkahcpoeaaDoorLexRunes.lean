/- lex.Runes, walked: a text's runes, where the library's tables stand. Condition: a text of at most 10^9 bytes. -/
import Derived.Test.YtplkdfkahcpoeaaDoorLexSign
import Derived.Lib.OthersKept
namespace Go.Proofs.YtplkdfkahcpoeaaDoor.P
open Go.Shelf Go.RowKit Go.Proofs.YtplkdfkahcpoeaaDoorW.PrintWords Go.Proofs.YtplkdfkahcpoeaaDoorW.PrintLast Go.Proofs.YtplkdfkahcpoeaaDoorW.PrintMore
set_option linter.unusedVariables false
set_option linter.unusedSimpArgs false
set_option maxRecDepth 100000
theorem width_pos (s : ByteArray) (pos : Nat) (h : pos < s.size) : 1 ≤ (Utf8.decode s pos).2 := by
  by_cases ha : (s[pos]'h).toNat < 128
  · rw [decode_ascii s pos h ha]
    exact Nat.le_refl _
  · exact (decode_high s pos h (by omega)).2
def runesI (s : ByteArray) : Nat → Nat → List Int
  | 0, _ => []
  | f + 1, pos => if pos < s.size then ((Utf8.decode s pos).1 : Int) :: runesI s f (pos + (Utf8.decode s pos).2) else []
theorem runesI_end (s : ByteArray) (f pos : Nat) (h : ¬ pos < s.size) : runesI s f pos = [] := by
  cases f with
  | zero => rfl
  | succ f => rw [runesI, if_neg h]
def okS (s : ByteArray) : Bool := Lib.validD s.data.toList && !decide (0 ≤ Lib.indexByte s.data.toList 0)
def runesS (s : ByteArray) : List Int × Int := if okS s then (runesI s s.size 0, 0) else ([], 5)
theorem own_iter {w : World} {B k n : Nat} {v : Value} {xs : List Value} {s : ByteArray} {pos : Nat} (h : w.ownsRow B 3 1 v n xs) (hk : w.heap[k]? = some (.stringIter s pos)) (p : Nat) : (w.iterAt k s p).ownsRow B 3 1 v n xs :=
  own_move h fun j hj => by
    obtain ⟨cells, hc⟩ := own_typed h j hj
    refine Lib.iterAt_other w k j s p (fun e => ?_)
    subst e
    rw [hk] at hc
    cases hc
theorem infoI : (Tryd.prog.info? 3).map (fun i => (i.zero, i.size, i.bytes)) = some (some (.int .i64 0), 1, 8) := by kernel_rfl
theorem below_alloc_w {w W : World} (h : Below w.heap.size w W) (o : Obj) : Below w.heap.size w (W.alloc o) := h.alloc h.size o
theorem one_row (W : World) (x : Int) : ReadsInt (W.alloc (.cells #[.int .i64 x] 3)) .i64 (some ⟨W.heap.size, 0, none⟩) 1 [x] :=
  ⟨rfl, by decide, fun _ => ⟨_, rfl, fun j hj => by
    obtain rfl : j = 0 := by omega
    rw [add_plain]
    simp only [World.cell?, heap_alloc_new]
    rfl⟩⟩
set_option maxHeartbeats 8000000 in
theorem runes_calls (s : ByteArray) (hs : s.size ≤ 1000000000) (w : World) (hT : Lib.Utf8Tabs 0 1 w) :
    Calls Tryd.prog 16 #[.string s] w fun e w' => ∃ v, e = .returned (.tuple #[v, .int .i64 (runesS s).2]) ∧ w'.ownsRow w.heap.size 3 1 v (runesS s).1.length (nums .i64 (runesS s).1) ∧ Below w.heap.size w w' := by
  have HV := Lib.hid (Any.utf8_ValidString Tryd.laysValid s w (by omega) hT)
  have HZ := Lib.hid (fun w => Tryd.strings_ContainsRune_ascii s 0 w (by decide) (by decide))
  have hR : runesS s = if okS s then (runesI s s.size 0, 0) else ([], 5) := rfl
  have hO : okS s = (Lib.validD s.data.toList && !decide (0 ≤ Lib.indexByte s.data.toList 0)) := rfl
  rw [show ((0 : Int).toNat.toUInt8) = 0 from rfl] at HZ
  generalize Lib.validD s.data.toList = vb at HV hO
  generalize decide (0 ≤ Lib.indexByte s.data.toList 0) = zb at HZ hO
  clear hT
  cases vb with
  | false =>
    rw [hO] at hR
    have HR : Hid (runesS s = ([], 5)) := Lib.hid hR
    clear hR hO
    go_enter Tryd.func16, Tryd.ntmps16
    go_wp2_with (go_at_call 31; refine HV.out.mono ?_; rintro e w1 ⟨rfl, hb⟩)
    go_ret2
    rw [HR.out]
    exact ⟨_, rfl, own_nil _ _ _ _, hb⟩
  | true =>
  cases zb with
  | true =>
    rw [hO] at hR
    have HR : Hid (runesS s = ([], 5)) := Lib.hid hR
    clear hR hO
    go_enter Tryd.func16, Tryd.ntmps16
    go_wp2_with (first | (go_at_call 31; refine HV.out.mono ?_; rintro e w1 ⟨rfl, hb⟩) | (go_at_call 25; refine (HZ.out _).mono ?_; rintro e w2 ⟨rfl, rfl⟩))
    go_ret2
    rw [HR.out]
    exact ⟨_, rfl, own_nil _ _ _ _, hb⟩
  | false =>
    rw [hO] at hR
    have HR : Hid (runesS s = (runesI s s.size 0, 0)) := Lib.hid hR
    clear hR hO
    go_enter Tryd.func16, Tryd.ntmps16
    go_wp2_with (first | (go_at_call 31; refine HV.out.mono ?_; rintro e w1 ⟨rfl, hb⟩) | (go_at_call 25; refine (HZ.out _).mono ?_; rintro e w2 ⟨rfl, rfl⟩))
    have HS := Lib.hid hs
    have HB0 := Lib.hid hb
    clear hs hb
    go_loopg [4] (s.size + 1) (fun gk v4 wr => ∃ (pos f : Nat) (acc : List Int), Hid (wr.ownsRow w.heap.size 3 1 v4 acc.length (nums .i64 acc)) ∧ Hid (wr.heap[w2.heap.size]? = some (.stringIter s pos)) ∧ Hid (Below w.heap.size w wr) ∧ Hid (acc ++ runesI s f pos = runesI s s.size 0) ∧ Hid (s.size ≤ pos + f ∧ acc.length ≤ pos ∧ s.size - pos + 1 ≤ gk))
    case atStart => exact ⟨0, s.size, [], Lib.hid (own_nil _ _ _ _), Lib.hid (World.iter_heap w2 s 0), Lib.hid (HB0.out.alloc HB0.out.size _), Lib.hid rfl, Lib.hid ⟨by omega, by simp, by omega⟩⟩
    case round =>
      obtain ⟨pos, f, acc, HO, HI, HB, HE, HN⟩ := hrel
      by_cases hp : pos < s.size
      · have hnx : ∀ ty, (Instr.next (.pointer (some ⟨w2.heap.size, 0, none⟩)) true ty).run Tryd.prog wr = _ := fun ty => Lib.run_next_any_at wr w2.heap.size s pos ty HI.out hp
        have hwd := width_pos s pos hp
        have hle := decode_le s pos
        have HO2 := Lib.hid (own_iter HO.out HI.out (pos + (Utf8.decode s pos).2))
        have HI2 := Lib.hid (Lib.iterAt_heap wr w2.heap.size s pos (pos + (Utf8.decode s pos).2) HI.out)
        have HB2 := Lib.hid (Lib.below_iterAt HB.out HB0.out.size s (pos + (Utf8.decode s pos).2))
        obtain ⟨f, rfl⟩ : ∃ k, f = k + 1 := ⟨f - 1, by have := HN.out; omega⟩
        have hE := HE.out
        rw [runesI, if_pos hp] at hE
        generalize (Utf8.decode s pos).2 = kk at hnx hwd HO2 HI2 HB2 hE
        obtain ⟨r, hr⟩ : ∃ r : Int, ((Utf8.decode s pos).1 : Int) = r := ⟨_, rfl⟩
        rw [hr] at hnx hE
        have wr1 : IntKind.i64.wrap r = r := IntWalk.i64_in _ (by omega)
        have HE2 := Lib.hid hE
        have HW := Lib.hid hwd
        have HP := Lib.hid hp
        generalize wr.iterAt w2.heap.size s (pos + kk) = wq at hnx HO2 HI2 HB2
        clear hE hwd hle hr hp
        obtain ⟨A, c, rfl⟩ := own_slice HO2.out
        have hl8 : (acc.length + 1) * 8 ≤ 140737488355328 := by have := HN.out; have := HS.out; have := HP.out; omega
        have hbs : w.heap.size ≤ (wq.alloc (.cells #[.int .i64 r] 3)).heap.size := by have := HB2.out.size; simp; omega
        go_wp2_with (at_builtin; refine print_append_row (w0 := w) w.heap.size rfl (.tmp 19) (.tmp 22) 31 3 .i64 8 rfl Tryd.underlying31 infoI (by decide) _ acc [r] _ 1 1 rfl rfl (own_alloc HO2.out _) (one_row wq r) (below_alloc_w HB2.out _) hbs hl8 ?_)
        intro v1 w5 ho hb5 hg hat
        have hit : w5.heap[w2.heap.size]? = some (.stringIter s (pos + kk)) := by
          have h1 : (wq.alloc (.cells #[.int .i64 r] 3)).heap[w2.heap.size]? = some (.stringIter s (pos + kk)) := ((below_alloc (Below.refl wq.heap.size wq) _).block _ (Array.getElem?_eq_some_iff.1 HI2.out).1).trans HI2.out
          refine (hg.block _ (Array.getElem?_eq_some_iff.1 h1).1 (fun e => ?_)).trans h1
          obtain ⟨cells, hc⟩ := own_typed HO2.out _ e.symm
          rw [HI2.out] at hc
          cases hc
        have HO5 : Hid (w5.ownsRow w.heap.size 3 1 v1 (acc ++ [r]).length (nums .i64 (acc ++ [r]))) := Lib.hid (by rw [List.length_append]; exact ho)
        have HIT := Lib.hid hit
        have HB5 := Lib.hid hb5
        clear ho hb5 hg hat hit hnx
        go_wp2
        go_roundg (s.size - pos)
        case measure => have := HN.out; omega
        case rel => exact ⟨pos + kk, f, acc ++ [r], HO5, HIT, HB5, Lib.hid (by rw [List.append_assoc]; exact HE2.out), Lib.hid ⟨by have := HN.out; have := HW.out; omega, by have := HN.out; have := HW.out; rw [List.length_append]; simp; omega, by have := HN.out; have := HW.out; have := HP.out; omega⟩⟩
      · have hnx : ∀ ty, (Instr.next (.pointer (some ⟨w2.heap.size, 0, none⟩)) true ty).run Tryd.prog wr = _ := fun ty => Lib.run_next_end_at wr w2.heap.size s pos ty HI.out hp
        have hE := HE.out
        rw [runesI_end s f pos hp, List.append_nil] at hE
        have HE2 := Lib.hid hE
        clear hE
        obtain ⟨A, c, rfl⟩ := own_slice HO.out
        go_wp2
        go_ret2
        rw [HR.out, ← HE2.out]
        exact ⟨_, rfl, HO.out, HB.out⟩
end Go.Proofs.YtplkdfkahcpoeaaDoor.P
