/- show.writer: a strings.Builder inside a struct, walked: copyCheck, WriteString, WriteByte, Len, String; word. -/
import Derived.Test.YtaoepeiadhdbaaaDoorShSmall
import Derived.Shelf.Strings.BuilderK
import Derived.Lib.Hide
import Derived.Laws.Rows
import Derived.Laws.NewBlocks
import Derived.RegionTactic
import Derived.ChangeAlike
import Derived.Tactics2
import Derived.Lib.SmallJoins
import Derived.Shelf.RegionOpen
namespace Go.Proofs.YtaoepeiadhdbaaaDoor.P
open Go.Shelf Go.RowKit Go.Proofs.YtaoepeiadhdbaaaDoorW.PrintWords Go.Proofs.YtaoepeiadhdbaaaDoorW.PrintLast Go.Proofs.YtaoepeiadhdbaaaDoorW.PrintMore
set_option linter.unusedVariables false
set_option linter.unusedSimpArgs false
/-- A writer in block b that holds bytes; its buffer lies from B on. -/
def Wb (B b : Nat) (l : List UInt8) (w : World) : Prop := Lib.IsBuilderF 41 5 B b (Lib.byteCells l) w ∧ (l = [] → w.cell? ⟨b, 1, none⟩ = some (.slice none 0 0))
/-- What is kept: all below B, and whatever is neither the writer's block nor a row of bytes. -/
structure Fr (B b : Nat) (w w' : World) : Prop where
  below : Below B w w'
  oth : Lib.OthersKept 5 (some b) w w'
theorem Fr.refl (B b : Nat) (w : World) : Fr B b w w := ⟨Below.refl _ _, Lib.OthersKept.refl _ _ _⟩
theorem Fr.trans {B b : Nat} {w w1 w2 : World} (h : Fr B b w w1) (h' : Fr B b w1 w2) : Fr B b w w2 := ⟨h.below.trans h'.below, h.oth.trans h'.oth⟩
theorem Fr.alloc {B b : Nat} {w w1 : World} (h : Fr B b w w1) (hB : B ≤ w.heap.size) (o : Obj) : Fr B b w (w1.alloc o) := ⟨h.below.alloc (Nat.le_trans hB h.below.size) o, h.oth.alloc o⟩
theorem Fr.of_below {B b : Nat} {w w' : World} (h : Below w.heap.size w w') (hB : B ≤ w.heap.size) : Fr B b w w' := ⟨h.mono hB, fun k o hk _ _ => (h.block k (by
  rcases Nat.lt_or_ge k w.heap.size with h' | h'
  · exact h'
  · simp [Array.getElem?_eq_none h'] at hk)).trans hk⟩
theorem Wb.alloc {B b : Nat} {l : List UInt8} {w : World} (h : Wb B b l w) (o : Obj) : Wb B b l (w.alloc o) := by
  have hb : b < w.heap.size := by rcases h.1 with h1 | h1 <;> exact h1.lt
  refine ⟨?_, fun he => ?_⟩
  · rcases h.1 with h1 | h1
    · exact .inl (h1.alloc o)
    · exact .inr (h1.alloc o)
  · have := h.2 he
    unfold World.cell? at this ⊢
    dsimp only at this ⊢
    rw [Lib.alloc_old w o b hb]
    exact this
theorem Wb.below {B b : Nat} {l : List UInt8} {w w' : World} (h : Wb B b l w) (hb : Below w.heap.size w w') : Wb B b l w' := by
  have hlt : b < w.heap.size := by rcases h.1 with h1 | h1 <;> exact h1.lt
  have k : ∀ p, Lib.BuilderAtF 41 5 B b p (Lib.byteCells l) w → Lib.BuilderAtF 41 5 B b p (Lib.byteCells l) w' := fun p hA => by
    obtain ⟨hB, v, hbk, hown, hne⟩ := hA
    refine ⟨hB, v, (hb.block b hlt).trans hbk, ⟨hown.1, ?_⟩, hne⟩
    rcases hown.2 with h0 | ⟨g, cap, cur, fz, e, hbg, hg, r⟩
    · exact .inl h0
    · refine .inr ⟨g, cap, cur, fz, e, hbg, ?_, r⟩
      rw [hb.block g ?_]
      · exact hg
      · rcases Nat.lt_or_ge g w.heap.size with h' | h'
        · exact h'
        · simp [Array.getElem?_eq_none h'] at hg
  refine ⟨?_, fun he => (hb.cell (by simpa using hlt)).trans (h.2 he)⟩
  rcases h.1 with h1 | h1
  · exact .inl (k _ h1)
  · exact .inr (k _ h1)
set_option maxHeartbeats 2000000 in
set_option maxRecDepth 100000 in
theorem sw_copyCheck (B b : Nat) (bs : List Value) (w : World) (h : Lib.IsBuilderF 41 5 B b bs w) :
    Calls Tryd.prog 32 #[.pointer (some ⟨b, 0, none⟩)] w fun e w' => e = .returned (.tuple #[]) ∧ Lib.BuilderAtF 41 5 B b (.pointer (some ⟨b, 0, none⟩)) bs w' ∧ Fr B b w w' ∧ w'.cell? ⟨b, 1, none⟩ = w.cell? ⟨b, 1, none⟩ := by
  obtain ⟨j, hj, hjs⟩ := Option.map_eq_some_iff.1 (show (Tryd.prog.info? 39).map (·.size) = some 2 by kernel_rfl)
  rcases h with h | h
  · have c0 := h.cell0
    have fz := h.frozen0
    have hsh := h.shape
    have hto := Lib.run_to_unsafe (P := Tryd.prog) w ⟨b, 0, none⟩ Tryd.underlying36 Tryd.underlying71 hj (by rw [hjs]; decide) hsh (Nat.zero_lt_succ 1)
    have hfrom := Lib.run_from_unsafe (P := Tryd.prog) w ⟨b, 0, none⟩ Tryd.underlying71 Tryd.underlying36 hj hsh (by kernel_rfl)
    have hne : ∀ (a : Value) (w : World), (callFunc 41 #[a]).run Tryd.prog w = .ok (.value a) w := fun a w => by
      rw [run_callFunc_extern Tryd.func41 (by kernel_rfl) (by kernel_rfl) (by kernel_rfl) (e := Extern.AbiNoEscape.same) (by kernel_rfl), Lib.run_noEscape]
      rfl
    have HW := Lib.hid (And.intro (h.used (.pointer (some ⟨b, 0, none⟩))) (And.intro (Fr.mk ((Below.refl B w).setCell (p := ⟨b, 0, none⟩) h.1 (.pointer (some ⟨b, 0, none⟩))) ((Lib.OthersKept.refl 5 (some b) w).setCell ⟨b, 0, none⟩ rfl (.pointer (some ⟨b, 0, none⟩)))) (World.cell?_setCell_other (w := w) (a := ⟨b, 0, none⟩) (b := ⟨b, 1, none⟩) (v := .pointer (some ⟨b, 0, none⟩)) (h := by intro e; injection e with _ e; cases e))))
    clear hsh hj hjs h
    go_enter Tryd.func32, Tryd.ntmps32
    go_wp2
    go_end0
    exact ⟨rfl, HW.out⟩
  · have c0 := h.cell0
    have HW := Lib.hid h
    clear h
    go_enter Tryd.func32, Tryd.ntmps32
    go_wp2
    rw [Lib.run_neq_ptr_same w _ Tryd.underlying36 hj]
    go_wp2
    go_end0
    exact ⟨rfl, HW.out, Fr.refl _ _ _, rfl⟩
theorem byteCells_app (l m : List UInt8) : Lib.byteCells (l ++ m) = Lib.byteCells l ++ Lib.byteCells m := by unfold Lib.byteCells; rw [List.map_append]
set_option maxHeartbeats 2000000 in
set_option maxRecDepth 100000 in
theorem sw_WriteString (B b : Nat) (l : List UInt8) (s : ByteArray) (w : World) (h : Wb B b l w) (hlen : l.length + s.size ≤ 140737488355328) (hBw : B ≤ w.heap.size) :
    Calls Tryd.prog 27 #[.pointer (some ⟨b, 0, none⟩), .string s] w fun e w' => e = .returned (.tuple #[.int .i64 s.size, .nilIface]) ∧ Wb B b (l ++ s.data.toList) w' ∧ Fr B b w w' := by
  obtain ⟨i0, hi, hz0, hz1, hz2⟩ := info_parts (show (Tryd.prog.info? 5).map (fun i => (i.zero, i.size, i.bytes)) = some (some (.int .u8 0), 1, 1) by kernel_rfl)
  obtain ⟨hI, hN⟩ := h
  have HN := Lib.hid hN
  clear hN
  have HBL := Lib.hid (Lib.byteCells_length l)
  go_enter Tryd.func27, Tryd.ntmps27
  go_wp2_with (go_at_call 32; refine (sw_copyCheck B b _ _ hI).mono ?_)
  rintro e w1 ⟨rfl, ⟨hB, v, hbk, hown, hne⟩, hf1, hc1⟩
  have HC1 := Lib.hid hc1
  clear hc1
  have c1 : w1.cell? ⟨b, 1, none⟩ = some v := by rw [Lib.cell_of_heap hbk]; rfl
  go_wp2_with (at_builtin; refine Lib.wpList_append_own_stringF _ rfl _ _ 37 9 rfl B 5 i0 Tryd.underlying37 Tryd.underlying9 hi hz0 hz1 hz2 _ _ _ rfl hown s rfl ?c3 ?c4 ?c5 ?_)
  case c3 => have hbl := HBL.out; unfold maxLen; omega
  case c4 => have hbl := HBL.out; omega
  case c5 => have := hf1.below.size; omega
  intro v' w2 hown' hgrow hnil
  have hlt : b < w1.heap.size := by
    rcases Nat.lt_or_ge b w1.heap.size with h' | h'
    · exact h'
    · simp [Array.getElem?_eq_none h'] at hbk
  have hb2 : w2.heap[b]? = some (.cells #[.pointer (some ⟨b, 0, none⟩), v] 41 (0, 0)) := by
    rw [hgrow.block b hlt (fun e => hne e.symm)]
    exact hbk
  have d0 : w2.cell? ⟨b, 0, none⟩ = some (.pointer (some ⟨b, 0, none⟩)) := by rw [Lib.cell_of_heap hb2]; rfl
  have d1 : w2.cell? ⟨b, 1, none⟩ = some v := by rw [Lib.cell_of_heap hb2]; rfl
  have f1 : w2.frozen? ⟨b, 1, none⟩ = false := Lib.frozen_of_heap hb2 1
  have hFr : Fr B b w (w2.setCell ⟨b, 1, none⟩ v') := ⟨(hf1.below.grown hgrow (by have := hf1.below.size; omega) (fun k hk => (hown.lt k hk).1)).setCell (p := ⟨b, 1, none⟩) hB _, (hf1.oth.grown hgrow (Lib.ownsRowF_kind hown)).setCell ⟨b, 1, none⟩ rfl _⟩
  have hWb : Wb B b (l ++ s.data.toList) (w2.setCell ⟨b, 1, none⟩ v') := by
    have es : Lib.strCells s = Lib.byteCells s.data.toList := rfl
    refine ⟨.inr ?_, fun he => ?_⟩
    · rw [byteCells_app, ← es]
      exact Lib.BuilderAtF.put (T := 41) (e := 5) hB hb2 (bs' := Lib.byteCells l ++ Lib.strCells s) (by simpa [Lib.strCells_length] using hown') (by decide)
    · obtain ⟨h1, h2⟩ := List.append_eq_nil_iff.1 he
      have hv : v = .slice none 0 0 := by
        have := HN.out h1
        rw [← HC1.out, c1] at this
        exact Option.some.inj this
      have hs0 : s = ByteArray.empty := by
        cases s with
        | mk d => simp at h2; subst h2; rfl
      rw [hnil.2 ⟨hv, hs0⟩]
      exact World.cell?_setCell_same w2 ⟨b, 1, none⟩ (.slice none 0 0) d1
  have HFr := Lib.hid hFr
  have HWb := Lib.hid hWb
  obtain ⟨ao, n', cap, rfl⟩ : ∃ ao n' cap, v' = .slice ao n' cap := by
    rcases hown'.2 with ⟨hv, _⟩ | ⟨g, cap, cur, fz, hv, _⟩
    · exact ⟨_, _, _, hv⟩
    · exact ⟨_, _, _, hv⟩
  clear hFr hWb hown hown' hgrow hnil hbk hf1 hI hb2
  go_wp2
  go_ret2
  exact ⟨rfl, HWb.out, HFr.out⟩
set_option maxHeartbeats 2000000 in
set_option maxRecDepth 100000 in
theorem sw_WriteByte (B b : Nat) (l : List UInt8) (c : UInt8) (w : World) (h : Wb B b l w) (hlen : l.length + 1 ≤ 140737488355328) (hBw : B ≤ w.heap.size) :
    Calls Tryd.prog 21 #[.pointer (some ⟨b, 0, none⟩), .int .u8 c.toNat] w fun e w' => e = .returned .nilIface ∧ Wb B b (l ++ [c]) w' ∧ Fr B b w w' := by
  obtain ⟨i0, hi, hz0, hz1, hz2⟩ := info_parts (show (Tryd.prog.info? 5).map (fun i => (i.zero, i.size, i.bytes)) = some (some (.int .u8 0), 1, 1) by kernel_rfl)
  obtain ⟨hI, hN⟩ := h
  clear hN
  have HBL := Lib.hid (Lib.byteCells_length l)
  go_enter Tryd.func21, Tryd.ntmps21
  go_wp2_with (go_at_call 32; refine (sw_copyCheck B b _ _ hI).mono ?_)
  rintro e w1 ⟨rfl, ⟨hB, v, hbk, hown, hne⟩, hf1, hc1⟩
  have HC1 := Lib.hid hc1
  clear hc1
  have c1 : w1.cell? ⟨b, 1, none⟩ = some v := by rw [Lib.cell_of_heap hbk]; rfl
  go_wp2_with (at_builtin; refine wpList_append_ownF _ rfl _ _ 37 rfl B 5 i0 (.int .u8 0) 1 1 Tryd.underlying37 hi hz0 hz1 hz2 rfl (by decide) _ _ _ rfl (hown.alloc _) ⟨w1.heap.size, 0, none⟩ 1 1 [.int .u8 c.toNat] rfl rfl ?c1 ?c2 ?c3 ?c4 ?c5 ?_)
  case c1 =>
    intro j u hj
    match j, hj with
    | 0, hj => simp at hj; subst hj; simp [Addr.add]
  case c2 => intro u hu; simp at hu; subst hu; rfl
  case c3 => have hbl := HBL.out; unfold maxLen; omega
  case c4 => have hbl := HBL.out; omega
  case c5 => have := hf1.below.size; simp; omega
  intro v' w2 hown' hgrow _
  have hlt : b < w1.heap.size := by
    rcases Nat.lt_or_ge b w1.heap.size with h' | h'
    · exact h'
    · simp [Array.getElem?_eq_none h'] at hbk
  have hb2 : w2.heap[b]? = some (.cells #[.pointer (some ⟨b, 0, none⟩), v] 41 (0, 0)) := by
    rw [hgrow.block b (by simp; omega) (fun e => hne e.symm), Lib.alloc_old w1 _ b hlt]
    exact hbk
  have d0 : w2.cell? ⟨b, 0, none⟩ = some (.pointer (some ⟨b, 0, none⟩)) := by rw [Lib.cell_of_heap hb2]; rfl
  have d1 : w2.cell? ⟨b, 1, none⟩ = some v := by rw [Lib.cell_of_heap hb2]; rfl
  have f1 : w2.frozen? ⟨b, 1, none⟩ = false := Lib.frozen_of_heap hb2 1
  have hFr : Fr B b w (w2.setCell ⟨b, 1, none⟩ v') := ⟨((hf1.below.alloc (by have := hf1.below.size; omega) _).grown hgrow (by have := hf1.below.size; simp; omega) (fun k hk => (hown.lt k hk).1)).setCell (p := ⟨b, 1, none⟩) hB _, ((hf1.oth.alloc _).grown hgrow (Lib.ownsRowF_kind (hown.alloc _))).setCell ⟨b, 1, none⟩ rfl _⟩
  have hWb : Wb B b (l ++ [c]) (w2.setCell ⟨b, 1, none⟩ v') := by
    refine ⟨.inr ?_, fun he => by simp at he⟩
    have e1 : Lib.byteCells [c] = [Value.int .u8 c.toNat] := rfl
    rw [byteCells_app, e1]
    exact Lib.BuilderAtF.put (T := 41) (e := 5) hB hb2 (bs' := Lib.byteCells l ++ [Value.int .u8 c.toNat]) (by simpa using hown') (by decide)
  have HFr := Lib.hid hFr
  have HWb := Lib.hid hWb
  obtain ⟨g, cap, rfl⟩ : ∃ g cap, v' = .slice (some ⟨g, 0, none⟩) (l.length + 1) cap := by
    rcases hown'.2 with ⟨_, h0⟩ | ⟨g, cap, cur, fz, hv, _⟩
    · omega
    · exact ⟨g, cap, by rw [hv, HBL.out]⟩
  clear hFr hWb hown hown' hgrow hbk hf1 hI hb2
  go_wp2
  go_ret
  exact ⟨rfl, HWb.out, HFr.out⟩
set_option maxHeartbeats 2000000 in
set_option maxRecDepth 100000 in
theorem sw_Len (B b : Nat) (l : List UInt8) (w : World) (h : Wb B b l w) :
    Calls Tryd.prog 12 #[.pointer (some ⟨b, 0, none⟩)] w fun e w' => e = .returned (.int .i64 l.length) ∧ w' = w := by
  obtain ⟨p, hB, v, hbk, hown, hne⟩ : ∃ p, Lib.BuilderAtF 41 5 B b p (Lib.byteCells l) w := by
    rcases h.1 with h | h
    · exact ⟨_, h⟩
    · exact ⟨_, h⟩
  rw [Lib.byteCells_length] at hown
  obtain ⟨ao, cap, rfl⟩ : ∃ ao cap, v = .slice ao l.length cap := by
    rcases hown.2 with ⟨hv, h0⟩ | ⟨g, cap, cur, fz, hv, _⟩
    · exact ⟨none, 0, by rw [hv, h0]⟩
    · exact ⟨_, _, hv⟩
  have c1 : w.cell? ⟨b, 1, none⟩ = some (.slice ao l.length cap) := by rw [Lib.cell_of_heap hbk]; rfl
  clear hbk hown hne h
  go_enter Tryd.func12, Tryd.ntmps12
  go_wp2
  go_ret
  exact ⟨rfl, rfl⟩
set_option maxHeartbeats 2000000 in
set_option maxRecDepth 100000 in
theorem sw_String (B b : Nat) (l : List UInt8) (w : World) (h : Wb B b l w) :
    Calls Tryd.prog 13 #[.pointer (some ⟨b, 0, none⟩)] w fun e w' => e = .returned (.string ⟨l.toArray⟩) ∧ Below B w w' := by
  obtain ⟨p, hp, hB, v, hbk, hown, hne⟩ : ∃ p, (p = .pointer none ∨ p = .pointer (some ⟨b, 0, none⟩)) ∧ Lib.BuilderAtF 41 5 B b p (Lib.byteCells l) w := by
    rcases h.1 with h | h
    · exact ⟨_, .inl rfl, h⟩
    · exact ⟨_, .inr rfl, h⟩
  rw [Lib.byteCells_length] at hown
  by_cases h0 : l = []
  · subst h0
    have c0 := h.2 rfl
    have c1 : w.drew.cell? ⟨b, 1, none⟩ = some (.slice none 0 0) := c0
    have hUS : ∀ (W : World) (q : Option Addr), (Builtin.unsafeString_ #[55, 3] 9 #[.pointer q, .int .i64 0]).run Tryd.prog W = .ok (.string .empty) W := Any.unsafeString_none Tryd.lays169 Tryd.Builder_Extra_169
    have hSD : (Builtin.unsafeSliceData_ #[37] 55 #[.slice none 0 0]).run Tryd.prog w.drew = .ok (.pointer none) w.drew := rfl
    clear h hbk hown c0
    have mixed : Tryd.prog.follows .mixedOrders = true := by kernel_rfl
    go_enter Tryd.func13, Tryd.ntmps13
    go_wp2
    go_region_o
    all_goals (go_wp2; go_ret; exact ⟨rfl, Below.drew (Below.refl B w)⟩)
  have hl0 : l.length ≠ 0 := by simpa using h0
  obtain ⟨g, cap, cur, fz, rfl, hbg, hg, hfz, hnc, hcm, hcs, htake⟩ : ∃ g cap cur fz, v = .slice (some ⟨g, 0, none⟩) l.length cap ∧ B ≤ g ∧ w.heap[g]? = some (.cells cur 5 fz) ∧ fz.2 ≤ l.length * 1 ∧ l.length ≤ cap ∧ cap ≤ maxLen ∧ cur.size = cap * 1 ∧ cur.toList.take (l.length * 1) = Lib.byteCells l := by
    rcases hown.2 with ⟨_, hz⟩ | ⟨g, cap, cur, fz, hv, r⟩
    · exact absurd hz hl0
    · exact ⟨g, cap, cur, fz, hv, r⟩
  have c1 : w.drew.cell? ⟨b, 1, none⟩ = some (.slice (some ⟨g, 0, none⟩) l.length cap) := by
    have : w.drew.heap[b]? = some (.cells #[p, .slice (some ⟨g, 0, none⟩) l.length cap] 41 (0, 0)) := hbk
    rw [Lib.cell_of_heap this]; rfl
  have hSD : (Builtin.unsafeSliceData_ #[37] 55 #[.slice (some ⟨g, 0, none⟩) l.length cap]).run Tryd.prog w.drew = .ok (.pointer (some ⟨g, 0, none⟩)) w.drew :=
    Lib.run_unsafeSliceData_row _ _ _ _ _ _ (by omega)
  have hUS : (Builtin.unsafeString_ #[55, 3] 9 #[.pointer (some ⟨g, 0, none⟩), .int .i64 l.length]).run Tryd.prog w.drew = .ok (.string ⟨l.toArray⟩) (w.drew.freeze ⟨g, 0, none⟩ l.length) := by
    refine Lib.run_unsafeString_row w.drew 55 3 9 5 Tryd.underlying55 (by kernel_rfl) g cur.size (by have hg' : w.drew.heap[g]? = some (.cells cur 5 fz) := hg; simp [World.shape?, hg']) l h0 (by omega) (by unfold maxLen at hcm; omega) ?_
    intro j x hx
    have := hown.cells (g := g) rfl j (.int .u8 x.toNat) (by simp [Lib.byteCells, hx])
    exact this
  have HFR := Lib.hid (Lib.below_freeze (Below.drew (Below.refl B w)) (p := ⟨g, 0, none⟩) hbg l.length)
  clear hg htake hcs hown hbk hfz h
  have mixed : Tryd.prog.follows .mixedOrders = true := by kernel_rfl
  go_enter Tryd.func13, Tryd.ntmps13
  go_wp2
  go_region_o
  all_goals (go_wp2; go_ret; exact ⟨rfl, HFR.out⟩)
set_option maxHeartbeats 2000000 in
set_option maxRecDepth 100000 in
theorem word_calls (B b : Nat) (l : List UInt8) (s : ByteArray) (w : World) (h : Wb B b l w) (hlen : l.length + (s.size + 1) ≤ 140737488355328) (hBw : B ≤ w.heap.size) :
    Calls Tryd.prog 19 #[.pointer (some ⟨b, 0, none⟩), .string s] w fun e w' => e = .returned (.tuple #[]) ∧ Wb B b (l ++ (92 :: s.data.toList)) w' ∧ Fr B b w w' := by
  have hz : (⟨#[92]⟩ ++ s : ByteArray).size = s.size + 1 := by rw [ByteArray.size_append]; exact Nat.add_comm _ _
  have hd : (⟨#[92]⟩ ++ s : ByteArray).data.toList = 92 :: s.data.toList := by simp
  have HC := Lib.hid (sw_WriteString B b l (⟨#[92]⟩ ++ s) w h (by omega) hBw)
  rw [hd] at HC
  have s2 := eq_false (show ¬ 9223372036854775807 < 1 + s.size by omega)
  clear hz hd h
  go_enter Tryd.func19, Tryd.ntmps19
  go_wp2_with (go_at_call 27; with_reducible refine (HC.out).mono ?_; rintro e w1 ⟨rfl, hw, hf⟩)
  go_end0
  exact ⟨rfl, hw, hf⟩
end Go.Proofs.YtaoepeiadhdbaaaDoor.P
