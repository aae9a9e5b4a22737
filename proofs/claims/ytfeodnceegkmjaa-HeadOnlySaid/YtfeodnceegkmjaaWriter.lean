/- head.writer: a strings.Builder inside a struct, walked: copyCheck, WriteString, String. No condition but sizes. -/
import Derived.Test.YtfeodnceegkmjaaPx0
import Derived.Shelf.Strings.BuilderK
import Derived.Lib.Hide
import Derived.Laws.Rows
import Derived.Laws.NewBlocks
import Derived.Deep.RegionHeld3
import Derived.Deep.AppendLies
import Derived.RegionTactic
import Derived.ChangeAlike
import Derived.Tactics2
import Derived.Lib.SmallJoins
namespace Go.Proofs.Ytfeodnceegkmjaa.P
open Go.Shelf Go.RowKit Go.Proofs.YtfeodnceegkmjaaW.PrintWords Go.Proofs.YtfeodnceegkmjaaW.PrintLast Go.Proofs.YtfeodnceegkmjaaW.PrintMore
set_option linter.unusedVariables false
set_option linter.unusedSimpArgs false
/-- A writer in the block b, of no error, that holds bytes; its buffer lies from B on. -/
def WrAt (B b : Nat) (p : Value) (v : Value) (l : List UInt8) (w : World) : Prop :=
  b < B ∧ w.heap[b]? = some (.cells #[p, v, .int .i64 0] 47 (0, 0)) ∧ w.ownsRowF B 5 1 v l.length (Lib.byteCells l)
def Wr (B b : Nat) (l : List UInt8) (w : World) : Prop := ∃ p v, (p = .pointer none ∨ p = .pointer (some ⟨b, 0, none⟩)) ∧ WrAt B b p v l w
/-- All below B stays, but the block b. -/
structure KeptB (B b : Nat) (w w' : World) : Prop where
  os : w'.os = w.os
  tape : w'.tape = w.tape
  output : w'.output = w.output
  size : w.heap.size ≤ w'.heap.size
  block : ∀ k, k < B → k ≠ b → w'.heap[k]? = w.heap[k]?
theorem KeptB.refl (B b : Nat) (w : World) : KeptB B b w w := ⟨rfl, rfl, rfl, Nat.le_refl _, fun _ _ _ => rfl⟩
theorem KeptB.trans {B b : Nat} {w w1 w2 : World} (h : KeptB B b w w1) (h' : KeptB B b w1 w2) : KeptB B b w w2 :=
  ⟨h'.os.trans h.os, h'.tape.trans h.tape, h'.output.trans h.output, Nat.le_trans h.size h'.size, fun k hk hb => (h'.block k hk hb).trans (h.block k hk hb)⟩
theorem KeptB.of_below {B b : Nat} {w w' : World} (h : Below B w w') : KeptB B b w w' := ⟨h.os, h.tape, h.output, h.size, fun k hk _ => h.block k hk⟩
theorem KeptB.set {B b : Nat} (w : World) (i : Nat) (v : Value) : KeptB B b w (w.setCell ⟨b, i, none⟩ v) :=
  ⟨rfl, rfl, rfl, by simp [World.setCell], fun k _ hk => Below.heap_setCell _ _ _ _ hk⟩
theorem KeptB.below {B b C : Nat} {w w' : World} (h : KeptB B b w w') (hC : C ≤ B) (hb : C ≤ b) : Below C w w' := ⟨h.os, h.tape, h.output, h.size, fun k hk => h.block k (by omega) (by omega)⟩
theorem nocell_lt {w : World} {b : Nat} {o : Obj} (h : w.heap[b]? = some o) : b < w.heap.size := by
  rcases Nat.lt_or_ge b w.heap.size with h' | h'
  · exact h'
  · simp [Array.getElem?_eq_none h'] at h
theorem ownF_lt {w : World} {B : Nat} {e : TypeId} {v : Value} {n : Nat} {xs : List Value} (h : w.ownsRowF B e 1 v n xs) {k : Nat} (hk : v.ownBlock = some k) : B ≤ k ∧ k < w.heap.size := by
  rcases h.2 with ⟨rfl, _⟩ | ⟨g, cap, cur, fz, rfl, hbg, hg, _⟩
  · simp [Value.ownBlock] at hk
  · simp only [Value.ownBlock, Option.some.injEq] at hk
    subst hk
    exact ⟨hbg, nocell_lt hg⟩
/-- A row of its own lies on where its block does. -/
theorem ownF_same {w w' : World} {B : Nat} {e : TypeId} {v : Value} {n : Nat} {xs : List Value} (h : w.ownsRowF B e 1 v n xs) (hb : ∀ k, v.ownBlock = some k → w'.heap[k]? = w.heap[k]?) : w'.ownsRowF B e 1 v n xs := by
  refine ⟨h.1, ?_⟩
  rcases h.2 with h0 | ⟨g, cap, cur, fz, rfl, hbg, hg, r⟩
  · exact .inl h0
  · exact .inr ⟨g, cap, cur, fz, rfl, hbg, (hb g rfl).trans hg, r⟩
theorem wr_set {B b : Nat} {p v p' v' : Value} {l' : List UInt8} {w : World} (hbB : b < B) (hbk : w.heap[b]? = some (.cells #[p, v, .int .i64 0] 47 (0, 0))) (i : Nat) (x : Value) (hx : #[p, v, Value.int .i64 0].setIfInBounds i x = #[p', v', .int .i64 0]) (hown : w.ownsRowF B 5 1 v' l'.length (Lib.byteCells l')) :
    WrAt B b p' v' l' (w.setCell ⟨b, i, none⟩ x) := by
  refine ⟨hbB, ?_, ?_⟩
  · rw [Joins.block_setCell hbk, hx]
  · exact ownF_same hown fun k hk => Below.heap_setCell _ _ _ _ (by have := (ownF_lt hown hk).1; simp; omega)
set_option maxHeartbeats 2000000 in
set_option maxRecDepth 100000 in
theorem wr_copyCheck (B b : Nat) (l : List UInt8) (w : World) (h : Wr B b l w) :
    Calls Try.prog 47 #[.pointer (some ⟨b, 0, none⟩)] w fun e w' => e = .returned (.tuple #[]) ∧ (∃ v, WrAt B b (.pointer (some ⟨b, 0, none⟩)) v l w') ∧ KeptB B b w w' := by
  obtain ⟨p, v, hp, hbB, hbk, hown⟩ := h
  have hvb : v.ownBlock ≠ some b := fun hv => by have := (ownF_lt hown hv).1; omega
  rcases hp with rfl | rfl
  · have c0 : w.cell? ⟨b, 0, none⟩ = some (.pointer none) := Joins.cell_of_block hbk 0
    have fz : w.frozen? ⟨b, 0, none⟩ = false := Joins.unfrozen_of_block hbk 0
    have hsh : w.shape? b = some (47, 3) := by simp [World.shape?, hbk]
    obtain ⟨j, hj, hjs⟩ := Option.map_eq_some_iff.1 (show (Try.prog.info? 45).map (·.size) = some 2 by kernel_rfl)
    have hto := Lib.run_to_unsafe (P := Try.prog) w ⟨b, 0, none⟩ Try.underlying43 Try.underlying79 hj (by rw [hjs]; decide) hsh (Nat.zero_lt_succ 2)
    have hfrom := Lib.run_from_unsafe (P := Try.prog) w ⟨b, 0, none⟩ Try.underlying79 Try.underlying43 hj hsh (by kernel_rfl)
    have hne : ∀ (a : Value) (w : World), (callFunc 50 #[a]).run Try.prog w = .ok (.value a) w := fun a w => by
      rw [run_callFunc_extern Try.func50 (by kernel_rfl) (by kernel_rfl) (by kernel_rfl) (e := Extern.AbiNoEscape.same) (by kernel_rfl), Lib.run_noEscape]
      rfl
    have hW := wr_set (p' := .pointer (some ⟨b, 0, none⟩)) (v' := v) (l' := l) hbB hbk 0 (.pointer (some ⟨b, 0, none⟩)) rfl hown
    have HW := Lib.hid hW
    clear hbk hsh hj hjs hW hown hvb
    go_enter Try.func47, Try.ntmps47
    go_wp2
    go_end0
    exact ⟨rfl, ⟨v, HW.out⟩, KeptB.set w 0 _⟩
  · have c0 : w.cell? ⟨b, 0, none⟩ = some (.pointer (some ⟨b, 0, none⟩)) := Joins.cell_of_block hbk 0
    have HW := Lib.hid (show WrAt B b (.pointer (some ⟨b, 0, none⟩)) v l w from ⟨hbB, hbk, hown⟩)
    obtain ⟨j, hj, hjs⟩ := Option.map_eq_some_iff.1 (show (Try.prog.info? 45).map (·.size) = some 2 by kernel_rfl)
    clear hbk hown hvb
    go_enter Try.func47, Try.ntmps47
    go_wp2
    rw [Lib.run_neq_ptr_same w _ Try.underlying43 hj]
    go_wp2
    go_end0
    exact ⟨rfl, ⟨v, HW.out⟩, KeptB.refl _ _ _⟩
set_option maxHeartbeats 2000000 in
set_option maxRecDepth 100000 in
theorem wr_WriteString (B b : Nat) (l : List UInt8) (s : ByteArray) (w : World) (h : Wr B b l w) (hlen : l.length + s.size ≤ 140737488355328) (hBw : B ≤ w.heap.size) :
    Calls Try.prog 36 #[.pointer (some ⟨b, 0, none⟩), .string s] w fun e w' => e = .returned (.tuple #[.int .i64 s.size, .nilIface]) ∧ Wr B b (l ++ s.data.toList) w' ∧ KeptB B b w w' := by
  obtain ⟨i0, hi, hz0, hz1, hz2⟩ := info_parts (show (Try.prog.info? 5).map (fun i => (i.zero, i.size, i.bytes)) = some (some (.int .u8 0), 1, 1) by kernel_rfl)
  have H := Lib.hid h
  clear h
  go_enter Try.func36, Try.ntmps36
  go_wp2_with (go_at_call 47; refine (wr_copyCheck B b l _ H.out).mono ?_)
  rintro e w1 ⟨rfl, ⟨v, hbB, hbk, hown⟩, hk1⟩
  have c1 : w1.cell? ⟨b, 1, none⟩ = some v := Joins.cell_of_block hbk 1
  go_wp2_with (at_builtin; refine Lib.wpList_append_own_stringF _ rfl _ _ 35 9 rfl B 5 i0 Try.underlying35 Try.underlying9 hi hz0 hz1 hz2 _ _ _ rfl hown s rfl ?c3 ?c4 ?c5 ?_)
  case c3 => unfold maxLen; omega
  case c4 => omega
  case c5 => have := hk1.size; omega
  intro v' w2 hown' hgrow _
  have hlt : b < w1.heap.size := nocell_lt hbk
  have hb2 : w2.heap[b]? = some (.cells #[.pointer (some ⟨b, 0, none⟩), v, .int .i64 0] 47 (0, 0)) := by
    rw [hgrow.block b hlt (fun e => by have := (ownF_lt hown e.symm).1; omega)]
    exact hbk
  have f1 : w2.frozen? ⟨b, 1, none⟩ = false := Joins.unfrozen_of_block hb2 1
  have d1 : w2.cell? ⟨b, 1, none⟩ = some v := Joins.cell_of_block hb2 1
  have hK : KeptB B b w w2 := hk1.trans ⟨hgrow.os, hgrow.tape, hgrow.output, hgrow.size, fun k hk hkb => by
    rcases Nat.lt_or_ge k w1.heap.size with h' | h'
    · exact hgrow.block k h' (fun e => by have := (ownF_lt hown e.symm).1; omega)
    · have := hk1.size; omega⟩
  have hs : (l ++ s.data.toList).length = l.length + s.size := by rw [List.length_append]; simp only [Array.length_toList]; rfl
  have hc : Lib.byteCells (l ++ s.data.toList) = Lib.byteCells l ++ Lib.strCells s := by unfold Lib.byteCells Lib.strCells; rw [List.map_append]
  have hW := wr_set (p' := .pointer (some ⟨b, 0, none⟩)) (v' := v') (l' := l ++ s.data.toList) hbB hb2 1 v' rfl (by rw [hs, hc]; exact hown')
  have HW := Lib.hid hW
  have HK := Lib.hid hK
  obtain ⟨ao, n', cap, rfl⟩ : ∃ ao n' cap, v' = .slice ao n' cap := by
    rcases hown'.2 with ⟨hv, _⟩ | ⟨g, cap, cur, fz, hv, _⟩
    · exact ⟨_, _, _, hv⟩
    · exact ⟨_, _, _, hv⟩
  clear hW hK hs hc hb2 hown hown' hgrow hk1 hbk c1
  go_wp2
  go_ret2
  exact ⟨rfl, ⟨_, _, .inr rfl, HW.out⟩, HK.out.trans (KeptB.set w2 1 _)⟩
set_option maxHeartbeats 2000000 in
set_option maxRecDepth 100000 in
theorem wr_String (B b : Nat) (l : List UInt8) (h0 : l ≠ []) (w : World) (h : Wr B b l w) :
    Calls Try.prog 20 #[.pointer (some ⟨b, 0, none⟩)] w fun e w' => e = .returned (.string ⟨l.toArray⟩) ∧ ∃ g n c, w.cell? ⟨b, 1, none⟩ = some (.slice (some ⟨g, 0, none⟩) n c) ∧ B ≤ g ∧ g < w.heap.size ∧ w'.os = w.os ∧ w'.tape = w.tape ∧ w'.output = w.output ∧ w'.heap.size = w.heap.size ∧ (∀ k, k ≠ g → w'.heap[k]? = w.heap[k]?) := by
  obtain ⟨p, v, hp, hbB, hbk, hown⟩ := h
  have hl0 : l.length ≠ 0 := by simpa using h0
  obtain ⟨g, cap, cur, fz, rfl, hbg, hg, hfz, hnc, hcm, hcs, htake⟩ : ∃ g cap cur fz, v = .slice (some ⟨g, 0, none⟩) l.length cap ∧ B ≤ g ∧ w.heap[g]? = some (.cells cur 5 fz) ∧ fz.2 ≤ l.length * 1 ∧ l.length ≤ cap ∧ cap ≤ maxLen ∧ cur.size = cap * 1 ∧ cur.toList.take (l.length * 1) = Lib.byteCells l := by
    rcases hown.2 with ⟨_, hz⟩ | ⟨g, cap, cur, fz, hv, r⟩
    · exact absurd hz hl0
    · exact ⟨g, cap, cur, fz, hv, r⟩
  have c1 : w.drew.cell? ⟨b, 1, none⟩ = some (.slice (some ⟨g, 0, none⟩) l.length cap) := by
    have : w.drew.heap[b]? = some (.cells #[p, .slice (some ⟨g, 0, none⟩) l.length cap, .int .i64 0] 47 (0, 0)) := hbk
    exact Joins.cell_of_block this 1
  have hSD : (Builtin.unsafeSliceData_ #[35] 69 #[.slice (some ⟨g, 0, none⟩) l.length cap]).run Try.prog w.drew = .ok (.pointer (some ⟨g, 0, none⟩)) w.drew :=
    Lib.run_unsafeSliceData_row _ _ _ _ _ _ (by omega)
  have hUS : (Builtin.unsafeString_ #[69, 3] 9 #[.pointer (some ⟨g, 0, none⟩), .int .i64 l.length]).run Try.prog w.drew = .ok (.string ⟨l.toArray⟩) (w.drew.freeze ⟨g, 0, none⟩ l.length) := by
    refine Lib.run_unsafeString_row w.drew 69 3 9 5 Try.underlying69 (by kernel_rfl) g cur.size (by have hg' : w.drew.heap[g]? = some (.cells cur 5 fz) := hg; simp [World.shape?, hg']) l h0 (by omega) (by unfold maxLen at hcm; omega) ?_
    intro j x hx
    have := hown.cells (g := g) rfl j (.int .u8 x.toNat) (by simp [Lib.byteCells, hx])
    exact this
  have hfr : ∀ k, k ≠ g → (w.drew.freeze ⟨g, 0, none⟩ l.length).heap[k]? = w.heap[k]? := fun k hk => by
    unfold World.freeze
    split
    · rfl
    · simp only [Array.getElem?_modify]
      rw [if_neg (fun e => hk e.symm)]
      rfl
  have hfs : (w.drew.freeze ⟨g, 0, none⟩ l.length).heap.size = w.heap.size := by
    unfold World.freeze
    split
    · rfl
    · simp only [Array.size_modify]; rfl
  have hfo : (w.drew.freeze ⟨g, 0, none⟩ l.length).os = w.os ∧ (w.drew.freeze ⟨g, 0, none⟩ l.length).tape = w.tape ∧ (w.drew.freeze ⟨g, 0, none⟩ l.length).output = w.output := by
    unfold World.freeze
    split <;> exact ⟨rfl, rfl, rfl⟩
  have HFR := Lib.hid hfr
  have HFS := Lib.hid hfs
  have HFO := Lib.hid hfo
  have HG := Lib.hid (nocell_lt hg)
  have HC1 := Lib.hid (show w.cell? ⟨b, 1, none⟩ = some (.slice (some ⟨g, 0, none⟩) l.length cap) from c1)
  clear hfr hfs hfo hg htake hcs hown hbk hfz
  go_enter Try.func20, Try.ntmps20
  go_wp2
  go_region
  all_goals (go_wp2; go_ret; exact ⟨rfl, g, _, _, HC1.out, hbg, HG.out, HFO.out.1, HFO.out.2.1, HFO.out.2.2, HFS.out, HFR.out⟩)
theorem Wr.at {B b : Nat} {l : List UInt8} {w : World} (h : Wr B b l w) {g n c : Nat} (hc : w.cell? ⟨b, 1, none⟩ = some (.slice (some ⟨g, 0, none⟩) n c)) : B ≤ g ∧ g < w.heap.size := by
  obtain ⟨p, v, hp, hbB, hbk, hown⟩ := h
  have h1 : w.cell? ⟨b, 1, none⟩ = some v := Joins.cell_of_block hbk 1
  rw [h1] at hc
  injection hc with hc
  subst hc
  exact ownF_lt hown rfl
theorem Wr.move {B b : Nat} {l : List UInt8} {w w' : World} (h : Wr B b l w) (hb : w'.heap[b]? = w.heap[b]?) (hg : ∀ g n c, w.cell? ⟨b, 1, none⟩ = some (.slice (some ⟨g, 0, none⟩) n c) → w'.heap[g]? = w.heap[g]?) : Wr B b l w' := by
  obtain ⟨p, v, hp, hbB, hbk, hown⟩ := h
  have h1 : w.cell? ⟨b, 1, none⟩ = some v := Joins.cell_of_block hbk 1
  refine ⟨p, v, hp, hbB, hb.trans hbk, ownF_same hown fun k hk => ?_⟩
  rcases hown.2 with ⟨rfl, _⟩ | ⟨g, cap, cur, fz, rfl, _⟩
  · simp [Value.ownBlock] at hk
  · simp only [Value.ownBlock, Option.some.injEq] at hk
    subst hk
    exact hg _ _ _ h1
theorem Wr.e0 {B b : Nat} {l : List UInt8} {w : World} (h : Wr B b l w) : w.cell? ⟨b, 2, none⟩ = some (.int .i64 0) := by
  obtain ⟨p, v, hp, hbB, hbk, hown⟩ := h
  exact Joins.cell_of_block hbk 2
theorem Wr.lt {B b : Nat} {l : List UInt8} {w : World} (h : Wr B b l w) : b < B := by
  obtain ⟨p, v, hp, hbB, hbk, hown⟩ := h; exact hbB
/-- A writer that nobody has written. -/
theorem Wr.new {B b : Nat} {w : World} (hb : b < B) (h : w.heap[b]? = some (.cells #[.pointer none, .slice none 0 0, .int .i64 0] 47 (0, 0))) : Wr B b [] w :=
  ⟨_, _, .inl rfl, hb, h, by simp [Lib.byteCells], .inl ⟨rfl, rfl⟩⟩
end Go.Proofs.Ytfeodnceegkmjaa.P
