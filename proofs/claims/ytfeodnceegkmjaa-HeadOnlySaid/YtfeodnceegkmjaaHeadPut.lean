/- head.noughts, (*head.writer).put and head.Put, walked. -/
import Derived.Test.YtfeodnceegkmjaaWriter
import Derived.Test.YtfeodnceegkmjaaHeadIs
import Derived.Test.YtfeodnceegkmjaaPutSpec
import Derived.Test.YtfeodnceegkmjaaShelf
import Derived.Test.YtfeodnceegkmjaaFixMul
namespace Go.Proofs.Ytfeodnceegkmjaa.P
open Go.Shelf Go.RowKit Go.Proofs.YtfeodnceegkmjaaW.PrintWords Go.Proofs.YtfeodnceegkmjaaW.PrintLast Go.Proofs.YtfeodnceegkmjaaW.PrintMore
set_option linter.unusedVariables false
set_option linter.unusedSimpArgs false
attribute [local go_sem] max2_int min2_int max_two min_two max_three min_three max_four min_four
theorem rep0 : ∀ c, Lib.repeatL [0] c = List.replicate c 0
  | 0 => rfl
  | c + 1 => by rw [Lib.repeatL, rep0 c, List.replicate_succ]; rfl
theorem noughts_calls (c : Nat) (hc : c ≤ 100) (w : World) :
    Calls Try.prog 37 #[.int .i64 c] w fun e w' => e = .returned (.string ⟨(List.replicate c 0).toArray⟩) ∧ Below w.heap.size w w' := by
  have hR := Try.strings_Repeat ⟨#[0]⟩ c w (by omega) (by have : (⟨#[0]⟩ : ByteArray).size = 1 := rfl; rw [this]; omega)
  have hd : (⟨#[0]⟩ : ByteArray).data.toList = [0] := rfl
  rw [hd, rep0] at hR
  have HR := Lib.hid hR
  clear hR hd
  go_enter Try.func37, Try.ntmps37
  go_wp2_with (go_at_call 48; refine (HR.out).mono ?_; rintro e w1 ⟨rfl, hb⟩)
  go_ret
  exact ⟨rfl, hb⟩
/-- What a number's field of a table holds. -/
def fldL (n size : Int) (behind : Nat) : List UInt8 := putB n size.natAbs ++ List.replicate behind 0
theorem below_kept {B b : Nat} {w w' : World} (h : Below w.heap.size w w') (hB : B ≤ w.heap.size) : KeptB B b w w' := KeptB.of_below (h.mono hB)
theorem Wr.kept {B b : Nat} {l : List UInt8} {w w' : World} (h : Wr B b l w) (hb : Below w.heap.size w w') : Wr B b l w' := by
  obtain ⟨p, v, hp, hbB, hbk, hown⟩ := h
  exact ⟨p, v, hp, hbB, (hb.block b (nocell_lt hbk)).trans hbk, ownF_same hown fun k hk => hb.block k (ownF_lt hown hk).2⟩
theorem Wr.store0 {B b : Nat} {l : List UInt8} {w : World} (h : Wr B b l w) : Wr B b l (w.setCell ⟨b, 2, none⟩ (.int .i64 0)) := by
  obtain ⟨p, v, hp, hbB, hbk, hown⟩ := h
  exact ⟨p, v, hp, wr_set hbB hbk 2 (.int .i64 0) rfl hown⟩
theorem Wr.drew {B b : Nat} {l : List UInt8} {w : World} (h : Wr B b l w) : Wr B b l w.drew := h
theorem KeptB.drew {B b : Nat} {w w' : World} (h : KeptB B b w w') : KeptB B b w w'.drew := ⟨h.os, h.tape, h.output, h.size, h.block⟩
set_option maxHeartbeats 4000000 in
set_option maxRecDepth 100000 in
theorem wr_put (B b : Nat) (l : List UInt8) (n size : Int) (behind : Nat) (w : World) (h : Wr B b l w) (hB : B ≤ w.heap.size) (hl : l.length ≤ 1000) (hs : sizeB size = true) (hf : fitsB n size = true) (hbe : behind ≤ 100) :
    Calls Try.prog 19 #[.pointer (some ⟨b, 0, none⟩), .int .i64 n, .int .i64 size, .int .i64 behind] w fun e w' => e = .returned (.tuple #[]) ∧ Wr B b (l ++ fldL n size behind) w' ∧ KeptB B b w w' := by
  have hps : bin_Put.f [size] [n] = some (⟨(putB n size.natAbs).toArray⟩, 0) := by
    rw [put_spec _ _ (by simp) (by simp)]
    have hr : rightB [size] = true := by simp [rightB, hs]
    have hfa : fitsAll [size] [n] = true := by simp [fitsAll, hf]
    have hpa : putAll [size] [n] = putB n size.natAbs := by simp [putAll]
    unfold pspec
    rw [hr, hfa, hpa]
    simp
  have hN := noughts_calls behind hbe
  have hsz : (⟨(putB n size.natAbs).toArray⟩ : ByteArray).size = size.natAbs := by show (putB n size.natAbs).toArray.size = _; rw [List.size_toArray, putB_length]
  have hsz2 : (⟨(List.replicate behind (0 : UInt8)).toArray⟩ : ByteArray).size = behind := by show (List.replicate behind (0 : UInt8)).toArray.size = _; simp
  have hs4 : size.natAbs ≤ 4 := by unfold sizeB at hs; simp only [Bool.and_eq_true, decide_eq_true_eq] at hs; omega
  have hfld : fldL n size behind = ((⟨(putB n size.natAbs).toArray⟩ : ByteArray) ++ ⟨(List.replicate behind (0 : UInt8)).toArray⟩).data.toList := by
    rw [ByteArray.data_append]; simp [fldL]
  generalize (⟨(putB n size.natAbs).toArray⟩ : ByteArray) = S1 at hps hsz hfld
  generalize (⟨(List.replicate behind (0 : UInt8)).toArray⟩ : ByteArray) = S2 at hN hsz2 hfld
  have hle : S1.size + S2.size ≤ 104 := by omega
  have hno : ¬ 9223372036854775807 < S1.size + S2.size := by omega
  clear hsz hsz2 hs4
  have H := Lib.hid h
  have HPS := Lib.hid hps
  have HN := Lib.hid hN
  have HF := Lib.hid hfld
  clear h hps hN hfld
  have hrow1 : Kd.C (Kd.int .i64) (w.alloc (.cells #[.int .i64 size] 3)) (some ⟨w.heap.size, 0, none⟩) ([size] : List Int).length [size] := K_row [size] _ _ (by simp) (by
    intro j hj
    have : j < 1 := hj
    obtain rfl : j = 0 := by omega
    simp only [World.cell?, heap_alloc_new]; rfl)
  have hrow2 : Kd.C (Kd.int .i64) ((w.alloc (.cells #[.int .i64 size] 3)).alloc (.cells #[.int .i64 n] 3)) (some ⟨w.heap.size + 1, 0, none⟩) ([n] : List Int).length [n] := K_row [n] _ _ (by simp) (by
    intro j hj
    have : j < 1 := hj
    obtain rfl : j = 0 := by omega
    simp only [World.cell?, heap_alloc2_new]; rfl)
  have HR1 := Lib.hid (Kd.C_alloc hrow1 (.cells #[.int .i64 n] 3))
  have HR2 := Lib.hid hrow2
  clear hrow1 hrow2
  go_enter Try.func19, Try.ntmps19
  go_wp2_with fail
  refine (bin_Put.calls _ 1 [size] _ 1 [n] S1 0 _ HR1.out (by simp) HR2.out (by simp) HPS.out).mono ?_
  rintro e w1 ⟨rfl, hb1⟩
  have hB1 : Below w.heap.size w w1 := (((Below.refl w.heap.size w).alloc (Nat.le_refl _) _).alloc (by simp) _).trans (hb1.mono (by simp; omega))
  have H1 := Lib.hid (H.out.kept hB1)
  have HB1 := Lib.hid hB1
  obtain ⟨p, v, hp, hbB, hbk, hown⟩ := H1.out
  have q2 : w1.cell? ⟨b, 2, none⟩ = some (.int .i64 0) := Joins.cell_of_block hbk 2
  have f2 : w1.frozen? ⟨b, 2, none⟩ = false := Joins.unfrozen_of_block hbk 2
  clear hp hbB hbk hown hb1 hB1
  go_wp2_with fail
  have H2 := Lib.hid H1.out.store0.drew
  have HK2 := Lib.hid (((KeptB.of_below (HB1.out.mono hB) : KeptB B b w w1).trans (KeptB.set w1 2 (.int .i64 0))).drew)
  clear H1 H HR1 HR2 HPS q2 f2
  go_region_held3 (fun w' => True) (trivial)
    (first
      | (go_at_call 37; refine (HN.out _).mono ?_; rintro e w3 ⟨rfl, hb3⟩; have H3 := Lib.hid (H2.out.kept hb3); have HK3 := Lib.hid (HK2.out.trans (KeptB.of_below (hb3.mono (Nat.le_trans hB HK2.out.size)))); clear hb3)
      | (go_at_call 36; refine (wr_WriteString B b l (S1 ++ S2) _ H3.out (by rw [ByteArray.size_append]; omega) (Nat.le_trans hB HK3.out.size)).mono ?_; rintro e w4 ⟨rfl, hw4, hk4⟩; have H4 := Lib.hid hw4; have HK4 := Lib.hid (HK3.out.trans hk4); clear hw4 hk4))
  go_end0
  exact ⟨rfl, by rw [HF.out]; exact H4.out, HK4.out⟩
end Go.Proofs.Ytfeodnceegkmjaa.P
