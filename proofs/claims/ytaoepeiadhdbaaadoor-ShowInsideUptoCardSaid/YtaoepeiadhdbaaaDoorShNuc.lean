/- show.writer's nucleus, walked: a theorem for each kind. Written by wip/tools/gennuc.py. -/
import Derived.Test.YtaoepeiadhdbaaaDoorShFenceA
import Derived.Test.YtaoepeiadhdbaaaDoorNdOwn

namespace Go.Proofs.YtaoepeiadhdbaaaDoor.ND
open Go.Shelf Go.Sort Go.Proofs.YtaoepeiadhdbaaaDoor.P Go.RowKit Go.Proofs.YtaoepeiadhdbaaaDoorW.PrintWords Go.Proofs.YtaoepeiadhdbaaaDoorW.PrintLast Go.Proofs.YtaoepeiadhdbaaaDoorW.PrintMore
set_option linter.unusedVariables false
set_option linter.unusedSimpArgs false
theorem one_braces {α : Type} (K : World → α → List Value → Prop) (f : List α → List UInt8) (G : List α → Prop) (w0 : World) (b : Nat) (hF : LC K f G w0 b)
    (p : List α) (v : Value) (out : List UInt8) (w : World) (hG : G p) (hrd : rdS (K w0) 11 w0 v p) (hw : Wb w0.heap.size b out w) (hb : Below w0.heap.size w0 w) (hlen : out.length + (bracesL f [p]).length ≤ 140737488355328) :
    Calls Tryd.prog 22 #[.pointer (some ⟨b, 0, none⟩), .slice (some ⟨w.heap.size, 0, none⟩) 1 1] (w.alloc (Obj.cells #[v] 22)) fun e w' => e = .returned (.tuple #[]) ∧ Wb w0.heap.size b (out ++ bracesL f [p]) w' ∧ Fr w0.heap.size b w w' := by
  have hFA := (Fr.refl w0.heap.size b w).alloc hb.size (Obj.cells #[v] 22)
  refine (braces_calls K f G w0 b hF [p] (some ⟨w.heap.size, 0, none⟩) 1 out _ (fun q hq => by rw [List.mem_singleton.1 hq]; exact hG) (fun i h => ?_) (by simp) (hw.alloc _) (hb.trans hFA.below) hlen).mono fun e w' h => ⟨h.1, h.2.1, hFA.trans h.2.2⟩
  obtain rfl : i = 0 := by simp at h; omega
  refine ⟨_, v, rfl, fun w2 hf => ?_, hrd⟩
  have h0 := hf.oth w.heap.size _ (heap_alloc_new w _) (fun e => by have := Wb_lt hw; have := Option.some.inj e; omega) (fun c fz e => by injection e with _ e; cases e)
  have e0 : (⟨w.heap.size, 0, none⟩ : Addr).add 0 = ⟨w.heap.size, 0, none⟩ := by simp [Addr.add]
  rw [e0]
  exact nad_cells h0 0 v rfl
theorem itoa_below (n : Int) (h0 : -9223372036854775808 ≤ n) (h1 : n ≤ 9223372036854775807) (w : World) (hT : LexTabs w) : Calls Tryd.prog 31 #[.int .i64 n] w fun e w' => e = .returned (.string ⟨(Lib.itoa n).toArray⟩) ∧ Below w.heap.size w w' := by
  refine (Tryd.strconv_Itoa n h0 h1 w hT.1).mono ?_
  rintro e w' ⟨he, k, os, rfl⟩
  exact ⟨he, rfl, rfl, rfl, by show w.heap.size ≤ (w.heap ++ os).size; rw [Array.size_append]; omega, fun _ hj => by
      show (w.heap ++ os)[_]? = _
      rw [Array.getElem?_append_left hj]⟩
theorem idx_run {P : Program} (t e : TypeId) (n : Nat) (cs : Array Value) (i : Nat) (v : Value) (w : World) (h : P.underlying t = some (.array n e)) (hs : (sizeOf e).run P w = .ok 1 w) (hi : i < n) (hv : cs[i]? = some v) (ha : (isAgg e).run P w = .ok false w) : (Instr.index t (.agg cs) (.int .i64 (i : Int))).run P w = .ok v w := by
  have hi2 : (0 : Int) ≤ (i : Int) ∧ (i : Int) < (n : Int) := by omega
  simp [Instr.index, run_underlying h, asIntOf, hi2, hi, go_sem]
  rw [hs]
  simp [Result.andThen, ha, hv]

set_option maxHeartbeats 2000000 in
set_option maxRecDepth 100000 in
theorem nuc_0 {α : Type} (K : World → α → List Value → Prop) (f : List α → List UInt8) (G : List α → Prop) (w0 : World) (b : Nat) (hT : LexTabs w0) (hF : LC K f G w0 b)
    (a1 a2 a3 a4 : Int) (ps : List (List α)) (Ap : Option Addr) (cp : Nat) (Ar : Option Addr) (rs : List Int) (cr : Nat) (b1 b2 : Bool) (Au : Option Addr) (lu cu : Nat) (Ab : Option Addr) (lb cb : Nat) (out : List UInt8) (w : World) (hG : ∀ p ∈ ps, G p)
    (hp : rdS (fun l cs => ∃ v, cs = [v] ∧ rdS (K w0) 11 w0 v l) 1 w0 (.slice Ap ps.length cp) (ps : List (List α))) (hr : rdS (fun (n : Int) cs => cs = [.int .i64 n] ∧ inI n) 1 w0 (.slice Ar rs.length cr) rs)
    (hps : ps.length ≤ 2000000) (hw : Wb w0.heap.size b out w) (hb : Below w0.heap.size w0 w) (T : List UInt8) (hTX : T = quoteL a2) (hlen : out.length + T.length ≤ 140737488355328) :
    Calls Tryd.prog 20 #[.pointer (some ⟨b, 0, none⟩), .agg #[.int .i64 0, .int .i64 a1, .int .i64 a2, .int .i64 a3, .int .i64 a4, .slice Ap ps.length cp, .slice Ar rs.length cr, .bool b1, .bool b2, .slice Au lu cu, .slice Ab lb cb]] w fun e w' => e = .returned (.tuple #[]) ∧ Wb w0.heap.size b (out ++ T) w' ∧ Fr w0.heap.size b w w' := by
  obtain ⟨Wa, hWa⟩ : ∃ Wa, (w.alloc (Obj.cells #[.int .i64 0, .int .i64 a1, .int .i64 a2, .int .i64 a3, .int .i64 a4, .slice Ap ps.length cp, .slice Ar rs.length cr, .bool b1, .bool b2, .slice Au lu cu, .slice Ab lb cb] 33)).alloc (Obj.cells #[.string ⟨#[]⟩, .string ⟨#[]⟩, .string ⟨#[]⟩, .string ⟨#[]⟩, .string ⟨#[111, 118, 101, 114, 108, 105, 110, 101]⟩, .string ⟨#[117, 110, 100, 101, 114, 108, 105, 110, 101]⟩, .string ⟨#[]⟩, .string ⟨#[]⟩, .string ⟨#[]⟩, .string ⟨#[118, 99, 101, 110, 116, 101, 114]⟩, .string ⟨#[]⟩, .string ⟨#[]⟩] 62) = Wa := ⟨_, rfl⟩
  have hbox := (heap_alloc_old (w.alloc (Obj.cells #[.int .i64 0, .int .i64 a1, .int .i64 a2, .int .i64 a3, .int .i64 a4, .slice Ap ps.length cp, .slice Ar rs.length cr, .bool b1, .bool b2, .slice Au lu cu, .slice Ab lb cb] 33)) (Obj.cells #[.string ⟨#[]⟩, .string ⟨#[]⟩, .string ⟨#[]⟩, .string ⟨#[]⟩, .string ⟨#[111, 118, 101, 114, 108, 105, 110, 101]⟩, .string ⟨#[117, 110, 100, 101, 114, 108, 105, 110, 101]⟩, .string ⟨#[]⟩, .string ⟨#[]⟩, .string ⟨#[]⟩, .string ⟨#[118, 99, 101, 110, 116, 101, 114]⟩, .string ⟨#[]⟩, .string ⟨#[]⟩] 62) (show w.heap.size < _ by simp)).trans (heap_alloc_new w (Obj.cells #[.int .i64 0, .int .i64 a1, .int .i64 a2, .int .i64 a3, .int .i64 a4, .slice Ap ps.length cp, .slice Ar rs.length cr, .bool b1, .bool b2, .slice Au lu cu, .slice Ab lb cb] 33))
  have hsim := heap_alloc_new (w.alloc (Obj.cells #[.int .i64 0, .int .i64 a1, .int .i64 a2, .int .i64 a3, .int .i64 a4, .slice Ap ps.length cp, .slice Ar rs.length cr, .bool b1, .bool b2, .slice Au lu cu, .slice Ab lb cb] 33)) (Obj.cells #[.string ⟨#[]⟩, .string ⟨#[]⟩, .string ⟨#[]⟩, .string ⟨#[]⟩, .string ⟨#[111, 118, 101, 114, 108, 105, 110, 101]⟩, .string ⟨#[117, 110, 100, 101, 114, 108, 105, 110, 101]⟩, .string ⟨#[]⟩, .string ⟨#[]⟩, .string ⟨#[]⟩, .string ⟨#[118, 99, 101, 110, 116, 101, 114]⟩, .string ⟨#[]⟩, .string ⟨#[]⟩] 62)
  have hFA := ((Fr.refl w0.heap.size b w).alloc hb.size (Obj.cells #[.int .i64 0, .int .i64 a1, .int .i64 a2, .int .i64 a3, .int .i64 a4, .slice Ap ps.length cp, .slice Ar rs.length cr, .bool b1, .bool b2, .slice Au lu cu, .slice Ab lb cb] 33)).alloc hb.size (Obj.cells #[.string ⟨#[]⟩, .string ⟨#[]⟩, .string ⟨#[]⟩, .string ⟨#[]⟩, .string ⟨#[111, 118, 101, 114, 108, 105, 110, 101]⟩, .string ⟨#[117, 110, 100, 101, 114, 108, 105, 110, 101]⟩, .string ⟨#[]⟩, .string ⟨#[]⟩, .string ⟨#[]⟩, .string ⟨#[118, 99, 101, 110, 116, 101, 114]⟩, .string ⟨#[]⟩, .string ⟨#[]⟩] 62)
  have hwa := (hw.alloc (Obj.cells #[.int .i64 0, .int .i64 a1, .int .i64 a2, .int .i64 a3, .int .i64 a4, .slice Ap ps.length cp, .slice Ar rs.length cr, .bool b1, .bool b2, .slice Au lu cu, .slice Ab lb cb] 33)).alloc (Obj.cells #[.string ⟨#[]⟩, .string ⟨#[]⟩, .string ⟨#[]⟩, .string ⟨#[]⟩, .string ⟨#[111, 118, 101, 114, 108, 105, 110, 101]⟩, .string ⟨#[117, 110, 100, 101, 114, 108, 105, 110, 101]⟩, .string ⟨#[]⟩, .string ⟨#[]⟩, .string ⟨#[]⟩, .string ⟨#[118, 99, 101, 110, 116, 101, 114]⟩, .string ⟨#[]⟩, .string ⟨#[]⟩] 62)
  rw [hWa] at hbox hFA hwa hsim
  rw [show (w.alloc (Obj.cells #[.int .i64 0, .int .i64 a1, .int .i64 a2, .int .i64 a3, .int .i64 a4, .slice Ap ps.length cp, .slice Ar rs.length cr, .bool b1, .bool b2, .slice Au lu cu, .slice Ab lb cb] 33)).heap.size = w.heap.size + 1 by simp] at hsim
  have HBX : Hid (∀ w2, Fr w0.heap.size b Wa w2 → _) := Lib.hid fun w2 hf => box_kept hbox hw hf
  have HFA := Lib.hid hFA
  have HX0 := Lib.hid hwa
  have HFF := Lib.hid hF
  have HGG := Lib.hid hG
  have HP := Lib.hid hp
  have HR := Lib.hid hr
  have HL := Lib.hid hlen
  have HTT := Lib.hid hT
  have HTX := Lib.hid hTX
  have HSM := Lib.hid hsim
  have HPS := Lib.hid hps
  have HB := Lib.hid (hb.trans hFA.below)
  have HY0 := Lib.hid (Fr.refl w0.heap.size b Wa)
  obtain ⟨k, hk⟩ : ∃ k, w.heap.size = k := ⟨_, rfl⟩
  rw [hk] at HBX HSM
  clear hF hG hp hr hb hlen hT hw hwa hFA hbox hTX hsim hps
  obtain ⟨O0, hO0⟩ : ∃ O0, out = O0 := ⟨_, rfl⟩
  rw [hO0] at HX0
  obtain ⟨O1, hO1⟩ : ∃ O1, O0 ++ quoteL a2 = O1 := ⟨_, rfl⟩
  have HO : Hid (O1 = out ++ T) := Lib.hid (by rw [← hO1, ← hO0, HTX.out]; try simp)
  have HLL1 : Hid (O0.length + (quoteL a2 : List UInt8).length ≤ 140737488355328) := Lib.hid (by
    have h1 := congrArg List.length HO.out
    have h2 := HL.out
    have g1 := congrArg List.length hO1
    simp only [List.length_append, List.length_cons, List.length_nil] at h1 h2 g1 ⊢
    omega)
  have HC1 : Hid (∀ w1 : World, Wb w0.heap.size b O0 w1 → Fr w0.heap.size b Wa w1 → _) := Lib.hid fun w1 hw1 hf1 => wquote_calls w0.heap.size b O0 a2 w1 (HTT.out.below (HB.out.trans hf1.below)) hw1 HLL1.out (hf1.size HB.out.size)
  rw [hO1] at HC1
  have HHO := Lib.hid (And.intro hO0 trivial)
  clear hO0 hO1 HHO
  have HWE := Lib.hid hWa
  have HK := Lib.hid hk
  clear hWa hk
  go_enter Tryd.func20, Tryd.ntmps20
  go_upto_region 2 with fail
  rw [HWE.out, HK.out]
  have c0 := nad_cells (HBX.out Wa (Fr.refl _ _ _)) 0 _ rfl
  have c1 := nad_cells (HBX.out Wa (Fr.refl _ _ _)) 1 _ rfl
  have c2 := nad_cells (HBX.out Wa (Fr.refl _ _ _)) 2 _ rfl
  have c3 := nad_cells (HBX.out Wa (Fr.refl _ _ _)) 3 _ rfl
  have c4 := nad_cells (HBX.out Wa (Fr.refl _ _ _)) 4 _ rfl
  have c5 := nad_cells (HBX.out Wa (Fr.refl _ _ _)) 5 _ rfl
  have c6 := nad_cells (HBX.out Wa (Fr.refl _ _ _)) 6 _ rfl
  have c7 := nad_cells (HBX.out Wa (Fr.refl _ _ _)) 7 _ rfl
  have c8 := nad_cells (HBX.out Wa (Fr.refl _ _ _)) 8 _ rfl
  have c9 := nad_cells (HBX.out Wa (Fr.refl _ _ _)) 9 _ rfl
  have c10 := nad_cells (HBX.out Wa (Fr.refl _ _ _)) 10 _ rfl
  go_wp2_with (first | (go_at_call 28; with_reducible refine (HC1.out _ HX0.out HY0.out).mono ?_; clear c0 c1 c2 c3 c5; rintro e w1 ⟨rfl, hw1, hf1⟩; have HX1 := Lib.hid hw1; have HY1 := Lib.hid (HY0.out.trans hf1); clear hw1 hf1))
  all_goals (go_end0; exact ⟨rfl, by rw [← HO.out]; exact HX1.out, HFA.out.trans HY1.out⟩)
set_option maxHeartbeats 2000000 in
set_option maxRecDepth 100000 in
theorem nuc_1_0 {α : Type} (K : World → α → List Value → Prop) (f : List α → List UInt8) (G : List α → Prop) (w0 : World) (b : Nat) (hT : LexTabs w0) (hF : LC K f G w0 b)
    (a2 a3 a4 : Int) (ps : List (List α)) (Ap : Option Addr) (cp : Nat) (Ar : Option Addr) (rs : List Int) (cr : Nat) (b1 b2 : Bool) (Au : Option Addr) (lu cu : Nat) (Ab : Option Addr) (lb cb : Nat) (out : List UInt8) (w : World) (hG : ∀ p ∈ ps, G p)
    (hp : rdS (fun l cs => ∃ v, cs = [v] ∧ rdS (K w0) 11 w0 v l) 1 w0 (.slice Ap ps.length cp) (ps : List (List α))) (hr : rdS (fun (n : Int) cs => cs = [.int .i64 n] ∧ inI n) 1 w0 (.slice Ar rs.length cr) rs)
    (hps : ps.length ≤ 2000000) (hw : Wb w0.heap.size b out w) (hb : Below w0.heap.size w0 w) (T : List UInt8) (hTX : T = bracesL f ps) (hlen : out.length + T.length ≤ 140737488355328) :
    Calls Tryd.prog 20 #[.pointer (some ⟨b, 0, none⟩), .agg #[.int .i64 1, .int .i64 0, .int .i64 a2, .int .i64 a3, .int .i64 a4, .slice Ap ps.length cp, .slice Ar rs.length cr, .bool b1, .bool b2, .slice Au lu cu, .slice Ab lb cb]] w fun e w' => e = .returned (.tuple #[]) ∧ Wb w0.heap.size b (out ++ T) w' ∧ Fr w0.heap.size b w w' := by
  obtain ⟨Wa, hWa⟩ : ∃ Wa, (w.alloc (Obj.cells #[.int .i64 1, .int .i64 0, .int .i64 a2, .int .i64 a3, .int .i64 a4, .slice Ap ps.length cp, .slice Ar rs.length cr, .bool b1, .bool b2, .slice Au lu cu, .slice Ab lb cb] 33)).alloc (Obj.cells #[.string ⟨#[]⟩, .string ⟨#[]⟩, .string ⟨#[]⟩, .string ⟨#[]⟩, .string ⟨#[111, 118, 101, 114, 108, 105, 110, 101]⟩, .string ⟨#[117, 110, 100, 101, 114, 108, 105, 110, 101]⟩, .string ⟨#[]⟩, .string ⟨#[]⟩, .string ⟨#[]⟩, .string ⟨#[118, 99, 101, 110, 116, 101, 114]⟩, .string ⟨#[]⟩, .string ⟨#[]⟩] 62) = Wa := ⟨_, rfl⟩
  have hbox := (heap_alloc_old (w.alloc (Obj.cells #[.int .i64 1, .int .i64 0, .int .i64 a2, .int .i64 a3, .int .i64 a4, .slice Ap ps.length cp, .slice Ar rs.length cr, .bool b1, .bool b2, .slice Au lu cu, .slice Ab lb cb] 33)) (Obj.cells #[.string ⟨#[]⟩, .string ⟨#[]⟩, .string ⟨#[]⟩, .string ⟨#[]⟩, .string ⟨#[111, 118, 101, 114, 108, 105, 110, 101]⟩, .string ⟨#[117, 110, 100, 101, 114, 108, 105, 110, 101]⟩, .string ⟨#[]⟩, .string ⟨#[]⟩, .string ⟨#[]⟩, .string ⟨#[118, 99, 101, 110, 116, 101, 114]⟩, .string ⟨#[]⟩, .string ⟨#[]⟩] 62) (show w.heap.size < _ by simp)).trans (heap_alloc_new w (Obj.cells #[.int .i64 1, .int .i64 0, .int .i64 a2, .int .i64 a3, .int .i64 a4, .slice Ap ps.length cp, .slice Ar rs.length cr, .bool b1, .bool b2, .slice Au lu cu, .slice Ab lb cb] 33))
  have hsim := heap_alloc_new (w.alloc (Obj.cells #[.int .i64 1, .int .i64 0, .int .i64 a2, .int .i64 a3, .int .i64 a4, .slice Ap ps.length cp, .slice Ar rs.length cr, .bool b1, .bool b2, .slice Au lu cu, .slice Ab lb cb] 33)) (Obj.cells #[.string ⟨#[]⟩, .string ⟨#[]⟩, .string ⟨#[]⟩, .string ⟨#[]⟩, .string ⟨#[111, 118, 101, 114, 108, 105, 110, 101]⟩, .string ⟨#[117, 110, 100, 101, 114, 108, 105, 110, 101]⟩, .string ⟨#[]⟩, .string ⟨#[]⟩, .string ⟨#[]⟩, .string ⟨#[118, 99, 101, 110, 116, 101, 114]⟩, .string ⟨#[]⟩, .string ⟨#[]⟩] 62)
  have hFA := ((Fr.refl w0.heap.size b w).alloc hb.size (Obj.cells #[.int .i64 1, .int .i64 0, .int .i64 a2, .int .i64 a3, .int .i64 a4, .slice Ap ps.length cp, .slice Ar rs.length cr, .bool b1, .bool b2, .slice Au lu cu, .slice Ab lb cb] 33)).alloc hb.size (Obj.cells #[.string ⟨#[]⟩, .string ⟨#[]⟩, .string ⟨#[]⟩, .string ⟨#[]⟩, .string ⟨#[111, 118, 101, 114, 108, 105, 110, 101]⟩, .string ⟨#[117, 110, 100, 101, 114, 108, 105, 110, 101]⟩, .string ⟨#[]⟩, .string ⟨#[]⟩, .string ⟨#[]⟩, .string ⟨#[118, 99, 101, 110, 116, 101, 114]⟩, .string ⟨#[]⟩, .string ⟨#[]⟩] 62)
  have hwa := (hw.alloc (Obj.cells #[.int .i64 1, .int .i64 0, .int .i64 a2, .int .i64 a3, .int .i64 a4, .slice Ap ps.length cp, .slice Ar rs.length cr, .bool b1, .bool b2, .slice Au lu cu, .slice Ab lb cb] 33)).alloc (Obj.cells #[.string ⟨#[]⟩, .string ⟨#[]⟩, .string ⟨#[]⟩, .string ⟨#[]⟩, .string ⟨#[111, 118, 101, 114, 108, 105, 110, 101]⟩, .string ⟨#[117, 110, 100, 101, 114, 108, 105, 110, 101]⟩, .string ⟨#[]⟩, .string ⟨#[]⟩, .string ⟨#[]⟩, .string ⟨#[118, 99, 101, 110, 116, 101, 114]⟩, .string ⟨#[]⟩, .string ⟨#[]⟩] 62)
  rw [hWa] at hbox hFA hwa hsim
  rw [show (w.alloc (Obj.cells #[.int .i64 1, .int .i64 0, .int .i64 a2, .int .i64 a3, .int .i64 a4, .slice Ap ps.length cp, .slice Ar rs.length cr, .bool b1, .bool b2, .slice Au lu cu, .slice Ab lb cb] 33)).heap.size = w.heap.size + 1 by simp] at hsim
  have HBX : Hid (∀ w2, Fr w0.heap.size b Wa w2 → _) := Lib.hid fun w2 hf => box_kept hbox hw hf
  have HFA := Lib.hid hFA
  have HX0 := Lib.hid hwa
  have HFF := Lib.hid hF
  have HGG := Lib.hid hG
  have HP := Lib.hid hp
  have HR := Lib.hid hr
  have HL := Lib.hid hlen
  have HTT := Lib.hid hT
  have HTX := Lib.hid hTX
  have HSM := Lib.hid hsim
  have HPS := Lib.hid hps
  have HB := Lib.hid (hb.trans hFA.below)
  have HY0 := Lib.hid (Fr.refl w0.heap.size b Wa)
  obtain ⟨k, hk⟩ : ∃ k, w.heap.size = k := ⟨_, rfl⟩
  rw [hk] at HBX HSM
  clear hF hG hp hr hb hlen hT hw hwa hFA hbox hTX hsim hps
  obtain ⟨O0, hO0⟩ : ∃ O0, out = O0 := ⟨_, rfl⟩
  rw [hO0] at HX0
  obtain ⟨O1, hO1⟩ : ∃ O1, O0 ++ bracesL f ps = O1 := ⟨_, rfl⟩
  have HO : Hid (O1 = out ++ T) := Lib.hid (by rw [← hO1, ← hO0, HTX.out]; try simp)
  have HLL1 : Hid (O0.length + (bracesL f ps : List UInt8).length ≤ 140737488355328) := Lib.hid (by
    have h1 := congrArg List.length HO.out
    have h2 := HL.out
    have g1 := congrArg List.length hO1
    simp only [List.length_append, List.length_cons, List.length_nil] at h1 h2 g1 ⊢
    omega)
  have HC1 : Hid (∀ w1 : World, Wb w0.heap.size b O0 w1 → Fr w0.heap.size b Wa w1 → _) := Lib.hid fun w1 hw1 hf1 => braces_calls K f G w0 b HFF.out ps Ap cp O0 w1 HGG.out (parts_hp HP.out (HB.out.trans hf1.below)) HPS.out hw1 (HB.out.trans hf1.below) HLL1.out
  rw [hO1] at HC1
  have HHO := Lib.hid (And.intro hO0 trivial)
  clear hO0 hO1 HHO
  have HWE := Lib.hid hWa
  have HK := Lib.hid hk
  clear hWa hk
  go_enter Tryd.func20, Tryd.ntmps20
  go_upto_region 2 with fail
  rw [HWE.out, HK.out]
  have c0 := nad_cells (HBX.out Wa (Fr.refl _ _ _)) 0 _ rfl
  have c1 := nad_cells (HBX.out Wa (Fr.refl _ _ _)) 1 _ rfl
  have c2 := nad_cells (HBX.out Wa (Fr.refl _ _ _)) 2 _ rfl
  have c3 := nad_cells (HBX.out Wa (Fr.refl _ _ _)) 3 _ rfl
  have c4 := nad_cells (HBX.out Wa (Fr.refl _ _ _)) 4 _ rfl
  have c5 := nad_cells (HBX.out Wa (Fr.refl _ _ _)) 5 _ rfl
  have c6 := nad_cells (HBX.out Wa (Fr.refl _ _ _)) 6 _ rfl
  have c7 := nad_cells (HBX.out Wa (Fr.refl _ _ _)) 7 _ rfl
  have c8 := nad_cells (HBX.out Wa (Fr.refl _ _ _)) 8 _ rfl
  have c9 := nad_cells (HBX.out Wa (Fr.refl _ _ _)) 9 _ rfl
  have c10 := nad_cells (HBX.out Wa (Fr.refl _ _ _)) 10 _ rfl
  go_wp2_with (first | (go_at_call 22; with_reducible refine (HC1.out _ HX0.out HY0.out).mono ?_; clear c0 c1 c2 c3 c5; rintro e w1 ⟨rfl, hw1, hf1⟩; have HX1 := Lib.hid hw1; have HY1 := Lib.hid (HY0.out.trans hf1); clear hw1 hf1))
  all_goals (go_end0; exact ⟨rfl, by rw [← HO.out]; exact HX1.out, HFA.out.trans HY1.out⟩)
set_option maxHeartbeats 2000000 in
set_option maxRecDepth 100000 in
theorem nuc_1_1 {α : Type} (K : World → α → List Value → Prop) (f : List α → List UInt8) (G : List α → Prop) (w0 : World) (b : Nat) (hT : LexTabs w0) (hF : LC K f G w0 b)
    (a2 a3 a4 : Int) (ps : List (List α)) (Ap : Option Addr) (cp : Nat) (Ar : Option Addr) (rs : List Int) (cr : Nat) (b1 b2 : Bool) (Au : Option Addr) (lu cu : Nat) (Ab : Option Addr) (lb cb : Nat) (out : List UInt8) (w : World) (hG : ∀ p ∈ ps, G p)
    (hp : rdS (fun l cs => ∃ v, cs = [v] ∧ rdS (K w0) 11 w0 v l) 1 w0 (.slice Ap ps.length cp) (ps : List (List α))) (hr : rdS (fun (n : Int) cs => cs = [.int .i64 n] ∧ inI n) 1 w0 (.slice Ar rs.length cr) rs)
    (hps : ps.length ≤ 2000000) (hw : Wb w0.heap.size b out w) (hb : Below w0.heap.size w0 w) (T : List UInt8) (hTX : T = (92 :: [109, 97, 116, 104, 111, 112]) ++ bracesL f ps) (hlen : out.length + T.length ≤ 140737488355328) :
    Calls Tryd.prog 20 #[.pointer (some ⟨b, 0, none⟩), .agg #[.int .i64 1, .int .i64 1, .int .i64 a2, .int .i64 a3, .int .i64 a4, .slice Ap ps.length cp, .slice Ar rs.length cr, .bool b1, .bool b2, .slice Au lu cu, .slice Ab lb cb]] w fun e w' => e = .returned (.tuple #[]) ∧ Wb w0.heap.size b (out ++ T) w' ∧ Fr w0.heap.size b w w' := by
  obtain ⟨Wa, hWa⟩ : ∃ Wa, (w.alloc (Obj.cells #[.int .i64 1, .int .i64 1, .int .i64 a2, .int .i64 a3, .int .i64 a4, .slice Ap ps.length cp, .slice Ar rs.length cr, .bool b1, .bool b2, .slice Au lu cu, .slice Ab lb cb] 33)).alloc (Obj.cells #[.string ⟨#[]⟩, .string ⟨#[]⟩, .string ⟨#[]⟩, .string ⟨#[]⟩, .string ⟨#[111, 118, 101, 114, 108, 105, 110, 101]⟩, .string ⟨#[117, 110, 100, 101, 114, 108, 105, 110, 101]⟩, .string ⟨#[]⟩, .string ⟨#[]⟩, .string ⟨#[]⟩, .string ⟨#[118, 99, 101, 110, 116, 101, 114]⟩, .string ⟨#[]⟩, .string ⟨#[]⟩] 62) = Wa := ⟨_, rfl⟩
  have hbox := (heap_alloc_old (w.alloc (Obj.cells #[.int .i64 1, .int .i64 1, .int .i64 a2, .int .i64 a3, .int .i64 a4, .slice Ap ps.length cp, .slice Ar rs.length cr, .bool b1, .bool b2, .slice Au lu cu, .slice Ab lb cb] 33)) (Obj.cells #[.string ⟨#[]⟩, .string ⟨#[]⟩, .string ⟨#[]⟩, .string ⟨#[]⟩, .string ⟨#[111, 118, 101, 114, 108, 105, 110, 101]⟩, .string ⟨#[117, 110, 100, 101, 114, 108, 105, 110, 101]⟩, .string ⟨#[]⟩, .string ⟨#[]⟩, .string ⟨#[]⟩, .string ⟨#[118, 99, 101, 110, 116, 101, 114]⟩, .string ⟨#[]⟩, .string ⟨#[]⟩] 62) (show w.heap.size < _ by simp)).trans (heap_alloc_new w (Obj.cells #[.int .i64 1, .int .i64 1, .int .i64 a2, .int .i64 a3, .int .i64 a4, .slice Ap ps.length cp, .slice Ar rs.length cr, .bool b1, .bool b2, .slice Au lu cu, .slice Ab lb cb] 33))
  have hsim := heap_alloc_new (w.alloc (Obj.cells #[.int .i64 1, .int .i64 1, .int .i64 a2, .int .i64 a3, .int .i64 a4, .slice Ap ps.length cp, .slice Ar rs.length cr, .bool b1, .bool b2, .slice Au lu cu, .slice Ab lb cb] 33)) (Obj.cells #[.string ⟨#[]⟩, .string ⟨#[]⟩, .string ⟨#[]⟩, .string ⟨#[]⟩, .string ⟨#[111, 118, 101, 114, 108, 105, 110, 101]⟩, .string ⟨#[117, 110, 100, 101, 114, 108, 105, 110, 101]⟩, .string ⟨#[]⟩, .string ⟨#[]⟩, .string ⟨#[]⟩, .string ⟨#[118, 99, 101, 110, 116, 101, 114]⟩, .string ⟨#[]⟩, .string ⟨#[]⟩] 62)
  have hFA := ((Fr.refl w0.heap.size b w).alloc hb.size (Obj.cells #[.int .i64 1, .int .i64 1, .int .i64 a2, .int .i64 a3, .int .i64 a4, .slice Ap ps.length cp, .slice Ar rs.length cr, .bool b1, .bool b2, .slice Au lu cu, .slice Ab lb cb] 33)).alloc hb.size (Obj.cells #[.string ⟨#[]⟩, .string ⟨#[]⟩, .string ⟨#[]⟩, .string ⟨#[]⟩, .string ⟨#[111, 118, 101, 114, 108, 105, 110, 101]⟩, .string ⟨#[117, 110, 100, 101, 114, 108, 105, 110, 101]⟩, .string ⟨#[]⟩, .string ⟨#[]⟩, .string ⟨#[]⟩, .string ⟨#[118, 99, 101, 110, 116, 101, 114]⟩, .string ⟨#[]⟩, .string ⟨#[]⟩] 62)
  have hwa := (hw.alloc (Obj.cells #[.int .i64 1, .int .i64 1, .int .i64 a2, .int .i64 a3, .int .i64 a4, .slice Ap ps.length cp, .slice Ar rs.length cr, .bool b1, .bool b2, .slice Au lu cu, .slice Ab lb cb] 33)).alloc (Obj.cells #[.string ⟨#[]⟩, .string ⟨#[]⟩, .string ⟨#[]⟩, .string ⟨#[]⟩, .string ⟨#[111, 118, 101, 114, 108, 105, 110, 101]⟩, .string ⟨#[117, 110, 100, 101, 114, 108, 105, 110, 101]⟩, .string ⟨#[]⟩, .string ⟨#[]⟩, .string ⟨#[]⟩, .string ⟨#[118, 99, 101, 110, 116, 101, 114]⟩, .string ⟨#[]⟩, .string ⟨#[]⟩] 62)
  rw [hWa] at hbox hFA hwa hsim
  rw [show (w.alloc (Obj.cells #[.int .i64 1, .int .i64 1, .int .i64 a2, .int .i64 a3, .int .i64 a4, .slice Ap ps.length cp, .slice Ar rs.length cr, .bool b1, .bool b2, .slice Au lu cu, .slice Ab lb cb] 33)).heap.size = w.heap.size + 1 by simp] at hsim
  have HBX : Hid (∀ w2, Fr w0.heap.size b Wa w2 → _) := Lib.hid fun w2 hf => box_kept hbox hw hf
  have HFA := Lib.hid hFA
  have HX0 := Lib.hid hwa
  have HFF := Lib.hid hF
  have HGG := Lib.hid hG
  have HP := Lib.hid hp
  have HR := Lib.hid hr
  have HL := Lib.hid hlen
  have HTT := Lib.hid hT
  have HTX := Lib.hid hTX
  have HSM := Lib.hid hsim
  have HPS := Lib.hid hps
  have HB := Lib.hid (hb.trans hFA.below)
  have HY0 := Lib.hid (Fr.refl w0.heap.size b Wa)
  obtain ⟨k, hk⟩ : ∃ k, w.heap.size = k := ⟨_, rfl⟩
  rw [hk] at HBX HSM
  clear hF hG hp hr hb hlen hT hw hwa hFA hbox hTX hsim hps
  obtain ⟨O0, hO0⟩ : ∃ O0, out = O0 := ⟨_, rfl⟩
  rw [hO0] at HX0
  obtain ⟨O1, hO1⟩ : ∃ O1, O0 ++ (92 :: [109, 97, 116, 104, 111, 112]) = O1 := ⟨_, rfl⟩
  obtain ⟨O2, hO2⟩ : ∃ O2, O1 ++ bracesL f ps = O2 := ⟨_, rfl⟩
  have HO : Hid (O2 = out ++ T) := Lib.hid (by rw [← hO2, ← hO1, ← hO0, HTX.out]; try simp)
  have HLL1 : Hid (O0.length + ((92 :: [109, 97, 116, 104, 111, 112]) : List UInt8).length ≤ 140737488355328) := Lib.hid (by
    have h1 := congrArg List.length HO.out
    have h2 := HL.out
    have g1 := congrArg List.length hO1
    have g2 := congrArg List.length hO2
    simp only [List.length_append, List.length_cons, List.length_nil] at h1 h2 g1 g2 ⊢
    omega)
  have HLL2 : Hid (O1.length + (bracesL f ps : List UInt8).length ≤ 140737488355328) := Lib.hid (by
    have h1 := congrArg List.length HO.out
    have h2 := HL.out
    have g1 := congrArg List.length hO1
    have g2 := congrArg List.length hO2
    simp only [List.length_append, List.length_cons, List.length_nil] at h1 h2 g1 g2 ⊢
    omega)
  have HC1 : Hid (∀ w1 : World, Wb w0.heap.size b O0 w1 → Fr w0.heap.size b Wa w1 → _) := Lib.hid fun w1 hw1 hf1 => sw_word w0.heap.size b O0 ⟨#[109, 97, 116, 104, 111, 112]⟩ [109, 97, 116, 104, 111, 112] rfl w1 hw1 (by have := HLL1.out; simp only [List.length_append, List.length_cons, List.length_nil] at this ⊢; omega) (hf1.size HB.out.size)
  rw [hO1] at HC1
  have HC2 : Hid (∀ w1 : World, Wb w0.heap.size b O1 w1 → Fr w0.heap.size b Wa w1 → _) := Lib.hid fun w1 hw1 hf1 => braces_calls K f G w0 b HFF.out ps Ap cp O1 w1 HGG.out (parts_hp HP.out (HB.out.trans hf1.below)) HPS.out hw1 (HB.out.trans hf1.below) HLL2.out
  rw [hO2] at HC2
  have HHO := Lib.hid (And.intro hO0 trivial)
  clear hO0 hO1 hO2 HHO
  have HWE := Lib.hid hWa
  have HK := Lib.hid hk
  clear hWa hk
  have hix := (fun w : World => (show (Instr.index 64 (.agg #[.string ⟨#[]⟩, .string ⟨#[109, 97, 116, 104, 111, 112]⟩, .string ⟨#[109, 97, 116, 104, 98, 105, 110]⟩, .string ⟨#[109, 97, 116, 104, 114, 101, 108]⟩, .string ⟨#[109, 97, 116, 104, 111, 112, 101, 110]⟩, .string ⟨#[109, 97, 116, 104, 99, 108, 111, 115, 101]⟩, .string ⟨#[109, 97, 116, 104, 112, 117, 110, 99, 116]⟩, .string ⟨#[109, 97, 116, 104, 105, 110, 110, 101, 114]⟩]) (.int .i64 1)).run Tryd.prog w = .ok (.string ⟨#[109, 97, 116, 104, 111, 112]⟩) w from idx_run _ 9 8 _ 1 _ w Tryd.underlying64 (Tryd.sizeOf9 w) (by decide) rfl (Tryd.isAgg9 w)))
  go_enter Tryd.func20, Tryd.ntmps20
  go_upto_region 2 with fail
  rw [HWE.out, HK.out]
  have c0 := nad_cells (HBX.out Wa (Fr.refl _ _ _)) 0 _ rfl
  have c1 := nad_cells (HBX.out Wa (Fr.refl _ _ _)) 1 _ rfl
  have c2 := nad_cells (HBX.out Wa (Fr.refl _ _ _)) 2 _ rfl
  have c3 := nad_cells (HBX.out Wa (Fr.refl _ _ _)) 3 _ rfl
  have c4 := nad_cells (HBX.out Wa (Fr.refl _ _ _)) 4 _ rfl
  have c5 := nad_cells (HBX.out Wa (Fr.refl _ _ _)) 5 _ rfl
  have c6 := nad_cells (HBX.out Wa (Fr.refl _ _ _)) 6 _ rfl
  have c7 := nad_cells (HBX.out Wa (Fr.refl _ _ _)) 7 _ rfl
  have c8 := nad_cells (HBX.out Wa (Fr.refl _ _ _)) 8 _ rfl
  have c9 := nad_cells (HBX.out Wa (Fr.refl _ _ _)) 9 _ rfl
  have c10 := nad_cells (HBX.out Wa (Fr.refl _ _ _)) 10 _ rfl
  go_wp2_with (first | (go_at_call 19; with_reducible refine (HC1.out _ HX0.out HY0.out).mono ?_; clear c0 c1 c2 c3 c5; rintro e w1 ⟨rfl, hw1, hf1⟩; have HX1 := Lib.hid hw1; have HY1 := Lib.hid (HY0.out.trans hf1); have c0 := nad_cells (HBX.out w1 HY1.out) 0 _ rfl; have c1 := nad_cells (HBX.out w1 HY1.out) 1 _ rfl; have c2 := nad_cells (HBX.out w1 HY1.out) 2 _ rfl; have c3 := nad_cells (HBX.out w1 HY1.out) 3 _ rfl; have c5 := nad_cells (HBX.out w1 HY1.out) 5 _ rfl; clear hw1 hf1) | (go_at_call 22; with_reducible refine (HC2.out _ HX1.out HY1.out).mono ?_; clear c0 c1 c2 c3 c5; rintro e w1 ⟨rfl, hw1, hf1⟩; have HX2 := Lib.hid hw1; have HY2 := Lib.hid (HY1.out.trans hf1); clear hw1 hf1))
  all_goals (go_end0; exact ⟨rfl, by rw [← HO.out]; exact HX2.out, HFA.out.trans HY2.out⟩)
set_option maxHeartbeats 2000000 in
set_option maxRecDepth 100000 in
theorem nuc_1_2 {α : Type} (K : World → α → List Value → Prop) (f : List α → List UInt8) (G : List α → Prop) (w0 : World) (b : Nat) (hT : LexTabs w0) (hF : LC K f G w0 b)
    (a2 a3 a4 : Int) (ps : List (List α)) (Ap : Option Addr) (cp : Nat) (Ar : Option Addr) (rs : List Int) (cr : Nat) (b1 b2 : Bool) (Au : Option Addr) (lu cu : Nat) (Ab : Option Addr) (lb cb : Nat) (out : List UInt8) (w : World) (hG : ∀ p ∈ ps, G p)
    (hp : rdS (fun l cs => ∃ v, cs = [v] ∧ rdS (K w0) 11 w0 v l) 1 w0 (.slice Ap ps.length cp) (ps : List (List α))) (hr : rdS (fun (n : Int) cs => cs = [.int .i64 n] ∧ inI n) 1 w0 (.slice Ar rs.length cr) rs)
    (hps : ps.length ≤ 2000000) (hw : Wb w0.heap.size b out w) (hb : Below w0.heap.size w0 w) (T : List UInt8) (hTX : T = (92 :: [109, 97, 116, 104, 98, 105, 110]) ++ bracesL f ps) (hlen : out.length + T.length ≤ 140737488355328) :
    Calls Tryd.prog 20 #[.pointer (some ⟨b, 0, none⟩), .agg #[.int .i64 1, .int .i64 2, .int .i64 a2, .int .i64 a3, .int .i64 a4, .slice Ap ps.length cp, .slice Ar rs.length cr, .bool b1, .bool b2, .slice Au lu cu, .slice Ab lb cb]] w fun e w' => e = .returned (.tuple #[]) ∧ Wb w0.heap.size b (out ++ T) w' ∧ Fr w0.heap.size b w w' := by
  obtain ⟨Wa, hWa⟩ : ∃ Wa, (w.alloc (Obj.cells #[.int .i64 1, .int .i64 2, .int .i64 a2, .int .i64 a3, .int .i64 a4, .slice Ap ps.length cp, .slice Ar rs.length cr, .bool b1, .bool b2, .slice Au lu cu, .slice Ab lb cb] 33)).alloc (Obj.cells #[.string ⟨#[]⟩, .string ⟨#[]⟩, .string ⟨#[]⟩, .string ⟨#[]⟩, .string ⟨#[111, 118, 101, 114, 108, 105, 110, 101]⟩, .string ⟨#[117, 110, 100, 101, 114, 108, 105, 110, 101]⟩, .string ⟨#[]⟩, .string ⟨#[]⟩, .string ⟨#[]⟩, .string ⟨#[118, 99, 101, 110, 116, 101, 114]⟩, .string ⟨#[]⟩, .string ⟨#[]⟩] 62) = Wa := ⟨_, rfl⟩
  have hbox := (heap_alloc_old (w.alloc (Obj.cells #[.int .i64 1, .int .i64 2, .int .i64 a2, .int .i64 a3, .int .i64 a4, .slice Ap ps.length cp, .slice Ar rs.length cr, .bool b1, .bool b2, .slice Au lu cu, .slice Ab lb cb] 33)) (Obj.cells #[.string ⟨#[]⟩, .string ⟨#[]⟩, .string ⟨#[]⟩, .string ⟨#[]⟩, .string ⟨#[111, 118, 101, 114, 108, 105, 110, 101]⟩, .string ⟨#[117, 110, 100, 101, 114, 108, 105, 110, 101]⟩, .string ⟨#[]⟩, .string ⟨#[]⟩, .string ⟨#[]⟩, .string ⟨#[118, 99, 101, 110, 116, 101, 114]⟩, .string ⟨#[]⟩, .string ⟨#[]⟩] 62) (show w.heap.size < _ by simp)).trans (heap_alloc_new w (Obj.cells #[.int .i64 1, .int .i64 2, .int .i64 a2, .int .i64 a3, .int .i64 a4, .slice Ap ps.length cp, .slice Ar rs.length cr, .bool b1, .bool b2, .slice Au lu cu, .slice Ab lb cb] 33))
  have hsim := heap_alloc_new (w.alloc (Obj.cells #[.int .i64 1, .int .i64 2, .int .i64 a2, .int .i64 a3, .int .i64 a4, .slice Ap ps.length cp, .slice Ar rs.length cr, .bool b1, .bool b2, .slice Au lu cu, .slice Ab lb cb] 33)) (Obj.cells #[.string ⟨#[]⟩, .string ⟨#[]⟩, .string ⟨#[]⟩, .string ⟨#[]⟩, .string ⟨#[111, 118, 101, 114, 108, 105, 110, 101]⟩, .string ⟨#[117, 110, 100, 101, 114, 108, 105, 110, 101]⟩, .string ⟨#[]⟩, .string ⟨#[]⟩, .string ⟨#[]⟩, .string ⟨#[118, 99, 101, 110, 116, 101, 114]⟩, .string ⟨#[]⟩, .string ⟨#[]⟩] 62)
  have hFA := ((Fr.refl w0.heap.size b w).alloc hb.size (Obj.cells #[.int .i64 1, .int .i64 2, .int .i64 a2, .int .i64 a3, .int .i64 a4, .slice Ap ps.length cp, .slice Ar rs.length cr, .bool b1, .bool b2, .slice Au lu cu, .slice Ab lb cb] 33)).alloc hb.size (Obj.cells #[.string ⟨#[]⟩, .string ⟨#[]⟩, .string ⟨#[]⟩, .string ⟨#[]⟩, .string ⟨#[111, 118, 101, 114, 108, 105, 110, 101]⟩, .string ⟨#[117, 110, 100, 101, 114, 108, 105, 110, 101]⟩, .string ⟨#[]⟩, .string ⟨#[]⟩, .string ⟨#[]⟩, .string ⟨#[118, 99, 101, 110, 116, 101, 114]⟩, .string ⟨#[]⟩, .string ⟨#[]⟩] 62)
  have hwa := (hw.alloc (Obj.cells #[.int .i64 1, .int .i64 2, .int .i64 a2, .int .i64 a3, .int .i64 a4, .slice Ap ps.length cp, .slice Ar rs.length cr, .bool b1, .bool b2, .slice Au lu cu, .slice Ab lb cb] 33)).alloc (Obj.cells #[.string ⟨#[]⟩, .string ⟨#[]⟩, .string ⟨#[]⟩, .string ⟨#[]⟩, .string ⟨#[111, 118, 101, 114, 108, 105, 110, 101]⟩, .string ⟨#[117, 110, 100, 101, 114, 108, 105, 110, 101]⟩, .string ⟨#[]⟩, .string ⟨#[]⟩, .string ⟨#[]⟩, .string ⟨#[118, 99, 101, 110, 116, 101, 114]⟩, .string ⟨#[]⟩, .string ⟨#[]⟩] 62)
  rw [hWa] at hbox hFA hwa hsim
  rw [show (w.alloc (Obj.cells #[.int .i64 1, .int .i64 2, .int .i64 a2, .int .i64 a3, .int .i64 a4, .slice Ap ps.length cp, .slice Ar rs.length cr, .bool b1, .bool b2, .slice Au lu cu, .slice Ab lb cb] 33)).heap.size = w.heap.size + 1 by simp] at hsim
  have HBX : Hid (∀ w2, Fr w0.heap.size b Wa w2 → _) := Lib.hid fun w2 hf => box_kept hbox hw hf
  have HFA := Lib.hid hFA
  have HX0 := Lib.hid hwa
  have HFF := Lib.hid hF
  have HGG := Lib.hid hG
  have HP := Lib.hid hp
  have HR := Lib.hid hr
  have HL := Lib.hid hlen
  have HTT := Lib.hid hT
  have HTX := Lib.hid hTX
  have HSM := Lib.hid hsim
  have HPS := Lib.hid hps
  have HB := Lib.hid (hb.trans hFA.below)
  have HY0 := Lib.hid (Fr.refl w0.heap.size b Wa)
  obtain ⟨k, hk⟩ : ∃ k, w.heap.size = k := ⟨_, rfl⟩
  rw [hk] at HBX HSM
  clear hF hG hp hr hb hlen hT hw hwa hFA hbox hTX hsim hps
  obtain ⟨O0, hO0⟩ : ∃ O0, out = O0 := ⟨_, rfl⟩
  rw [hO0] at HX0
  obtain ⟨O1, hO1⟩ : ∃ O1, O0 ++ (92 :: [109, 97, 116, 104, 98, 105, 110]) = O1 := ⟨_, rfl⟩
  obtain ⟨O2, hO2⟩ : ∃ O2, O1 ++ bracesL f ps = O2 := ⟨_, rfl⟩
  have HO : Hid (O2 = out ++ T) := Lib.hid (by rw [← hO2, ← hO1, ← hO0, HTX.out]; try simp)
  have HLL1 : Hid (O0.length + ((92 :: [109, 97, 116, 104, 98, 105, 110]) : List UInt8).length ≤ 140737488355328) := Lib.hid (by
    have h1 := congrArg List.length HO.out
    have h2 := HL.out
    have g1 := congrArg List.length hO1
    have g2 := congrArg List.length hO2
    simp only [List.length_append, List.length_cons, List.length_nil] at h1 h2 g1 g2 ⊢
    omega)
  have HLL2 : Hid (O1.length + (bracesL f ps : List UInt8).length ≤ 140737488355328) := Lib.hid (by
    have h1 := congrArg List.length HO.out
    have h2 := HL.out
    have g1 := congrArg List.length hO1
    have g2 := congrArg List.length hO2
    simp only [List.length_append, List.length_cons, List.length_nil] at h1 h2 g1 g2 ⊢
    omega)
  have HC1 : Hid (∀ w1 : World, Wb w0.heap.size b O0 w1 → Fr w0.heap.size b Wa w1 → _) := Lib.hid fun w1 hw1 hf1 => sw_word w0.heap.size b O0 ⟨#[109, 97, 116, 104, 98, 105, 110]⟩ [109, 97, 116, 104, 98, 105, 110] rfl w1 hw1 (by have := HLL1.out; simp only [List.length_append, List.length_cons, List.length_nil] at this ⊢; omega) (hf1.size HB.out.size)
  rw [hO1] at HC1
  have HC2 : Hid (∀ w1 : World, Wb w0.heap.size b O1 w1 → Fr w0.heap.size b Wa w1 → _) := Lib.hid fun w1 hw1 hf1 => braces_calls K f G w0 b HFF.out ps Ap cp O1 w1 HGG.out (parts_hp HP.out (HB.out.trans hf1.below)) HPS.out hw1 (HB.out.trans hf1.below) HLL2.out
  rw [hO2] at HC2
  have HHO := Lib.hid (And.intro hO0 trivial)
  clear hO0 hO1 hO2 HHO
  have HWE := Lib.hid hWa
  have HK := Lib.hid hk
  clear hWa hk
  have hix := (fun w : World => (show (Instr.index 64 (.agg #[.string ⟨#[]⟩, .string ⟨#[109, 97, 116, 104, 111, 112]⟩, .string ⟨#[109, 97, 116, 104, 98, 105, 110]⟩, .string ⟨#[109, 97, 116, 104, 114, 101, 108]⟩, .string ⟨#[109, 97, 116, 104, 111, 112, 101, 110]⟩, .string ⟨#[109, 97, 116, 104, 99, 108, 111, 115, 101]⟩, .string ⟨#[109, 97, 116, 104, 112, 117, 110, 99, 116]⟩, .string ⟨#[109, 97, 116, 104, 105, 110, 110, 101, 114]⟩]) (.int .i64 2)).run Tryd.prog w = .ok (.string ⟨#[109, 97, 116, 104, 98, 105, 110]⟩) w from idx_run _ 9 8 _ 2 _ w Tryd.underlying64 (Tryd.sizeOf9 w) (by decide) rfl (Tryd.isAgg9 w)))
  go_enter Tryd.func20, Tryd.ntmps20
  go_upto_region 2 with fail
  rw [HWE.out, HK.out]
  have c0 := nad_cells (HBX.out Wa (Fr.refl _ _ _)) 0 _ rfl
  have c1 := nad_cells (HBX.out Wa (Fr.refl _ _ _)) 1 _ rfl
  have c2 := nad_cells (HBX.out Wa (Fr.refl _ _ _)) 2 _ rfl
  have c3 := nad_cells (HBX.out Wa (Fr.refl _ _ _)) 3 _ rfl
  have c4 := nad_cells (HBX.out Wa (Fr.refl _ _ _)) 4 _ rfl
  have c5 := nad_cells (HBX.out Wa (Fr.refl _ _ _)) 5 _ rfl
  have c6 := nad_cells (HBX.out Wa (Fr.refl _ _ _)) 6 _ rfl
  have c7 := nad_cells (HBX.out Wa (Fr.refl _ _ _)) 7 _ rfl
  have c8 := nad_cells (HBX.out Wa (Fr.refl _ _ _)) 8 _ rfl
  have c9 := nad_cells (HBX.out Wa (Fr.refl _ _ _)) 9 _ rfl
  have c10 := nad_cells (HBX.out Wa (Fr.refl _ _ _)) 10 _ rfl
  go_wp2_with (first | (go_at_call 19; with_reducible refine (HC1.out _ HX0.out HY0.out).mono ?_; clear c0 c1 c2 c3 c5; rintro e w1 ⟨rfl, hw1, hf1⟩; have HX1 := Lib.hid hw1; have HY1 := Lib.hid (HY0.out.trans hf1); have c0 := nad_cells (HBX.out w1 HY1.out) 0 _ rfl; have c1 := nad_cells (HBX.out w1 HY1.out) 1 _ rfl; have c2 := nad_cells (HBX.out w1 HY1.out) 2 _ rfl; have c3 := nad_cells (HBX.out w1 HY1.out) 3 _ rfl; have c5 := nad_cells (HBX.out w1 HY1.out) 5 _ rfl; clear hw1 hf1) | (go_at_call 22; with_reducible refine (HC2.out _ HX1.out HY1.out).mono ?_; clear c0 c1 c2 c3 c5; rintro e w1 ⟨rfl, hw1, hf1⟩; have HX2 := Lib.hid hw1; have HY2 := Lib.hid (HY1.out.trans hf1); clear hw1 hf1))
  all_goals (go_end0; exact ⟨rfl, by rw [← HO.out]; exact HX2.out, HFA.out.trans HY2.out⟩)
set_option maxHeartbeats 2000000 in
set_option maxRecDepth 100000 in
theorem nuc_1_3 {α : Type} (K : World → α → List Value → Prop) (f : List α → List UInt8) (G : List α → Prop) (w0 : World) (b : Nat) (hT : LexTabs w0) (hF : LC K f G w0 b)
    (a2 a3 a4 : Int) (ps : List (List α)) (Ap : Option Addr) (cp : Nat) (Ar : Option Addr) (rs : List Int) (cr : Nat) (b1 b2 : Bool) (Au : Option Addr) (lu cu : Nat) (Ab : Option Addr) (lb cb : Nat) (out : List UInt8) (w : World) (hG : ∀ p ∈ ps, G p)
    (hp : rdS (fun l cs => ∃ v, cs = [v] ∧ rdS (K w0) 11 w0 v l) 1 w0 (.slice Ap ps.length cp) (ps : List (List α))) (hr : rdS (fun (n : Int) cs => cs = [.int .i64 n] ∧ inI n) 1 w0 (.slice Ar rs.length cr) rs)
    (hps : ps.length ≤ 2000000) (hw : Wb w0.heap.size b out w) (hb : Below w0.heap.size w0 w) (T : List UInt8) (hTX : T = (92 :: [109, 97, 116, 104, 114, 101, 108]) ++ bracesL f ps) (hlen : out.length + T.length ≤ 140737488355328) :
    Calls Tryd.prog 20 #[.pointer (some ⟨b, 0, none⟩), .agg #[.int .i64 1, .int .i64 3, .int .i64 a2, .int .i64 a3, .int .i64 a4, .slice Ap ps.length cp, .slice Ar rs.length cr, .bool b1, .bool b2, .slice Au lu cu, .slice Ab lb cb]] w fun e w' => e = .returned (.tuple #[]) ∧ Wb w0.heap.size b (out ++ T) w' ∧ Fr w0.heap.size b w w' := by
  obtain ⟨Wa, hWa⟩ : ∃ Wa, (w.alloc (Obj.cells #[.int .i64 1, .int .i64 3, .int .i64 a2, .int .i64 a3, .int .i64 a4, .slice Ap ps.length cp, .slice Ar rs.length cr, .bool b1, .bool b2, .slice Au lu cu, .slice Ab lb cb] 33)).alloc (Obj.cells #[.string ⟨#[]⟩, .string ⟨#[]⟩, .string ⟨#[]⟩, .string ⟨#[]⟩, .string ⟨#[111, 118, 101, 114, 108, 105, 110, 101]⟩, .string ⟨#[117, 110, 100, 101, 114, 108, 105, 110, 101]⟩, .string ⟨#[]⟩, .string ⟨#[]⟩, .string ⟨#[]⟩, .string ⟨#[118, 99, 101, 110, 116, 101, 114]⟩, .string ⟨#[]⟩, .string ⟨#[]⟩] 62) = Wa := ⟨_, rfl⟩
  have hbox := (heap_alloc_old (w.alloc (Obj.cells #[.int .i64 1, .int .i64 3, .int .i64 a2, .int .i64 a3, .int .i64 a4, .slice Ap ps.length cp, .slice Ar rs.length cr, .bool b1, .bool b2, .slice Au lu cu, .slice Ab lb cb] 33)) (Obj.cells #[.string ⟨#[]⟩, .string ⟨#[]⟩, .string ⟨#[]⟩, .string ⟨#[]⟩, .string ⟨#[111, 118, 101, 114, 108, 105, 110, 101]⟩, .string ⟨#[117, 110, 100, 101, 114, 108, 105, 110, 101]⟩, .string ⟨#[]⟩, .string ⟨#[]⟩, .string ⟨#[]⟩, .string ⟨#[118, 99, 101, 110, 116, 101, 114]⟩, .string ⟨#[]⟩, .string ⟨#[]⟩] 62) (show w.heap.size < _ by simp)).trans (heap_alloc_new w (Obj.cells #[.int .i64 1, .int .i64 3, .int .i64 a2, .int .i64 a3, .int .i64 a4, .slice Ap ps.length cp, .slice Ar rs.length cr, .bool b1, .bool b2, .slice Au lu cu, .slice Ab lb cb] 33))
  have hsim := heap_alloc_new (w.alloc (Obj.cells #[.int .i64 1, .int .i64 3, .int .i64 a2, .int .i64 a3, .int .i64 a4, .slice Ap ps.length cp, .slice Ar rs.length cr, .bool b1, .bool b2, .slice Au lu cu, .slice Ab lb cb] 33)) (Obj.cells #[.string ⟨#[]⟩, .string ⟨#[]⟩, .string ⟨#[]⟩, .string ⟨#[]⟩, .string ⟨#[111, 118, 101, 114, 108, 105, 110, 101]⟩, .string ⟨#[117, 110, 100, 101, 114, 108, 105, 110, 101]⟩, .string ⟨#[]⟩, .string ⟨#[]⟩, .string ⟨#[]⟩, .string ⟨#[118, 99, 101, 110, 116, 101, 114]⟩, .string ⟨#[]⟩, .string ⟨#[]⟩] 62)
  have hFA := ((Fr.refl w0.heap.size b w).alloc hb.size (Obj.cells #[.int .i64 1, .int .i64 3, .int .i64 a2, .int .i64 a3, .int .i64 a4, .slice Ap ps.length cp, .slice Ar rs.length cr, .bool b1, .bool b2, .slice Au lu cu, .slice Ab lb cb] 33)).alloc hb.size (Obj.cells #[.string ⟨#[]⟩, .string ⟨#[]⟩, .string ⟨#[]⟩, .string ⟨#[]⟩, .string ⟨#[111, 118, 101, 114, 108, 105, 110, 101]⟩, .string ⟨#[117, 110, 100, 101, 114, 108, 105, 110, 101]⟩, .string ⟨#[]⟩, .string ⟨#[]⟩, .string ⟨#[]⟩, .string ⟨#[118, 99, 101, 110, 116, 101, 114]⟩, .string ⟨#[]⟩, .string ⟨#[]⟩] 62)
  have hwa := (hw.alloc (Obj.cells #[.int .i64 1, .int .i64 3, .int .i64 a2, .int .i64 a3, .int .i64 a4, .slice Ap ps.length cp, .slice Ar rs.length cr, .bool b1, .bool b2, .slice Au lu cu, .slice Ab lb cb] 33)).alloc (Obj.cells #[.string ⟨#[]⟩, .string ⟨#[]⟩, .string ⟨#[]⟩, .string ⟨#[]⟩, .string ⟨#[111, 118, 101, 114, 108, 105, 110, 101]⟩, .string ⟨#[117, 110, 100, 101, 114, 108, 105, 110, 101]⟩, .string ⟨#[]⟩, .string ⟨#[]⟩, .string ⟨#[]⟩, .string ⟨#[118, 99, 101, 110, 116, 101, 114]⟩, .string ⟨#[]⟩, .string ⟨#[]⟩] 62)
  rw [hWa] at hbox hFA hwa hsim
  rw [show (w.alloc (Obj.cells #[.int .i64 1, .int .i64 3, .int .i64 a2, .int .i64 a3, .int .i64 a4, .slice Ap ps.length cp, .slice Ar rs.length cr, .bool b1, .bool b2, .slice Au lu cu, .slice Ab lb cb] 33)).heap.size = w.heap.size + 1 by simp] at hsim
  have HBX : Hid (∀ w2, Fr w0.heap.size b Wa w2 → _) := Lib.hid fun w2 hf => box_kept hbox hw hf
  have HFA := Lib.hid hFA
  have HX0 := Lib.hid hwa
  have HFF := Lib.hid hF
  have HGG := Lib.hid hG
  have HP := Lib.hid hp
  have HR := Lib.hid hr
  have HL := Lib.hid hlen
  have HTT := Lib.hid hT
  have HTX := Lib.hid hTX
  have HSM := Lib.hid hsim
  have HPS := Lib.hid hps
  have HB := Lib.hid (hb.trans hFA.below)
  have HY0 := Lib.hid (Fr.refl w0.heap.size b Wa)
  obtain ⟨k, hk⟩ : ∃ k, w.heap.size = k := ⟨_, rfl⟩
  rw [hk] at HBX HSM
  clear hF hG hp hr hb hlen hT hw hwa hFA hbox hTX hsim hps
  obtain ⟨O0, hO0⟩ : ∃ O0, out = O0 := ⟨_, rfl⟩
  rw [hO0] at HX0
  obtain ⟨O1, hO1⟩ : ∃ O1, O0 ++ (92 :: [109, 97, 116, 104, 114, 101, 108]) = O1 := ⟨_, rfl⟩
  obtain ⟨O2, hO2⟩ : ∃ O2, O1 ++ bracesL f ps = O2 := ⟨_, rfl⟩
  have HO : Hid (O2 = out ++ T) := Lib.hid (by rw [← hO2, ← hO1, ← hO0, HTX.out]; try simp)
  have HLL1 : Hid (O0.length + ((92 :: [109, 97, 116, 104, 114, 101, 108]) : List UInt8).length ≤ 140737488355328) := Lib.hid (by
    have h1 := congrArg List.length HO.out
    have h2 := HL.out
    have g1 := congrArg List.length hO1
    have g2 := congrArg List.length hO2
    simp only [List.length_append, List.length_cons, List.length_nil] at h1 h2 g1 g2 ⊢
    omega)
  have HLL2 : Hid (O1.length + (bracesL f ps : List UInt8).length ≤ 140737488355328) := Lib.hid (by
    have h1 := congrArg List.length HO.out
    have h2 := HL.out
    have g1 := congrArg List.length hO1
    have g2 := congrArg List.length hO2
    simp only [List.length_append, List.length_cons, List.length_nil] at h1 h2 g1 g2 ⊢
    omega)
  have HC1 : Hid (∀ w1 : World, Wb w0.heap.size b O0 w1 → Fr w0.heap.size b Wa w1 → _) := Lib.hid fun w1 hw1 hf1 => sw_word w0.heap.size b O0 ⟨#[109, 97, 116, 104, 114, 101, 108]⟩ [109, 97, 116, 104, 114, 101, 108] rfl w1 hw1 (by have := HLL1.out; simp only [List.length_append, List.length_cons, List.length_nil] at this ⊢; omega) (hf1.size HB.out.size)
  rw [hO1] at HC1
  have HC2 : Hid (∀ w1 : World, Wb w0.heap.size b O1 w1 → Fr w0.heap.size b Wa w1 → _) := Lib.hid fun w1 hw1 hf1 => braces_calls K f G w0 b HFF.out ps Ap cp O1 w1 HGG.out (parts_hp HP.out (HB.out.trans hf1.below)) HPS.out hw1 (HB.out.trans hf1.below) HLL2.out
  rw [hO2] at HC2
  have HHO := Lib.hid (And.intro hO0 trivial)
  clear hO0 hO1 hO2 HHO
  have HWE := Lib.hid hWa
  have HK := Lib.hid hk
  clear hWa hk
  have hix := (fun w : World => (show (Instr.index 64 (.agg #[.string ⟨#[]⟩, .string ⟨#[109, 97, 116, 104, 111, 112]⟩, .string ⟨#[109, 97, 116, 104, 98, 105, 110]⟩, .string ⟨#[109, 97, 116, 104, 114, 101, 108]⟩, .string ⟨#[109, 97, 116, 104, 111, 112, 101, 110]⟩, .string ⟨#[109, 97, 116, 104, 99, 108, 111, 115, 101]⟩, .string ⟨#[109, 97, 116, 104, 112, 117, 110, 99, 116]⟩, .string ⟨#[109, 97, 116, 104, 105, 110, 110, 101, 114]⟩]) (.int .i64 3)).run Tryd.prog w = .ok (.string ⟨#[109, 97, 116, 104, 114, 101, 108]⟩) w from idx_run _ 9 8 _ 3 _ w Tryd.underlying64 (Tryd.sizeOf9 w) (by decide) rfl (Tryd.isAgg9 w)))
  go_enter Tryd.func20, Tryd.ntmps20
  go_upto_region 2 with fail
  rw [HWE.out, HK.out]
  have c0 := nad_cells (HBX.out Wa (Fr.refl _ _ _)) 0 _ rfl
  have c1 := nad_cells (HBX.out Wa (Fr.refl _ _ _)) 1 _ rfl
  have c2 := nad_cells (HBX.out Wa (Fr.refl _ _ _)) 2 _ rfl
  have c3 := nad_cells (HBX.out Wa (Fr.refl _ _ _)) 3 _ rfl
  have c4 := nad_cells (HBX.out Wa (Fr.refl _ _ _)) 4 _ rfl
  have c5 := nad_cells (HBX.out Wa (Fr.refl _ _ _)) 5 _ rfl
  have c6 := nad_cells (HBX.out Wa (Fr.refl _ _ _)) 6 _ rfl
  have c7 := nad_cells (HBX.out Wa (Fr.refl _ _ _)) 7 _ rfl
  have c8 := nad_cells (HBX.out Wa (Fr.refl _ _ _)) 8 _ rfl
  have c9 := nad_cells (HBX.out Wa (Fr.refl _ _ _)) 9 _ rfl
  have c10 := nad_cells (HBX.out Wa (Fr.refl _ _ _)) 10 _ rfl
  go_wp2_with (first | (go_at_call 19; with_reducible refine (HC1.out _ HX0.out HY0.out).mono ?_; clear c0 c1 c2 c3 c5; rintro e w1 ⟨rfl, hw1, hf1⟩; have HX1 := Lib.hid hw1; have HY1 := Lib.hid (HY0.out.trans hf1); have c0 := nad_cells (HBX.out w1 HY1.out) 0 _ rfl; have c1 := nad_cells (HBX.out w1 HY1.out) 1 _ rfl; have c2 := nad_cells (HBX.out w1 HY1.out) 2 _ rfl; have c3 := nad_cells (HBX.out w1 HY1.out) 3 _ rfl; have c5 := nad_cells (HBX.out w1 HY1.out) 5 _ rfl; clear hw1 hf1) | (go_at_call 22; with_reducible refine (HC2.out _ HX1.out HY1.out).mono ?_; clear c0 c1 c2 c3 c5; rintro e w1 ⟨rfl, hw1, hf1⟩; have HX2 := Lib.hid hw1; have HY2 := Lib.hid (HY1.out.trans hf1); clear hw1 hf1))
  all_goals (go_end0; exact ⟨rfl, by rw [← HO.out]; exact HX2.out, HFA.out.trans HY2.out⟩)
set_option maxHeartbeats 2000000 in
set_option maxRecDepth 100000 in
theorem nuc_1_4 {α : Type} (K : World → α → List Value → Prop) (f : List α → List UInt8) (G : List α → Prop) (w0 : World) (b : Nat) (hT : LexTabs w0) (hF : LC K f G w0 b)
    (a2 a3 a4 : Int) (ps : List (List α)) (Ap : Option Addr) (cp : Nat) (Ar : Option Addr) (rs : List Int) (cr : Nat) (b1 b2 : Bool) (Au : Option Addr) (lu cu : Nat) (Ab : Option Addr) (lb cb : Nat) (out : List UInt8) (w : World) (hG : ∀ p ∈ ps, G p)
    (hp : rdS (fun l cs => ∃ v, cs = [v] ∧ rdS (K w0) 11 w0 v l) 1 w0 (.slice Ap ps.length cp) (ps : List (List α))) (hr : rdS (fun (n : Int) cs => cs = [.int .i64 n] ∧ inI n) 1 w0 (.slice Ar rs.length cr) rs)
    (hps : ps.length ≤ 2000000) (hw : Wb w0.heap.size b out w) (hb : Below w0.heap.size w0 w) (T : List UInt8) (hTX : T = (92 :: [109, 97, 116, 104, 111, 112, 101, 110]) ++ bracesL f ps) (hlen : out.length + T.length ≤ 140737488355328) :
    Calls Tryd.prog 20 #[.pointer (some ⟨b, 0, none⟩), .agg #[.int .i64 1, .int .i64 4, .int .i64 a2, .int .i64 a3, .int .i64 a4, .slice Ap ps.length cp, .slice Ar rs.length cr, .bool b1, .bool b2, .slice Au lu cu, .slice Ab lb cb]] w fun e w' => e = .returned (.tuple #[]) ∧ Wb w0.heap.size b (out ++ T) w' ∧ Fr w0.heap.size b w w' := by
  obtain ⟨Wa, hWa⟩ : ∃ Wa, (w.alloc (Obj.cells #[.int .i64 1, .int .i64 4, .int .i64 a2, .int .i64 a3, .int .i64 a4, .slice Ap ps.length cp, .slice Ar rs.length cr, .bool b1, .bool b2, .slice Au lu cu, .slice Ab lb cb] 33)).alloc (Obj.cells #[.string ⟨#[]⟩, .string ⟨#[]⟩, .string ⟨#[]⟩, .string ⟨#[]⟩, .string ⟨#[111, 118, 101, 114, 108, 105, 110, 101]⟩, .string ⟨#[117, 110, 100, 101, 114, 108, 105, 110, 101]⟩, .string ⟨#[]⟩, .string ⟨#[]⟩, .string ⟨#[]⟩, .string ⟨#[118, 99, 101, 110, 116, 101, 114]⟩, .string ⟨#[]⟩, .string ⟨#[]⟩] 62) = Wa := ⟨_, rfl⟩
  have hbox := (heap_alloc_old (w.alloc (Obj.cells #[.int .i64 1, .int .i64 4, .int .i64 a2, .int .i64 a3, .int .i64 a4, .slice Ap ps.length cp, .slice Ar rs.length cr, .bool b1, .bool b2, .slice Au lu cu, .slice Ab lb cb] 33)) (Obj.cells #[.string ⟨#[]⟩, .string ⟨#[]⟩, .string ⟨#[]⟩, .string ⟨#[]⟩, .string ⟨#[111, 118, 101, 114, 108, 105, 110, 101]⟩, .string ⟨#[117, 110, 100, 101, 114, 108, 105, 110, 101]⟩, .string ⟨#[]⟩, .string ⟨#[]⟩, .string ⟨#[]⟩, .string ⟨#[118, 99, 101, 110, 116, 101, 114]⟩, .string ⟨#[]⟩, .string ⟨#[]⟩] 62) (show w.heap.size < _ by simp)).trans (heap_alloc_new w (Obj.cells #[.int .i64 1, .int .i64 4, .int .i64 a2, .int .i64 a3, .int .i64 a4, .slice Ap ps.length cp, .slice Ar rs.length cr, .bool b1, .bool b2, .slice Au lu cu, .slice Ab lb cb] 33))
  have hsim := heap_alloc_new (w.alloc (Obj.cells #[.int .i64 1, .int .i64 4, .int .i64 a2, .int .i64 a3, .int .i64 a4, .slice Ap ps.length cp, .slice Ar rs.length cr, .bool b1, .bool b2, .slice Au lu cu, .slice Ab lb cb] 33)) (Obj.cells #[.string ⟨#[]⟩, .string ⟨#[]⟩, .string ⟨#[]⟩, .string ⟨#[]⟩, .string ⟨#[111, 118, 101, 114, 108, 105, 110, 101]⟩, .string ⟨#[117, 110, 100, 101, 114, 108, 105, 110, 101]⟩, .string ⟨#[]⟩, .string ⟨#[]⟩, .string ⟨#[]⟩, .string ⟨#[118, 99, 101, 110, 116, 101, 114]⟩, .string ⟨#[]⟩, .string ⟨#[]⟩] 62)
  have hFA := ((Fr.refl w0.heap.size b w).alloc hb.size (Obj.cells #[.int .i64 1, .int .i64 4, .int .i64 a2, .int .i64 a3, .int .i64 a4, .slice Ap ps.length cp, .slice Ar rs.length cr, .bool b1, .bool b2, .slice Au lu cu, .slice Ab lb cb] 33)).alloc hb.size (Obj.cells #[.string ⟨#[]⟩, .string ⟨#[]⟩, .string ⟨#[]⟩, .string ⟨#[]⟩, .string ⟨#[111, 118, 101, 114, 108, 105, 110, 101]⟩, .string ⟨#[117, 110, 100, 101, 114, 108, 105, 110, 101]⟩, .string ⟨#[]⟩, .string ⟨#[]⟩, .string ⟨#[]⟩, .string ⟨#[118, 99, 101, 110, 116, 101, 114]⟩, .string ⟨#[]⟩, .string ⟨#[]⟩] 62)
  have hwa := (hw.alloc (Obj.cells #[.int .i64 1, .int .i64 4, .int .i64 a2, .int .i64 a3, .int .i64 a4, .slice Ap ps.length cp, .slice Ar rs.length cr, .bool b1, .bool b2, .slice Au lu cu, .slice Ab lb cb] 33)).alloc (Obj.cells #[.string ⟨#[]⟩, .string ⟨#[]⟩, .string ⟨#[]⟩, .string ⟨#[]⟩, .string ⟨#[111, 118, 101, 114, 108, 105, 110, 101]⟩, .string ⟨#[117, 110, 100, 101, 114, 108, 105, 110, 101]⟩, .string ⟨#[]⟩, .string ⟨#[]⟩, .string ⟨#[]⟩, .string ⟨#[118, 99, 101, 110, 116, 101, 114]⟩, .string ⟨#[]⟩, .string ⟨#[]⟩] 62)
  rw [hWa] at hbox hFA hwa hsim
  rw [show (w.alloc (Obj.cells #[.int .i64 1, .int .i64 4, .int .i64 a2, .int .i64 a3, .int .i64 a4, .slice Ap ps.length cp, .slice Ar rs.length cr, .bool b1, .bool b2, .slice Au lu cu, .slice Ab lb cb] 33)).heap.size = w.heap.size + 1 by simp] at hsim
  have HBX : Hid (∀ w2, Fr w0.heap.size b Wa w2 → _) := Lib.hid fun w2 hf => box_kept hbox hw hf
  have HFA := Lib.hid hFA
  have HX0 := Lib.hid hwa
  have HFF := Lib.hid hF
  have HGG := Lib.hid hG
  have HP := Lib.hid hp
  have HR := Lib.hid hr
  have HL := Lib.hid hlen
  have HTT := Lib.hid hT
  have HTX := Lib.hid hTX
  have HSM := Lib.hid hsim
  have HPS := Lib.hid hps
  have HB := Lib.hid (hb.trans hFA.below)
  have HY0 := Lib.hid (Fr.refl w0.heap.size b Wa)
  obtain ⟨k, hk⟩ : ∃ k, w.heap.size = k := ⟨_, rfl⟩
  rw [hk] at HBX HSM
  clear hF hG hp hr hb hlen hT hw hwa hFA hbox hTX hsim hps
  obtain ⟨O0, hO0⟩ : ∃ O0, out = O0 := ⟨_, rfl⟩
  rw [hO0] at HX0
  obtain ⟨O1, hO1⟩ : ∃ O1, O0 ++ (92 :: [109, 97, 116, 104, 111, 112, 101, 110]) = O1 := ⟨_, rfl⟩
  obtain ⟨O2, hO2⟩ : ∃ O2, O1 ++ bracesL f ps = O2 := ⟨_, rfl⟩
  have HO : Hid (O2 = out ++ T) := Lib.hid (by rw [← hO2, ← hO1, ← hO0, HTX.out]; try simp)
  have HLL1 : Hid (O0.length + ((92 :: [109, 97, 116, 104, 111, 112, 101, 110]) : List UInt8).length ≤ 140737488355328) := Lib.hid (by
    have h1 := congrArg List.length HO.out
    have h2 := HL.out
    have g1 := congrArg List.length hO1
    have g2 := congrArg List.length hO2
    simp only [List.length_append, List.length_cons, List.length_nil] at h1 h2 g1 g2 ⊢
    omega)
  have HLL2 : Hid (O1.length + (bracesL f ps : List UInt8).length ≤ 140737488355328) := Lib.hid (by
    have h1 := congrArg List.length HO.out
    have h2 := HL.out
    have g1 := congrArg List.length hO1
    have g2 := congrArg List.length hO2
    simp only [List.length_append, List.length_cons, List.length_nil] at h1 h2 g1 g2 ⊢
    omega)
  have HC1 : Hid (∀ w1 : World, Wb w0.heap.size b O0 w1 → Fr w0.heap.size b Wa w1 → _) := Lib.hid fun w1 hw1 hf1 => sw_word w0.heap.size b O0 ⟨#[109, 97, 116, 104, 111, 112, 101, 110]⟩ [109, 97, 116, 104, 111, 112, 101, 110] rfl w1 hw1 (by have := HLL1.out; simp only [List.length_append, List.length_cons, List.length_nil] at this ⊢; omega) (hf1.size HB.out.size)
  rw [hO1] at HC1
  have HC2 : Hid (∀ w1 : World, Wb w0.heap.size b O1 w1 → Fr w0.heap.size b Wa w1 → _) := Lib.hid fun w1 hw1 hf1 => braces_calls K f G w0 b HFF.out ps Ap cp O1 w1 HGG.out (parts_hp HP.out (HB.out.trans hf1.below)) HPS.out hw1 (HB.out.trans hf1.below) HLL2.out
  rw [hO2] at HC2
  have HHO := Lib.hid (And.intro hO0 trivial)
  clear hO0 hO1 hO2 HHO
  have HWE := Lib.hid hWa
  have HK := Lib.hid hk
  clear hWa hk
  have hix := (fun w : World => (show (Instr.index 64 (.agg #[.string ⟨#[]⟩, .string ⟨#[109, 97, 116, 104, 111, 112]⟩, .string ⟨#[109, 97, 116, 104, 98, 105, 110]⟩, .string ⟨#[109, 97, 116, 104, 114, 101, 108]⟩, .string ⟨#[109, 97, 116, 104, 111, 112, 101, 110]⟩, .string ⟨#[109, 97, 116, 104, 99, 108, 111, 115, 101]⟩, .string ⟨#[109, 97, 116, 104, 112, 117, 110, 99, 116]⟩, .string ⟨#[109, 97, 116, 104, 105, 110, 110, 101, 114]⟩]) (.int .i64 4)).run Tryd.prog w = .ok (.string ⟨#[109, 97, 116, 104, 111, 112, 101, 110]⟩) w from idx_run _ 9 8 _ 4 _ w Tryd.underlying64 (Tryd.sizeOf9 w) (by decide) rfl (Tryd.isAgg9 w)))
  go_enter Tryd.func20, Tryd.ntmps20
  go_upto_region 2 with fail
  rw [HWE.out, HK.out]
  have c0 := nad_cells (HBX.out Wa (Fr.refl _ _ _)) 0 _ rfl
  have c1 := nad_cells (HBX.out Wa (Fr.refl _ _ _)) 1 _ rfl
  have c2 := nad_cells (HBX.out Wa (Fr.refl _ _ _)) 2 _ rfl
  have c3 := nad_cells (HBX.out Wa (Fr.refl _ _ _)) 3 _ rfl
  have c4 := nad_cells (HBX.out Wa (Fr.refl _ _ _)) 4 _ rfl
  have c5 := nad_cells (HBX.out Wa (Fr.refl _ _ _)) 5 _ rfl
  have c6 := nad_cells (HBX.out Wa (Fr.refl _ _ _)) 6 _ rfl
  have c7 := nad_cells (HBX.out Wa (Fr.refl _ _ _)) 7 _ rfl
  have c8 := nad_cells (HBX.out Wa (Fr.refl _ _ _)) 8 _ rfl
  have c9 := nad_cells (HBX.out Wa (Fr.refl _ _ _)) 9 _ rfl
  have c10 := nad_cells (HBX.out Wa (Fr.refl _ _ _)) 10 _ rfl
  go_wp2_with (first | (go_at_call 19; with_reducible refine (HC1.out _ HX0.out HY0.out).mono ?_; clear c0 c1 c2 c3 c5; rintro e w1 ⟨rfl, hw1, hf1⟩; have HX1 := Lib.hid hw1; have HY1 := Lib.hid (HY0.out.trans hf1); have c0 := nad_cells (HBX.out w1 HY1.out) 0 _ rfl; have c1 := nad_cells (HBX.out w1 HY1.out) 1 _ rfl; have c2 := nad_cells (HBX.out w1 HY1.out) 2 _ rfl; have c3 := nad_cells (HBX.out w1 HY1.out) 3 _ rfl; have c5 := nad_cells (HBX.out w1 HY1.out) 5 _ rfl; clear hw1 hf1) | (go_at_call 22; with_reducible refine (HC2.out _ HX1.out HY1.out).mono ?_; clear c0 c1 c2 c3 c5; rintro e w1 ⟨rfl, hw1, hf1⟩; have HX2 := Lib.hid hw1; have HY2 := Lib.hid (HY1.out.trans hf1); clear hw1 hf1))
  all_goals (go_end0; exact ⟨rfl, by rw [← HO.out]; exact HX2.out, HFA.out.trans HY2.out⟩)
set_option maxHeartbeats 2000000 in
set_option maxRecDepth 100000 in
theorem nuc_1_5 {α : Type} (K : World → α → List Value → Prop) (f : List α → List UInt8) (G : List α → Prop) (w0 : World) (b : Nat) (hT : LexTabs w0) (hF : LC K f G w0 b)
    (a2 a3 a4 : Int) (ps : List (List α)) (Ap : Option Addr) (cp : Nat) (Ar : Option Addr) (rs : List Int) (cr : Nat) (b1 b2 : Bool) (Au : Option Addr) (lu cu : Nat) (Ab : Option Addr) (lb cb : Nat) (out : List UInt8) (w : World) (hG : ∀ p ∈ ps, G p)
    (hp : rdS (fun l cs => ∃ v, cs = [v] ∧ rdS (K w0) 11 w0 v l) 1 w0 (.slice Ap ps.length cp) (ps : List (List α))) (hr : rdS (fun (n : Int) cs => cs = [.int .i64 n] ∧ inI n) 1 w0 (.slice Ar rs.length cr) rs)
    (hps : ps.length ≤ 2000000) (hw : Wb w0.heap.size b out w) (hb : Below w0.heap.size w0 w) (T : List UInt8) (hTX : T = (92 :: [109, 97, 116, 104, 99, 108, 111, 115, 101]) ++ bracesL f ps) (hlen : out.length + T.length ≤ 140737488355328) :
    Calls Tryd.prog 20 #[.pointer (some ⟨b, 0, none⟩), .agg #[.int .i64 1, .int .i64 5, .int .i64 a2, .int .i64 a3, .int .i64 a4, .slice Ap ps.length cp, .slice Ar rs.length cr, .bool b1, .bool b2, .slice Au lu cu, .slice Ab lb cb]] w fun e w' => e = .returned (.tuple #[]) ∧ Wb w0.heap.size b (out ++ T) w' ∧ Fr w0.heap.size b w w' := by
  obtain ⟨Wa, hWa⟩ : ∃ Wa, (w.alloc (Obj.cells #[.int .i64 1, .int .i64 5, .int .i64 a2, .int .i64 a3, .int .i64 a4, .slice Ap ps.length cp, .slice Ar rs.length cr, .bool b1, .bool b2, .slice Au lu cu, .slice Ab lb cb] 33)).alloc (Obj.cells #[.string ⟨#[]⟩, .string ⟨#[]⟩, .string ⟨#[]⟩, .string ⟨#[]⟩, .string ⟨#[111, 118, 101, 114, 108, 105, 110, 101]⟩, .string ⟨#[117, 110, 100, 101, 114, 108, 105, 110, 101]⟩, .string ⟨#[]⟩, .string ⟨#[]⟩, .string ⟨#[]⟩, .string ⟨#[118, 99, 101, 110, 116, 101, 114]⟩, .string ⟨#[]⟩, .string ⟨#[]⟩] 62) = Wa := ⟨_, rfl⟩
  have hbox := (heap_alloc_old (w.alloc (Obj.cells #[.int .i64 1, .int .i64 5, .int .i64 a2, .int .i64 a3, .int .i64 a4, .slice Ap ps.length cp, .slice Ar rs.length cr, .bool b1, .bool b2, .slice Au lu cu, .slice Ab lb cb] 33)) (Obj.cells #[.string ⟨#[]⟩, .string ⟨#[]⟩, .string ⟨#[]⟩, .string ⟨#[]⟩, .string ⟨#[111, 118, 101, 114, 108, 105, 110, 101]⟩, .string ⟨#[117, 110, 100, 101, 114, 108, 105, 110, 101]⟩, .string ⟨#[]⟩, .string ⟨#[]⟩, .string ⟨#[]⟩, .string ⟨#[118, 99, 101, 110, 116, 101, 114]⟩, .string ⟨#[]⟩, .string ⟨#[]⟩] 62) (show w.heap.size < _ by simp)).trans (heap_alloc_new w (Obj.cells #[.int .i64 1, .int .i64 5, .int .i64 a2, .int .i64 a3, .int .i64 a4, .slice Ap ps.length cp, .slice Ar rs.length cr, .bool b1, .bool b2, .slice Au lu cu, .slice Ab lb cb] 33))
  have hsim := heap_alloc_new (w.alloc (Obj.cells #[.int .i64 1, .int .i64 5, .int .i64 a2, .int .i64 a3, .int .i64 a4, .slice Ap ps.length cp, .slice Ar rs.length cr, .bool b1, .bool b2, .slice Au lu cu, .slice Ab lb cb] 33)) (Obj.cells #[.string ⟨#[]⟩, .string ⟨#[]⟩, .string ⟨#[]⟩, .string ⟨#[]⟩, .string ⟨#[111, 118, 101, 114, 108, 105, 110, 101]⟩, .string ⟨#[117, 110, 100, 101, 114, 108, 105, 110, 101]⟩, .string ⟨#[]⟩, .string ⟨#[]⟩, .string ⟨#[]⟩, .string ⟨#[118, 99, 101, 110, 116, 101, 114]⟩, .string ⟨#[]⟩, .string ⟨#[]⟩] 62)
  have hFA := ((Fr.refl w0.heap.size b w).alloc hb.size (Obj.cells #[.int .i64 1, .int .i64 5, .int .i64 a2, .int .i64 a3, .int .i64 a4, .slice Ap ps.length cp, .slice Ar rs.length cr, .bool b1, .bool b2, .slice Au lu cu, .slice Ab lb cb] 33)).alloc hb.size (Obj.cells #[.string ⟨#[]⟩, .string ⟨#[]⟩, .string ⟨#[]⟩, .string ⟨#[]⟩, .string ⟨#[111, 118, 101, 114, 108, 105, 110, 101]⟩, .string ⟨#[117, 110, 100, 101, 114, 108, 105, 110, 101]⟩, .string ⟨#[]⟩, .string ⟨#[]⟩, .string ⟨#[]⟩, .string ⟨#[118, 99, 101, 110, 116, 101, 114]⟩, .string ⟨#[]⟩, .string ⟨#[]⟩] 62)
  have hwa := (hw.alloc (Obj.cells #[.int .i64 1, .int .i64 5, .int .i64 a2, .int .i64 a3, .int .i64 a4, .slice Ap ps.length cp, .slice Ar rs.length cr, .bool b1, .bool b2, .slice Au lu cu, .slice Ab lb cb] 33)).alloc (Obj.cells #[.string ⟨#[]⟩, .string ⟨#[]⟩, .string ⟨#[]⟩, .string ⟨#[]⟩, .string ⟨#[111, 118, 101, 114, 108, 105, 110, 101]⟩, .string ⟨#[117, 110, 100, 101, 114, 108, 105, 110, 101]⟩, .string ⟨#[]⟩, .string ⟨#[]⟩, .string ⟨#[]⟩, .string ⟨#[118, 99, 101, 110, 116, 101, 114]⟩, .string ⟨#[]⟩, .string ⟨#[]⟩] 62)
  rw [hWa] at hbox hFA hwa hsim
  rw [show (w.alloc (Obj.cells #[.int .i64 1, .int .i64 5, .int .i64 a2, .int .i64 a3, .int .i64 a4, .slice Ap ps.length cp, .slice Ar rs.length cr, .bool b1, .bool b2, .slice Au lu cu, .slice Ab lb cb] 33)).heap.size = w.heap.size + 1 by simp] at hsim
  have HBX : Hid (∀ w2, Fr w0.heap.size b Wa w2 → _) := Lib.hid fun w2 hf => box_kept hbox hw hf
  have HFA := Lib.hid hFA
  have HX0 := Lib.hid hwa
  have HFF := Lib.hid hF
  have HGG := Lib.hid hG
  have HP := Lib.hid hp
  have HR := Lib.hid hr
  have HL := Lib.hid hlen
  have HTT := Lib.hid hT
  have HTX := Lib.hid hTX
  have HSM := Lib.hid hsim
  have HPS := Lib.hid hps
  have HB := Lib.hid (hb.trans hFA.below)
  have HY0 := Lib.hid (Fr.refl w0.heap.size b Wa)
  obtain ⟨k, hk⟩ : ∃ k, w.heap.size = k := ⟨_, rfl⟩
  rw [hk] at HBX HSM
  clear hF hG hp hr hb hlen hT hw hwa hFA hbox hTX hsim hps
  obtain ⟨O0, hO0⟩ : ∃ O0, out = O0 := ⟨_, rfl⟩
  rw [hO0] at HX0
  obtain ⟨O1, hO1⟩ : ∃ O1, O0 ++ (92 :: [109, 97, 116, 104, 99, 108, 111, 115, 101]) = O1 := ⟨_, rfl⟩
  obtain ⟨O2, hO2⟩ : ∃ O2, O1 ++ bracesL f ps = O2 := ⟨_, rfl⟩
  have HO : Hid (O2 = out ++ T) := Lib.hid (by rw [← hO2, ← hO1, ← hO0, HTX.out]; try simp)
  have HLL1 : Hid (O0.length + ((92 :: [109, 97, 116, 104, 99, 108, 111, 115, 101]) : List UInt8).length ≤ 140737488355328) := Lib.hid (by
    have h1 := congrArg List.length HO.out
    have h2 := HL.out
    have g1 := congrArg List.length hO1
    have g2 := congrArg List.length hO2
    simp only [List.length_append, List.length_cons, List.length_nil] at h1 h2 g1 g2 ⊢
    omega)
  have HLL2 : Hid (O1.length + (bracesL f ps : List UInt8).length ≤ 140737488355328) := Lib.hid (by
    have h1 := congrArg List.length HO.out
    have h2 := HL.out
    have g1 := congrArg List.length hO1
    have g2 := congrArg List.length hO2
    simp only [List.length_append, List.length_cons, List.length_nil] at h1 h2 g1 g2 ⊢
    omega)
  have HC1 : Hid (∀ w1 : World, Wb w0.heap.size b O0 w1 → Fr w0.heap.size b Wa w1 → _) := Lib.hid fun w1 hw1 hf1 => sw_word w0.heap.size b O0 ⟨#[109, 97, 116, 104, 99, 108, 111, 115, 101]⟩ [109, 97, 116, 104, 99, 108, 111, 115, 101] rfl w1 hw1 (by have := HLL1.out; simp only [List.length_append, List.length_cons, List.length_nil] at this ⊢; omega) (hf1.size HB.out.size)
  rw [hO1] at HC1
  have HC2 : Hid (∀ w1 : World, Wb w0.heap.size b O1 w1 → Fr w0.heap.size b Wa w1 → _) := Lib.hid fun w1 hw1 hf1 => braces_calls K f G w0 b HFF.out ps Ap cp O1 w1 HGG.out (parts_hp HP.out (HB.out.trans hf1.below)) HPS.out hw1 (HB.out.trans hf1.below) HLL2.out
  rw [hO2] at HC2
  have HHO := Lib.hid (And.intro hO0 trivial)
  clear hO0 hO1 hO2 HHO
  have HWE := Lib.hid hWa
  have HK := Lib.hid hk
  clear hWa hk
  have hix := (fun w : World => (show (Instr.index 64 (.agg #[.string ⟨#[]⟩, .string ⟨#[109, 97, 116, 104, 111, 112]⟩, .string ⟨#[109, 97, 116, 104, 98, 105, 110]⟩, .string ⟨#[109, 97, 116, 104, 114, 101, 108]⟩, .string ⟨#[109, 97, 116, 104, 111, 112, 101, 110]⟩, .string ⟨#[109, 97, 116, 104, 99, 108, 111, 115, 101]⟩, .string ⟨#[109, 97, 116, 104, 112, 117, 110, 99, 116]⟩, .string ⟨#[109, 97, 116, 104, 105, 110, 110, 101, 114]⟩]) (.int .i64 5)).run Tryd.prog w = .ok (.string ⟨#[109, 97, 116, 104, 99, 108, 111, 115, 101]⟩) w from idx_run _ 9 8 _ 5 _ w Tryd.underlying64 (Tryd.sizeOf9 w) (by decide) rfl (Tryd.isAgg9 w)))
  go_enter Tryd.func20, Tryd.ntmps20
  go_upto_region 2 with fail
  rw [HWE.out, HK.out]
  have c0 := nad_cells (HBX.out Wa (Fr.refl _ _ _)) 0 _ rfl
  have c1 := nad_cells (HBX.out Wa (Fr.refl _ _ _)) 1 _ rfl
  have c2 := nad_cells (HBX.out Wa (Fr.refl _ _ _)) 2 _ rfl
  have c3 := nad_cells (HBX.out Wa (Fr.refl _ _ _)) 3 _ rfl
  have c4 := nad_cells (HBX.out Wa (Fr.refl _ _ _)) 4 _ rfl
  have c5 := nad_cells (HBX.out Wa (Fr.refl _ _ _)) 5 _ rfl
  have c6 := nad_cells (HBX.out Wa (Fr.refl _ _ _)) 6 _ rfl
  have c7 := nad_cells (HBX.out Wa (Fr.refl _ _ _)) 7 _ rfl
  have c8 := nad_cells (HBX.out Wa (Fr.refl _ _ _)) 8 _ rfl
  have c9 := nad_cells (HBX.out Wa (Fr.refl _ _ _)) 9 _ rfl
  have c10 := nad_cells (HBX.out Wa (Fr.refl _ _ _)) 10 _ rfl
  go_wp2_with (first | (go_at_call 19; with_reducible refine (HC1.out _ HX0.out HY0.out).mono ?_; clear c0 c1 c2 c3 c5; rintro e w1 ⟨rfl, hw1, hf1⟩; have HX1 := Lib.hid hw1; have HY1 := Lib.hid (HY0.out.trans hf1); have c0 := nad_cells (HBX.out w1 HY1.out) 0 _ rfl; have c1 := nad_cells (HBX.out w1 HY1.out) 1 _ rfl; have c2 := nad_cells (HBX.out w1 HY1.out) 2 _ rfl; have c3 := nad_cells (HBX.out w1 HY1.out) 3 _ rfl; have c5 := nad_cells (HBX.out w1 HY1.out) 5 _ rfl; clear hw1 hf1) | (go_at_call 22; with_reducible refine (HC2.out _ HX1.out HY1.out).mono ?_; clear c0 c1 c2 c3 c5; rintro e w1 ⟨rfl, hw1, hf1⟩; have HX2 := Lib.hid hw1; have HY2 := Lib.hid (HY1.out.trans hf1); clear hw1 hf1))
  all_goals (go_end0; exact ⟨rfl, by rw [← HO.out]; exact HX2.out, HFA.out.trans HY2.out⟩)
set_option maxHeartbeats 2000000 in
set_option maxRecDepth 100000 in
theorem nuc_1_6 {α : Type} (K : World → α → List Value → Prop) (f : List α → List UInt8) (G : List α → Prop) (w0 : World) (b : Nat) (hT : LexTabs w0) (hF : LC K f G w0 b)
    (a2 a3 a4 : Int) (ps : List (List α)) (Ap : Option Addr) (cp : Nat) (Ar : Option Addr) (rs : List Int) (cr : Nat) (b1 b2 : Bool) (Au : Option Addr) (lu cu : Nat) (Ab : Option Addr) (lb cb : Nat) (out : List UInt8) (w : World) (hG : ∀ p ∈ ps, G p)
    (hp : rdS (fun l cs => ∃ v, cs = [v] ∧ rdS (K w0) 11 w0 v l) 1 w0 (.slice Ap ps.length cp) (ps : List (List α))) (hr : rdS (fun (n : Int) cs => cs = [.int .i64 n] ∧ inI n) 1 w0 (.slice Ar rs.length cr) rs)
    (hps : ps.length ≤ 2000000) (hw : Wb w0.heap.size b out w) (hb : Below w0.heap.size w0 w) (T : List UInt8) (hTX : T = (92 :: [109, 97, 116, 104, 112, 117, 110, 99, 116]) ++ bracesL f ps) (hlen : out.length + T.length ≤ 140737488355328) :
    Calls Tryd.prog 20 #[.pointer (some ⟨b, 0, none⟩), .agg #[.int .i64 1, .int .i64 6, .int .i64 a2, .int .i64 a3, .int .i64 a4, .slice Ap ps.length cp, .slice Ar rs.length cr, .bool b1, .bool b2, .slice Au lu cu, .slice Ab lb cb]] w fun e w' => e = .returned (.tuple #[]) ∧ Wb w0.heap.size b (out ++ T) w' ∧ Fr w0.heap.size b w w' := by
  obtain ⟨Wa, hWa⟩ : ∃ Wa, (w.alloc (Obj.cells #[.int .i64 1, .int .i64 6, .int .i64 a2, .int .i64 a3, .int .i64 a4, .slice Ap ps.length cp, .slice Ar rs.length cr, .bool b1, .bool b2, .slice Au lu cu, .slice Ab lb cb] 33)).alloc (Obj.cells #[.string ⟨#[]⟩, .string ⟨#[]⟩, .string ⟨#[]⟩, .string ⟨#[]⟩, .string ⟨#[111, 118, 101, 114, 108, 105, 110, 101]⟩, .string ⟨#[117, 110, 100, 101, 114, 108, 105, 110, 101]⟩, .string ⟨#[]⟩, .string ⟨#[]⟩, .string ⟨#[]⟩, .string ⟨#[118, 99, 101, 110, 116, 101, 114]⟩, .string ⟨#[]⟩, .string ⟨#[]⟩] 62) = Wa := ⟨_, rfl⟩
  have hbox := (heap_alloc_old (w.alloc (Obj.cells #[.int .i64 1, .int .i64 6, .int .i64 a2, .int .i64 a3, .int .i64 a4, .slice Ap ps.length cp, .slice Ar rs.length cr, .bool b1, .bool b2, .slice Au lu cu, .slice Ab lb cb] 33)) (Obj.cells #[.string ⟨#[]⟩, .string ⟨#[]⟩, .string ⟨#[]⟩, .string ⟨#[]⟩, .string ⟨#[111, 118, 101, 114, 108, 105, 110, 101]⟩, .string ⟨#[117, 110, 100, 101, 114, 108, 105, 110, 101]⟩, .string ⟨#[]⟩, .string ⟨#[]⟩, .string ⟨#[]⟩, .string ⟨#[118, 99, 101, 110, 116, 101, 114]⟩, .string ⟨#[]⟩, .string ⟨#[]⟩] 62) (show w.heap.size < _ by simp)).trans (heap_alloc_new w (Obj.cells #[.int .i64 1, .int .i64 6, .int .i64 a2, .int .i64 a3, .int .i64 a4, .slice Ap ps.length cp, .slice Ar rs.length cr, .bool b1, .bool b2, .slice Au lu cu, .slice Ab lb cb] 33))
  have hsim := heap_alloc_new (w.alloc (Obj.cells #[.int .i64 1, .int .i64 6, .int .i64 a2, .int .i64 a3, .int .i64 a4, .slice Ap ps.length cp, .slice Ar rs.length cr, .bool b1, .bool b2, .slice Au lu cu, .slice Ab lb cb] 33)) (Obj.cells #[.string ⟨#[]⟩, .string ⟨#[]⟩, .string ⟨#[]⟩, .string ⟨#[]⟩, .string ⟨#[111, 118, 101, 114, 108, 105, 110, 101]⟩, .string ⟨#[117, 110, 100, 101, 114, 108, 105, 110, 101]⟩, .string ⟨#[]⟩, .string ⟨#[]⟩, .string ⟨#[]⟩, .string ⟨#[118, 99, 101, 110, 116, 101, 114]⟩, .string ⟨#[]⟩, .string ⟨#[]⟩] 62)
  have hFA := ((Fr.refl w0.heap.size b w).alloc hb.size (Obj.cells #[.int .i64 1, .int .i64 6, .int .i64 a2, .int .i64 a3, .int .i64 a4, .slice Ap ps.length cp, .slice Ar rs.length cr, .bool b1, .bool b2, .slice Au lu cu, .slice Ab lb cb] 33)).alloc hb.size (Obj.cells #[.string ⟨#[]⟩, .string ⟨#[]⟩, .string ⟨#[]⟩, .string ⟨#[]⟩, .string ⟨#[111, 118, 101, 114, 108, 105, 110, 101]⟩, .string ⟨#[117, 110, 100, 101, 114, 108, 105, 110, 101]⟩, .string ⟨#[]⟩, .string ⟨#[]⟩, .string ⟨#[]⟩, .string ⟨#[118, 99, 101, 110, 116, 101, 114]⟩, .string ⟨#[]⟩, .string ⟨#[]⟩] 62)
  have hwa := (hw.alloc (Obj.cells #[.int .i64 1, .int .i64 6, .int .i64 a2, .int .i64 a3, .int .i64 a4, .slice Ap ps.length cp, .slice Ar rs.length cr, .bool b1, .bool b2, .slice Au lu cu, .slice Ab lb cb] 33)).alloc (Obj.cells #[.string ⟨#[]⟩, .string ⟨#[]⟩, .string ⟨#[]⟩, .string ⟨#[]⟩, .string ⟨#[111, 118, 101, 114, 108, 105, 110, 101]⟩, .string ⟨#[117, 110, 100, 101, 114, 108, 105, 110, 101]⟩, .string ⟨#[]⟩, .string ⟨#[]⟩, .string ⟨#[]⟩, .string ⟨#[118, 99, 101, 110, 116, 101, 114]⟩, .string ⟨#[]⟩, .string ⟨#[]⟩] 62)
  rw [hWa] at hbox hFA hwa hsim
  rw [show (w.alloc (Obj.cells #[.int .i64 1, .int .i64 6, .int .i64 a2, .int .i64 a3, .int .i64 a4, .slice Ap ps.length cp, .slice Ar rs.length cr, .bool b1, .bool b2, .slice Au lu cu, .slice Ab lb cb] 33)).heap.size = w.heap.size + 1 by simp] at hsim
  have HBX : Hid (∀ w2, Fr w0.heap.size b Wa w2 → _) := Lib.hid fun w2 hf => box_kept hbox hw hf
  have HFA := Lib.hid hFA
  have HX0 := Lib.hid hwa
  have HFF := Lib.hid hF
  have HGG := Lib.hid hG
  have HP := Lib.hid hp
  have HR := Lib.hid hr
  have HL := Lib.hid hlen
  have HTT := Lib.hid hT
  have HTX := Lib.hid hTX
  have HSM := Lib.hid hsim
  have HPS := Lib.hid hps
  have HB := Lib.hid (hb.trans hFA.below)
  have HY0 := Lib.hid (Fr.refl w0.heap.size b Wa)
  obtain ⟨k, hk⟩ : ∃ k, w.heap.size = k := ⟨_, rfl⟩
  rw [hk] at HBX HSM
  clear hF hG hp hr hb hlen hT hw hwa hFA hbox hTX hsim hps
  obtain ⟨O0, hO0⟩ : ∃ O0, out = O0 := ⟨_, rfl⟩
  rw [hO0] at HX0
  obtain ⟨O1, hO1⟩ : ∃ O1, O0 ++ (92 :: [109, 97, 116, 104, 112, 117, 110, 99, 116]) = O1 := ⟨_, rfl⟩
  obtain ⟨O2, hO2⟩ : ∃ O2, O1 ++ bracesL f ps = O2 := ⟨_, rfl⟩
  have HO : Hid (O2 = out ++ T) := Lib.hid (by rw [← hO2, ← hO1, ← hO0, HTX.out]; try simp)
  have HLL1 : Hid (O0.length + ((92 :: [109, 97, 116, 104, 112, 117, 110, 99, 116]) : List UInt8).length ≤ 140737488355328) := Lib.hid (by
    have h1 := congrArg List.length HO.out
    have h2 := HL.out
    have g1 := congrArg List.length hO1
    have g2 := congrArg List.length hO2
    simp only [List.length_append, List.length_cons, List.length_nil] at h1 h2 g1 g2 ⊢
    omega)
  have HLL2 : Hid (O1.length + (bracesL f ps : List UInt8).length ≤ 140737488355328) := Lib.hid (by
    have h1 := congrArg List.length HO.out
    have h2 := HL.out
    have g1 := congrArg List.length hO1
    have g2 := congrArg List.length hO2
    simp only [List.length_append, List.length_cons, List.length_nil] at h1 h2 g1 g2 ⊢
    omega)
  have HC1 : Hid (∀ w1 : World, Wb w0.heap.size b O0 w1 → Fr w0.heap.size b Wa w1 → _) := Lib.hid fun w1 hw1 hf1 => sw_word w0.heap.size b O0 ⟨#[109, 97, 116, 104, 112, 117, 110, 99, 116]⟩ [109, 97, 116, 104, 112, 117, 110, 99, 116] rfl w1 hw1 (by have := HLL1.out; simp only [List.length_append, List.length_cons, List.length_nil] at this ⊢; omega) (hf1.size HB.out.size)
  rw [hO1] at HC1
  have HC2 : Hid (∀ w1 : World, Wb w0.heap.size b O1 w1 → Fr w0.heap.size b Wa w1 → _) := Lib.hid fun w1 hw1 hf1 => braces_calls K f G w0 b HFF.out ps Ap cp O1 w1 HGG.out (parts_hp HP.out (HB.out.trans hf1.below)) HPS.out hw1 (HB.out.trans hf1.below) HLL2.out
  rw [hO2] at HC2
  have HHO := Lib.hid (And.intro hO0 trivial)
  clear hO0 hO1 hO2 HHO
  have HWE := Lib.hid hWa
  have HK := Lib.hid hk
  clear hWa hk
  have hix := (fun w : World => (show (Instr.index 64 (.agg #[.string ⟨#[]⟩, .string ⟨#[109, 97, 116, 104, 111, 112]⟩, .string ⟨#[109, 97, 116, 104, 98, 105, 110]⟩, .string ⟨#[109, 97, 116, 104, 114, 101, 108]⟩, .string ⟨#[109, 97, 116, 104, 111, 112, 101, 110]⟩, .string ⟨#[109, 97, 116, 104, 99, 108, 111, 115, 101]⟩, .string ⟨#[109, 97, 116, 104, 112, 117, 110, 99, 116]⟩, .string ⟨#[109, 97, 116, 104, 105, 110, 110, 101, 114]⟩]) (.int .i64 6)).run Tryd.prog w = .ok (.string ⟨#[109, 97, 116, 104, 112, 117, 110, 99, 116]⟩) w from idx_run _ 9 8 _ 6 _ w Tryd.underlying64 (Tryd.sizeOf9 w) (by decide) rfl (Tryd.isAgg9 w)))
  go_enter Tryd.func20, Tryd.ntmps20
  go_upto_region 2 with fail
  rw [HWE.out, HK.out]
  have c0 := nad_cells (HBX.out Wa (Fr.refl _ _ _)) 0 _ rfl
  have c1 := nad_cells (HBX.out Wa (Fr.refl _ _ _)) 1 _ rfl
  have c2 := nad_cells (HBX.out Wa (Fr.refl _ _ _)) 2 _ rfl
  have c3 := nad_cells (HBX.out Wa (Fr.refl _ _ _)) 3 _ rfl
  have c4 := nad_cells (HBX.out Wa (Fr.refl _ _ _)) 4 _ rfl
  have c5 := nad_cells (HBX.out Wa (Fr.refl _ _ _)) 5 _ rfl
  have c6 := nad_cells (HBX.out Wa (Fr.refl _ _ _)) 6 _ rfl
  have c7 := nad_cells (HBX.out Wa (Fr.refl _ _ _)) 7 _ rfl
  have c8 := nad_cells (HBX.out Wa (Fr.refl _ _ _)) 8 _ rfl
  have c9 := nad_cells (HBX.out Wa (Fr.refl _ _ _)) 9 _ rfl
  have c10 := nad_cells (HBX.out Wa (Fr.refl _ _ _)) 10 _ rfl
  go_wp2_with (first | (go_at_call 19; with_reducible refine (HC1.out _ HX0.out HY0.out).mono ?_; clear c0 c1 c2 c3 c5; rintro e w1 ⟨rfl, hw1, hf1⟩; have HX1 := Lib.hid hw1; have HY1 := Lib.hid (HY0.out.trans hf1); have c0 := nad_cells (HBX.out w1 HY1.out) 0 _ rfl; have c1 := nad_cells (HBX.out w1 HY1.out) 1 _ rfl; have c2 := nad_cells (HBX.out w1 HY1.out) 2 _ rfl; have c3 := nad_cells (HBX.out w1 HY1.out) 3 _ rfl; have c5 := nad_cells (HBX.out w1 HY1.out) 5 _ rfl; clear hw1 hf1) | (go_at_call 22; with_reducible refine (HC2.out _ HX1.out HY1.out).mono ?_; clear c0 c1 c2 c3 c5; rintro e w1 ⟨rfl, hw1, hf1⟩; have HX2 := Lib.hid hw1; have HY2 := Lib.hid (HY1.out.trans hf1); clear hw1 hf1))
  all_goals (go_end0; exact ⟨rfl, by rw [← HO.out]; exact HX2.out, HFA.out.trans HY2.out⟩)
set_option maxHeartbeats 2000000 in
set_option maxRecDepth 100000 in
theorem nuc_1_7 {α : Type} (K : World → α → List Value → Prop) (f : List α → List UInt8) (G : List α → Prop) (w0 : World) (b : Nat) (hT : LexTabs w0) (hF : LC K f G w0 b)
    (a2 a3 a4 : Int) (ps : List (List α)) (Ap : Option Addr) (cp : Nat) (Ar : Option Addr) (rs : List Int) (cr : Nat) (b1 b2 : Bool) (Au : Option Addr) (lu cu : Nat) (Ab : Option Addr) (lb cb : Nat) (out : List UInt8) (w : World) (hG : ∀ p ∈ ps, G p)
    (hp : rdS (fun l cs => ∃ v, cs = [v] ∧ rdS (K w0) 11 w0 v l) 1 w0 (.slice Ap ps.length cp) (ps : List (List α))) (hr : rdS (fun (n : Int) cs => cs = [.int .i64 n] ∧ inI n) 1 w0 (.slice Ar rs.length cr) rs)
    (hps : ps.length ≤ 2000000) (hw : Wb w0.heap.size b out w) (hb : Below w0.heap.size w0 w) (T : List UInt8) (hTX : T = (92 :: [109, 97, 116, 104, 105, 110, 110, 101, 114]) ++ bracesL f ps) (hlen : out.length + T.length ≤ 140737488355328) :
    Calls Tryd.prog 20 #[.pointer (some ⟨b, 0, none⟩), .agg #[.int .i64 1, .int .i64 7, .int .i64 a2, .int .i64 a3, .int .i64 a4, .slice Ap ps.length cp, .slice Ar rs.length cr, .bool b1, .bool b2, .slice Au lu cu, .slice Ab lb cb]] w fun e w' => e = .returned (.tuple #[]) ∧ Wb w0.heap.size b (out ++ T) w' ∧ Fr w0.heap.size b w w' := by
  obtain ⟨Wa, hWa⟩ : ∃ Wa, (w.alloc (Obj.cells #[.int .i64 1, .int .i64 7, .int .i64 a2, .int .i64 a3, .int .i64 a4, .slice Ap ps.length cp, .slice Ar rs.length cr, .bool b1, .bool b2, .slice Au lu cu, .slice Ab lb cb] 33)).alloc (Obj.cells #[.string ⟨#[]⟩, .string ⟨#[]⟩, .string ⟨#[]⟩, .string ⟨#[]⟩, .string ⟨#[111, 118, 101, 114, 108, 105, 110, 101]⟩, .string ⟨#[117, 110, 100, 101, 114, 108, 105, 110, 101]⟩, .string ⟨#[]⟩, .string ⟨#[]⟩, .string ⟨#[]⟩, .string ⟨#[118, 99, 101, 110, 116, 101, 114]⟩, .string ⟨#[]⟩, .string ⟨#[]⟩] 62) = Wa := ⟨_, rfl⟩
  have hbox := (heap_alloc_old (w.alloc (Obj.cells #[.int .i64 1, .int .i64 7, .int .i64 a2, .int .i64 a3, .int .i64 a4, .slice Ap ps.length cp, .slice Ar rs.length cr, .bool b1, .bool b2, .slice Au lu cu, .slice Ab lb cb] 33)) (Obj.cells #[.string ⟨#[]⟩, .string ⟨#[]⟩, .string ⟨#[]⟩, .string ⟨#[]⟩, .string ⟨#[111, 118, 101, 114, 108, 105, 110, 101]⟩, .string ⟨#[117, 110, 100, 101, 114, 108, 105, 110, 101]⟩, .string ⟨#[]⟩, .string ⟨#[]⟩, .string ⟨#[]⟩, .string ⟨#[118, 99, 101, 110, 116, 101, 114]⟩, .string ⟨#[]⟩, .string ⟨#[]⟩] 62) (show w.heap.size < _ by simp)).trans (heap_alloc_new w (Obj.cells #[.int .i64 1, .int .i64 7, .int .i64 a2, .int .i64 a3, .int .i64 a4, .slice Ap ps.length cp, .slice Ar rs.length cr, .bool b1, .bool b2, .slice Au lu cu, .slice Ab lb cb] 33))
  have hsim := heap_alloc_new (w.alloc (Obj.cells #[.int .i64 1, .int .i64 7, .int .i64 a2, .int .i64 a3, .int .i64 a4, .slice Ap ps.length cp, .slice Ar rs.length cr, .bool b1, .bool b2, .slice Au lu cu, .slice Ab lb cb] 33)) (Obj.cells #[.string ⟨#[]⟩, .string ⟨#[]⟩, .string ⟨#[]⟩, .string ⟨#[]⟩, .string ⟨#[111, 118, 101, 114, 108, 105, 110, 101]⟩, .string ⟨#[117, 110, 100, 101, 114, 108, 105, 110, 101]⟩, .string ⟨#[]⟩, .string ⟨#[]⟩, .string ⟨#[]⟩, .string ⟨#[118, 99, 101, 110, 116, 101, 114]⟩, .string ⟨#[]⟩, .string ⟨#[]⟩] 62)
  have hFA := ((Fr.refl w0.heap.size b w).alloc hb.size (Obj.cells #[.int .i64 1, .int .i64 7, .int .i64 a2, .int .i64 a3, .int .i64 a4, .slice Ap ps.length cp, .slice Ar rs.length cr, .bool b1, .bool b2, .slice Au lu cu, .slice Ab lb cb] 33)).alloc hb.size (Obj.cells #[.string ⟨#[]⟩, .string ⟨#[]⟩, .string ⟨#[]⟩, .string ⟨#[]⟩, .string ⟨#[111, 118, 101, 114, 108, 105, 110, 101]⟩, .string ⟨#[117, 110, 100, 101, 114, 108, 105, 110, 101]⟩, .string ⟨#[]⟩, .string ⟨#[]⟩, .string ⟨#[]⟩, .string ⟨#[118, 99, 101, 110, 116, 101, 114]⟩, .string ⟨#[]⟩, .string ⟨#[]⟩] 62)
  have hwa := (hw.alloc (Obj.cells #[.int .i64 1, .int .i64 7, .int .i64 a2, .int .i64 a3, .int .i64 a4, .slice Ap ps.length cp, .slice Ar rs.length cr, .bool b1, .bool b2, .slice Au lu cu, .slice Ab lb cb] 33)).alloc (Obj.cells #[.string ⟨#[]⟩, .string ⟨#[]⟩, .string ⟨#[]⟩, .string ⟨#[]⟩, .string ⟨#[111, 118, 101, 114, 108, 105, 110, 101]⟩, .string ⟨#[117, 110, 100, 101, 114, 108, 105, 110, 101]⟩, .string ⟨#[]⟩, .string ⟨#[]⟩, .string ⟨#[]⟩, .string ⟨#[118, 99, 101, 110, 116, 101, 114]⟩, .string ⟨#[]⟩, .string ⟨#[]⟩] 62)
  rw [hWa] at hbox hFA hwa hsim
  rw [show (w.alloc (Obj.cells #[.int .i64 1, .int .i64 7, .int .i64 a2, .int .i64 a3, .int .i64 a4, .slice Ap ps.length cp, .slice Ar rs.length cr, .bool b1, .bool b2, .slice Au lu cu, .slice Ab lb cb] 33)).heap.size = w.heap.size + 1 by simp] at hsim
  have HBX : Hid (∀ w2, Fr w0.heap.size b Wa w2 → _) := Lib.hid fun w2 hf => box_kept hbox hw hf
  have HFA := Lib.hid hFA
  have HX0 := Lib.hid hwa
  have HFF := Lib.hid hF
  have HGG := Lib.hid hG
  have HP := Lib.hid hp
  have HR := Lib.hid hr
  have HL := Lib.hid hlen
  have HTT := Lib.hid hT
  have HTX := Lib.hid hTX
  have HSM := Lib.hid hsim
  have HPS := Lib.hid hps
  have HB := Lib.hid (hb.trans hFA.below)
  have HY0 := Lib.hid (Fr.refl w0.heap.size b Wa)
  obtain ⟨k, hk⟩ : ∃ k, w.heap.size = k := ⟨_, rfl⟩
  rw [hk] at HBX HSM
  clear hF hG hp hr hb hlen hT hw hwa hFA hbox hTX hsim hps
  obtain ⟨O0, hO0⟩ : ∃ O0, out = O0 := ⟨_, rfl⟩
  rw [hO0] at HX0
  obtain ⟨O1, hO1⟩ : ∃ O1, O0 ++ (92 :: [109, 97, 116, 104, 105, 110, 110, 101, 114]) = O1 := ⟨_, rfl⟩
  obtain ⟨O2, hO2⟩ : ∃ O2, O1 ++ bracesL f ps = O2 := ⟨_, rfl⟩
  have HO : Hid (O2 = out ++ T) := Lib.hid (by rw [← hO2, ← hO1, ← hO0, HTX.out]; try simp)
  have HLL1 : Hid (O0.length + ((92 :: [109, 97, 116, 104, 105, 110, 110, 101, 114]) : List UInt8).length ≤ 140737488355328) := Lib.hid (by
    have h1 := congrArg List.length HO.out
    have h2 := HL.out
    have g1 := congrArg List.length hO1
    have g2 := congrArg List.length hO2
    simp only [List.length_append, List.length_cons, List.length_nil] at h1 h2 g1 g2 ⊢
    omega)
  have HLL2 : Hid (O1.length + (bracesL f ps : List UInt8).length ≤ 140737488355328) := Lib.hid (by
    have h1 := congrArg List.length HO.out
    have h2 := HL.out
    have g1 := congrArg List.length hO1
    have g2 := congrArg List.length hO2
    simp only [List.length_append, List.length_cons, List.length_nil] at h1 h2 g1 g2 ⊢
    omega)
  have HC1 : Hid (∀ w1 : World, Wb w0.heap.size b O0 w1 → Fr w0.heap.size b Wa w1 → _) := Lib.hid fun w1 hw1 hf1 => sw_word w0.heap.size b O0 ⟨#[109, 97, 116, 104, 105, 110, 110, 101, 114]⟩ [109, 97, 116, 104, 105, 110, 110, 101, 114] rfl w1 hw1 (by have := HLL1.out; simp only [List.length_append, List.length_cons, List.length_nil] at this ⊢; omega) (hf1.size HB.out.size)
  rw [hO1] at HC1
  have HC2 : Hid (∀ w1 : World, Wb w0.heap.size b O1 w1 → Fr w0.heap.size b Wa w1 → _) := Lib.hid fun w1 hw1 hf1 => braces_calls K f G w0 b HFF.out ps Ap cp O1 w1 HGG.out (parts_hp HP.out (HB.out.trans hf1.below)) HPS.out hw1 (HB.out.trans hf1.below) HLL2.out
  rw [hO2] at HC2
  have HHO := Lib.hid (And.intro hO0 trivial)
  clear hO0 hO1 hO2 HHO
  have HWE := Lib.hid hWa
  have HK := Lib.hid hk
  clear hWa hk
  have hix := (fun w : World => (show (Instr.index 64 (.agg #[.string ⟨#[]⟩, .string ⟨#[109, 97, 116, 104, 111, 112]⟩, .string ⟨#[109, 97, 116, 104, 98, 105, 110]⟩, .string ⟨#[109, 97, 116, 104, 114, 101, 108]⟩, .string ⟨#[109, 97, 116, 104, 111, 112, 101, 110]⟩, .string ⟨#[109, 97, 116, 104, 99, 108, 111, 115, 101]⟩, .string ⟨#[109, 97, 116, 104, 112, 117, 110, 99, 116]⟩, .string ⟨#[109, 97, 116, 104, 105, 110, 110, 101, 114]⟩]) (.int .i64 7)).run Tryd.prog w = .ok (.string ⟨#[109, 97, 116, 104, 105, 110, 110, 101, 114]⟩) w from idx_run _ 9 8 _ 7 _ w Tryd.underlying64 (Tryd.sizeOf9 w) (by decide) rfl (Tryd.isAgg9 w)))
  go_enter Tryd.func20, Tryd.ntmps20
  go_upto_region 2 with fail
  rw [HWE.out, HK.out]
  have c0 := nad_cells (HBX.out Wa (Fr.refl _ _ _)) 0 _ rfl
  have c1 := nad_cells (HBX.out Wa (Fr.refl _ _ _)) 1 _ rfl
  have c2 := nad_cells (HBX.out Wa (Fr.refl _ _ _)) 2 _ rfl
  have c3 := nad_cells (HBX.out Wa (Fr.refl _ _ _)) 3 _ rfl
  have c4 := nad_cells (HBX.out Wa (Fr.refl _ _ _)) 4 _ rfl
  have c5 := nad_cells (HBX.out Wa (Fr.refl _ _ _)) 5 _ rfl
  have c6 := nad_cells (HBX.out Wa (Fr.refl _ _ _)) 6 _ rfl
  have c7 := nad_cells (HBX.out Wa (Fr.refl _ _ _)) 7 _ rfl
  have c8 := nad_cells (HBX.out Wa (Fr.refl _ _ _)) 8 _ rfl
  have c9 := nad_cells (HBX.out Wa (Fr.refl _ _ _)) 9 _ rfl
  have c10 := nad_cells (HBX.out Wa (Fr.refl _ _ _)) 10 _ rfl
  go_wp2_with (first | (go_at_call 19; with_reducible refine (HC1.out _ HX0.out HY0.out).mono ?_; clear c0 c1 c2 c3 c5; rintro e w1 ⟨rfl, hw1, hf1⟩; have HX1 := Lib.hid hw1; have HY1 := Lib.hid (HY0.out.trans hf1); have c0 := nad_cells (HBX.out w1 HY1.out) 0 _ rfl; have c1 := nad_cells (HBX.out w1 HY1.out) 1 _ rfl; have c2 := nad_cells (HBX.out w1 HY1.out) 2 _ rfl; have c3 := nad_cells (HBX.out w1 HY1.out) 3 _ rfl; have c5 := nad_cells (HBX.out w1 HY1.out) 5 _ rfl; clear hw1 hf1) | (go_at_call 22; with_reducible refine (HC2.out _ HX1.out HY1.out).mono ?_; clear c0 c1 c2 c3 c5; rintro e w1 ⟨rfl, hw1, hf1⟩; have HX2 := Lib.hid hw1; have HY2 := Lib.hid (HY1.out.trans hf1); clear hw1 hf1))
  all_goals (go_end0; exact ⟨rfl, by rw [← HO.out]; exact HX2.out, HFA.out.trans HY2.out⟩)
set_option maxHeartbeats 2000000 in
set_option maxRecDepth 100000 in
theorem nuc_2_0 {α : Type} (K : World → α → List Value → Prop) (f : List α → List UInt8) (G : List α → Prop) (w0 : World) (b : Nat) (hT : LexTabs w0) (hF : LC K f G w0 b)
    (a1 a2 a4 : Int) (ps : List (List α)) (Ap : Option Addr) (cp : Nat) (Ar : Option Addr) (rs : List Int) (cr : Nat) (b1 b2 : Bool) (Au : Option Addr) (lu cu : Nat) (Ab : Option Addr) (lb cb : Nat) (out : List UInt8) (w : World) (hG : ∀ p ∈ ps, G p)
    (hp : rdS (fun l cs => ∃ v, cs = [v] ∧ rdS (K w0) 11 w0 v l) 1 w0 (.slice Ap ps.length cp) (ps : List (List α))) (hr : rdS (fun (n : Int) cs => cs = [.int .i64 n] ∧ inI n) 1 w0 (.slice Ar rs.length cr) rs)
    (hps : ps.length ≤ 2000000) (hw : Wb w0.heap.size b out w) (hb : Below w0.heap.size w0 w) (T : List UInt8) (hTX : T = (92 :: [97, 116, 111, 112]) ++ bracesL f ps) (hlen : out.length + T.length ≤ 140737488355328) :
    Calls Tryd.prog 20 #[.pointer (some ⟨b, 0, none⟩), .agg #[.int .i64 2, .int .i64 a1, .int .i64 a2, .int .i64 0, .int .i64 a4, .slice Ap ps.length cp, .slice Ar rs.length cr, .bool b1, .bool b2, .slice Au lu cu, .slice Ab lb cb]] w fun e w' => e = .returned (.tuple #[]) ∧ Wb w0.heap.size b (out ++ T) w' ∧ Fr w0.heap.size b w w' := by
  obtain ⟨Wa, hWa⟩ : ∃ Wa, (w.alloc (Obj.cells #[.int .i64 2, .int .i64 a1, .int .i64 a2, .int .i64 0, .int .i64 a4, .slice Ap ps.length cp, .slice Ar rs.length cr, .bool b1, .bool b2, .slice Au lu cu, .slice Ab lb cb] 33)).alloc (Obj.cells #[.string ⟨#[]⟩, .string ⟨#[]⟩, .string ⟨#[]⟩, .string ⟨#[]⟩, .string ⟨#[111, 118, 101, 114, 108, 105, 110, 101]⟩, .string ⟨#[117, 110, 100, 101, 114, 108, 105, 110, 101]⟩, .string ⟨#[]⟩, .string ⟨#[]⟩, .string ⟨#[]⟩, .string ⟨#[118, 99, 101, 110, 116, 101, 114]⟩, .string ⟨#[]⟩, .string ⟨#[]⟩] 62) = Wa := ⟨_, rfl⟩
  have hbox := (heap_alloc_old (w.alloc (Obj.cells #[.int .i64 2, .int .i64 a1, .int .i64 a2, .int .i64 0, .int .i64 a4, .slice Ap ps.length cp, .slice Ar rs.length cr, .bool b1, .bool b2, .slice Au lu cu, .slice Ab lb cb] 33)) (Obj.cells #[.string ⟨#[]⟩, .string ⟨#[]⟩, .string ⟨#[]⟩, .string ⟨#[]⟩, .string ⟨#[111, 118, 101, 114, 108, 105, 110, 101]⟩, .string ⟨#[117, 110, 100, 101, 114, 108, 105, 110, 101]⟩, .string ⟨#[]⟩, .string ⟨#[]⟩, .string ⟨#[]⟩, .string ⟨#[118, 99, 101, 110, 116, 101, 114]⟩, .string ⟨#[]⟩, .string ⟨#[]⟩] 62) (show w.heap.size < _ by simp)).trans (heap_alloc_new w (Obj.cells #[.int .i64 2, .int .i64 a1, .int .i64 a2, .int .i64 0, .int .i64 a4, .slice Ap ps.length cp, .slice Ar rs.length cr, .bool b1, .bool b2, .slice Au lu cu, .slice Ab lb cb] 33))
  have hsim := heap_alloc_new (w.alloc (Obj.cells #[.int .i64 2, .int .i64 a1, .int .i64 a2, .int .i64 0, .int .i64 a4, .slice Ap ps.length cp, .slice Ar rs.length cr, .bool b1, .bool b2, .slice Au lu cu, .slice Ab lb cb] 33)) (Obj.cells #[.string ⟨#[]⟩, .string ⟨#[]⟩, .string ⟨#[]⟩, .string ⟨#[]⟩, .string ⟨#[111, 118, 101, 114, 108, 105, 110, 101]⟩, .string ⟨#[117, 110, 100, 101, 114, 108, 105, 110, 101]⟩, .string ⟨#[]⟩, .string ⟨#[]⟩, .string ⟨#[]⟩, .string ⟨#[118, 99, 101, 110, 116, 101, 114]⟩, .string ⟨#[]⟩, .string ⟨#[]⟩] 62)
  have hFA := ((Fr.refl w0.heap.size b w).alloc hb.size (Obj.cells #[.int .i64 2, .int .i64 a1, .int .i64 a2, .int .i64 0, .int .i64 a4, .slice Ap ps.length cp, .slice Ar rs.length cr, .bool b1, .bool b2, .slice Au lu cu, .slice Ab lb cb] 33)).alloc hb.size (Obj.cells #[.string ⟨#[]⟩, .string ⟨#[]⟩, .string ⟨#[]⟩, .string ⟨#[]⟩, .string ⟨#[111, 118, 101, 114, 108, 105, 110, 101]⟩, .string ⟨#[117, 110, 100, 101, 114, 108, 105, 110, 101]⟩, .string ⟨#[]⟩, .string ⟨#[]⟩, .string ⟨#[]⟩, .string ⟨#[118, 99, 101, 110, 116, 101, 114]⟩, .string ⟨#[]⟩, .string ⟨#[]⟩] 62)
  have hwa := (hw.alloc (Obj.cells #[.int .i64 2, .int .i64 a1, .int .i64 a2, .int .i64 0, .int .i64 a4, .slice Ap ps.length cp, .slice Ar rs.length cr, .bool b1, .bool b2, .slice Au lu cu, .slice Ab lb cb] 33)).alloc (Obj.cells #[.string ⟨#[]⟩, .string ⟨#[]⟩, .string ⟨#[]⟩, .string ⟨#[]⟩, .string ⟨#[111, 118, 101, 114, 108, 105, 110, 101]⟩, .string ⟨#[117, 110, 100, 101, 114, 108, 105, 110, 101]⟩, .string ⟨#[]⟩, .string ⟨#[]⟩, .string ⟨#[]⟩, .string ⟨#[118, 99, 101, 110, 116, 101, 114]⟩, .string ⟨#[]⟩, .string ⟨#[]⟩] 62)
  rw [hWa] at hbox hFA hwa hsim
  rw [show (w.alloc (Obj.cells #[.int .i64 2, .int .i64 a1, .int .i64 a2, .int .i64 0, .int .i64 a4, .slice Ap ps.length cp, .slice Ar rs.length cr, .bool b1, .bool b2, .slice Au lu cu, .slice Ab lb cb] 33)).heap.size = w.heap.size + 1 by simp] at hsim
  have HBX : Hid (∀ w2, Fr w0.heap.size b Wa w2 → _) := Lib.hid fun w2 hf => box_kept hbox hw hf
  have HFA := Lib.hid hFA
  have HX0 := Lib.hid hwa
  have HFF := Lib.hid hF
  have HGG := Lib.hid hG
  have HP := Lib.hid hp
  have HR := Lib.hid hr
  have HL := Lib.hid hlen
  have HTT := Lib.hid hT
  have HTX := Lib.hid hTX
  have HSM := Lib.hid hsim
  have HPS := Lib.hid hps
  have HB := Lib.hid (hb.trans hFA.below)
  have HY0 := Lib.hid (Fr.refl w0.heap.size b Wa)
  obtain ⟨k, hk⟩ : ∃ k, w.heap.size = k := ⟨_, rfl⟩
  rw [hk] at HBX HSM
  clear hF hG hp hr hb hlen hT hw hwa hFA hbox hTX hsim hps
  obtain ⟨O0, hO0⟩ : ∃ O0, out = O0 := ⟨_, rfl⟩
  rw [hO0] at HX0
  obtain ⟨O1, hO1⟩ : ∃ O1, O0 ++ (92 :: [97, 116, 111, 112]) = O1 := ⟨_, rfl⟩
  obtain ⟨O2, hO2⟩ : ∃ O2, O1 ++ bracesL f ps = O2 := ⟨_, rfl⟩
  have HO : Hid (O2 = out ++ T) := Lib.hid (by rw [← hO2, ← hO1, ← hO0, HTX.out]; try simp)
  have HLL1 : Hid (O0.length + ((92 :: [97, 116, 111, 112]) : List UInt8).length ≤ 140737488355328) := Lib.hid (by
    have h1 := congrArg List.length HO.out
    have h2 := HL.out
    have g1 := congrArg List.length hO1
    have g2 := congrArg List.length hO2
    simp only [List.length_append, List.length_cons, List.length_nil] at h1 h2 g1 g2 ⊢
    omega)
  have HLL2 : Hid (O1.length + (bracesL f ps : List UInt8).length ≤ 140737488355328) := Lib.hid (by
    have h1 := congrArg List.length HO.out
    have h2 := HL.out
    have g1 := congrArg List.length hO1
    have g2 := congrArg List.length hO2
    simp only [List.length_append, List.length_cons, List.length_nil] at h1 h2 g1 g2 ⊢
    omega)
  have HC1 : Hid (∀ w1 : World, Wb w0.heap.size b O0 w1 → Fr w0.heap.size b Wa w1 → _) := Lib.hid fun w1 hw1 hf1 => sw_word w0.heap.size b O0 ⟨#[97, 116, 111, 112]⟩ [97, 116, 111, 112] rfl w1 hw1 (by have := HLL1.out; simp only [List.length_append, List.length_cons, List.length_nil] at this ⊢; omega) (hf1.size HB.out.size)
  rw [hO1] at HC1
  have HC2 : Hid (∀ w1 : World, Wb w0.heap.size b O1 w1 → Fr w0.heap.size b Wa w1 → _) := Lib.hid fun w1 hw1 hf1 => braces_calls K f G w0 b HFF.out ps Ap cp O1 w1 HGG.out (parts_hp HP.out (HB.out.trans hf1.below)) HPS.out hw1 (HB.out.trans hf1.below) HLL2.out
  rw [hO2] at HC2
  have HHO := Lib.hid (And.intro hO0 trivial)
  clear hO0 hO1 hO2 HHO
  have HWE := Lib.hid hWa
  have HK := Lib.hid hk
  clear hWa hk
  have hix := (fun w : World => (show (Instr.index 65 (.agg #[.string ⟨#[97, 116, 111, 112]⟩, .string ⟨#[102, 114, 97, 99]⟩]) (.int .i64 0)).run Tryd.prog w = .ok (.string ⟨#[97, 116, 111, 112]⟩) w from idx_run _ 9 2 _ 0 _ w Tryd.underlying65 (Tryd.sizeOf9 w) (by decide) rfl (Tryd.isAgg9 w)))
  go_enter Tryd.func20, Tryd.ntmps20
  go_upto_region 2 with fail
  rw [HWE.out, HK.out]
  have c0 := nad_cells (HBX.out Wa (Fr.refl _ _ _)) 0 _ rfl
  have c1 := nad_cells (HBX.out Wa (Fr.refl _ _ _)) 1 _ rfl
  have c2 := nad_cells (HBX.out Wa (Fr.refl _ _ _)) 2 _ rfl
  have c3 := nad_cells (HBX.out Wa (Fr.refl _ _ _)) 3 _ rfl
  have c4 := nad_cells (HBX.out Wa (Fr.refl _ _ _)) 4 _ rfl
  have c5 := nad_cells (HBX.out Wa (Fr.refl _ _ _)) 5 _ rfl
  have c6 := nad_cells (HBX.out Wa (Fr.refl _ _ _)) 6 _ rfl
  have c7 := nad_cells (HBX.out Wa (Fr.refl _ _ _)) 7 _ rfl
  have c8 := nad_cells (HBX.out Wa (Fr.refl _ _ _)) 8 _ rfl
  have c9 := nad_cells (HBX.out Wa (Fr.refl _ _ _)) 9 _ rfl
  have c10 := nad_cells (HBX.out Wa (Fr.refl _ _ _)) 10 _ rfl
  go_wp2_with (first | (go_at_call 19; with_reducible refine (HC1.out _ HX0.out HY0.out).mono ?_; clear c0 c1 c2 c3 c5; rintro e w1 ⟨rfl, hw1, hf1⟩; have HX1 := Lib.hid hw1; have HY1 := Lib.hid (HY0.out.trans hf1); have c0 := nad_cells (HBX.out w1 HY1.out) 0 _ rfl; have c1 := nad_cells (HBX.out w1 HY1.out) 1 _ rfl; have c2 := nad_cells (HBX.out w1 HY1.out) 2 _ rfl; have c3 := nad_cells (HBX.out w1 HY1.out) 3 _ rfl; have c5 := nad_cells (HBX.out w1 HY1.out) 5 _ rfl; clear hw1 hf1) | (go_at_call 22; with_reducible refine (HC2.out _ HX1.out HY1.out).mono ?_; clear c0 c1 c2 c3 c5; rintro e w1 ⟨rfl, hw1, hf1⟩; have HX2 := Lib.hid hw1; have HY2 := Lib.hid (HY1.out.trans hf1); clear hw1 hf1))
  all_goals (go_end0; exact ⟨rfl, by rw [← HO.out]; exact HX2.out, HFA.out.trans HY2.out⟩)
set_option maxHeartbeats 2000000 in
set_option maxRecDepth 100000 in
theorem nuc_2_1 {α : Type} (K : World → α → List Value → Prop) (f : List α → List UInt8) (G : List α → Prop) (w0 : World) (b : Nat) (hT : LexTabs w0) (hF : LC K f G w0 b)
    (a1 a2 a4 : Int) (ps : List (List α)) (Ap : Option Addr) (cp : Nat) (Ar : Option Addr) (rs : List Int) (cr : Nat) (b1 b2 : Bool) (Au : Option Addr) (lu cu : Nat) (Ab : Option Addr) (lb cb : Nat) (out : List UInt8) (w : World) (hG : ∀ p ∈ ps, G p)
    (hp : rdS (fun l cs => ∃ v, cs = [v] ∧ rdS (K w0) 11 w0 v l) 1 w0 (.slice Ap ps.length cp) (ps : List (List α))) (hr : rdS (fun (n : Int) cs => cs = [.int .i64 n] ∧ inI n) 1 w0 (.slice Ar rs.length cr) rs)
    (hps : ps.length ≤ 2000000) (hw : Wb w0.heap.size b out w) (hb : Below w0.heap.size w0 w) (T : List UInt8) (hTX : T = (92 :: [102, 114, 97, 99]) ++ bracesL f ps) (hlen : out.length + T.length ≤ 140737488355328) :
    Calls Tryd.prog 20 #[.pointer (some ⟨b, 0, none⟩), .agg #[.int .i64 2, .int .i64 a1, .int .i64 a2, .int .i64 1, .int .i64 a4, .slice Ap ps.length cp, .slice Ar rs.length cr, .bool b1, .bool b2, .slice Au lu cu, .slice Ab lb cb]] w fun e w' => e = .returned (.tuple #[]) ∧ Wb w0.heap.size b (out ++ T) w' ∧ Fr w0.heap.size b w w' := by
  obtain ⟨Wa, hWa⟩ : ∃ Wa, (w.alloc (Obj.cells #[.int .i64 2, .int .i64 a1, .int .i64 a2, .int .i64 1, .int .i64 a4, .slice Ap ps.length cp, .slice Ar rs.length cr, .bool b1, .bool b2, .slice Au lu cu, .slice Ab lb cb] 33)).alloc (Obj.cells #[.string ⟨#[]⟩, .string ⟨#[]⟩, .string ⟨#[]⟩, .string ⟨#[]⟩, .string ⟨#[111, 118, 101, 114, 108, 105, 110, 101]⟩, .string ⟨#[117, 110, 100, 101, 114, 108, 105, 110, 101]⟩, .string ⟨#[]⟩, .string ⟨#[]⟩, .string ⟨#[]⟩, .string ⟨#[118, 99, 101, 110, 116, 101, 114]⟩, .string ⟨#[]⟩, .string ⟨#[]⟩] 62) = Wa := ⟨_, rfl⟩
  have hbox := (heap_alloc_old (w.alloc (Obj.cells #[.int .i64 2, .int .i64 a1, .int .i64 a2, .int .i64 1, .int .i64 a4, .slice Ap ps.length cp, .slice Ar rs.length cr, .bool b1, .bool b2, .slice Au lu cu, .slice Ab lb cb] 33)) (Obj.cells #[.string ⟨#[]⟩, .string ⟨#[]⟩, .string ⟨#[]⟩, .string ⟨#[]⟩, .string ⟨#[111, 118, 101, 114, 108, 105, 110, 101]⟩, .string ⟨#[117, 110, 100, 101, 114, 108, 105, 110, 101]⟩, .string ⟨#[]⟩, .string ⟨#[]⟩, .string ⟨#[]⟩, .string ⟨#[118, 99, 101, 110, 116, 101, 114]⟩, .string ⟨#[]⟩, .string ⟨#[]⟩] 62) (show w.heap.size < _ by simp)).trans (heap_alloc_new w (Obj.cells #[.int .i64 2, .int .i64 a1, .int .i64 a2, .int .i64 1, .int .i64 a4, .slice Ap ps.length cp, .slice Ar rs.length cr, .bool b1, .bool b2, .slice Au lu cu, .slice Ab lb cb] 33))
  have hsim := heap_alloc_new (w.alloc (Obj.cells #[.int .i64 2, .int .i64 a1, .int .i64 a2, .int .i64 1, .int .i64 a4, .slice Ap ps.length cp, .slice Ar rs.length cr, .bool b1, .bool b2, .slice Au lu cu, .slice Ab lb cb] 33)) (Obj.cells #[.string ⟨#[]⟩, .string ⟨#[]⟩, .string ⟨#[]⟩, .string ⟨#[]⟩, .string ⟨#[111, 118, 101, 114, 108, 105, 110, 101]⟩, .string ⟨#[117, 110, 100, 101, 114, 108, 105, 110, 101]⟩, .string ⟨#[]⟩, .string ⟨#[]⟩, .string ⟨#[]⟩, .string ⟨#[118, 99, 101, 110, 116, 101, 114]⟩, .string ⟨#[]⟩, .string ⟨#[]⟩] 62)
  have hFA := ((Fr.refl w0.heap.size b w).alloc hb.size (Obj.cells #[.int .i64 2, .int .i64 a1, .int .i64 a2, .int .i64 1, .int .i64 a4, .slice Ap ps.length cp, .slice Ar rs.length cr, .bool b1, .bool b2, .slice Au lu cu, .slice Ab lb cb] 33)).alloc hb.size (Obj.cells #[.string ⟨#[]⟩, .string ⟨#[]⟩, .string ⟨#[]⟩, .string ⟨#[]⟩, .string ⟨#[111, 118, 101, 114, 108, 105, 110, 101]⟩, .string ⟨#[117, 110, 100, 101, 114, 108, 105, 110, 101]⟩, .string ⟨#[]⟩, .string ⟨#[]⟩, .string ⟨#[]⟩, .string ⟨#[118, 99, 101, 110, 116, 101, 114]⟩, .string ⟨#[]⟩, .string ⟨#[]⟩] 62)
  have hwa := (hw.alloc (Obj.cells #[.int .i64 2, .int .i64 a1, .int .i64 a2, .int .i64 1, .int .i64 a4, .slice Ap ps.length cp, .slice Ar rs.length cr, .bool b1, .bool b2, .slice Au lu cu, .slice Ab lb cb] 33)).alloc (Obj.cells #[.string ⟨#[]⟩, .string ⟨#[]⟩, .string ⟨#[]⟩, .string ⟨#[]⟩, .string ⟨#[111, 118, 101, 114, 108, 105, 110, 101]⟩, .string ⟨#[117, 110, 100, 101, 114, 108, 105, 110, 101]⟩, .string ⟨#[]⟩, .string ⟨#[]⟩, .string ⟨#[]⟩, .string ⟨#[118, 99, 101, 110, 116, 101, 114]⟩, .string ⟨#[]⟩, .string ⟨#[]⟩] 62)
  rw [hWa] at hbox hFA hwa hsim
  rw [show (w.alloc (Obj.cells #[.int .i64 2, .int .i64 a1, .int .i64 a2, .int .i64 1, .int .i64 a4, .slice Ap ps.length cp, .slice Ar rs.length cr, .bool b1, .bool b2, .slice Au lu cu, .slice Ab lb cb] 33)).heap.size = w.heap.size + 1 by simp] at hsim
  have HBX : Hid (∀ w2, Fr w0.heap.size b Wa w2 → _) := Lib.hid fun w2 hf => box_kept hbox hw hf
  have HFA := Lib.hid hFA
  have HX0 := Lib.hid hwa
  have HFF := Lib.hid hF
  have HGG := Lib.hid hG
  have HP := Lib.hid hp
  have HR := Lib.hid hr
  have HL := Lib.hid hlen
  have HTT := Lib.hid hT
  have HTX := Lib.hid hTX
  have HSM := Lib.hid hsim
  have HPS := Lib.hid hps
  have HB := Lib.hid (hb.trans hFA.below)
  have HY0 := Lib.hid (Fr.refl w0.heap.size b Wa)
  obtain ⟨k, hk⟩ : ∃ k, w.heap.size = k := ⟨_, rfl⟩
  rw [hk] at HBX HSM
  clear hF hG hp hr hb hlen hT hw hwa hFA hbox hTX hsim hps
  obtain ⟨O0, hO0⟩ : ∃ O0, out = O0 := ⟨_, rfl⟩
  rw [hO0] at HX0
  obtain ⟨O1, hO1⟩ : ∃ O1, O0 ++ (92 :: [102, 114, 97, 99]) = O1 := ⟨_, rfl⟩
  obtain ⟨O2, hO2⟩ : ∃ O2, O1 ++ bracesL f ps = O2 := ⟨_, rfl⟩
  have HO : Hid (O2 = out ++ T) := Lib.hid (by rw [← hO2, ← hO1, ← hO0, HTX.out]; try simp)
  have HLL1 : Hid (O0.length + ((92 :: [102, 114, 97, 99]) : List UInt8).length ≤ 140737488355328) := Lib.hid (by
    have h1 := congrArg List.length HO.out
    have h2 := HL.out
    have g1 := congrArg List.length hO1
    have g2 := congrArg List.length hO2
    simp only [List.length_append, List.length_cons, List.length_nil] at h1 h2 g1 g2 ⊢
    omega)
  have HLL2 : Hid (O1.length + (bracesL f ps : List UInt8).length ≤ 140737488355328) := Lib.hid (by
    have h1 := congrArg List.length HO.out
    have h2 := HL.out
    have g1 := congrArg List.length hO1
    have g2 := congrArg List.length hO2
    simp only [List.length_append, List.length_cons, List.length_nil] at h1 h2 g1 g2 ⊢
    omega)
  have HC1 : Hid (∀ w1 : World, Wb w0.heap.size b O0 w1 → Fr w0.heap.size b Wa w1 → _) := Lib.hid fun w1 hw1 hf1 => sw_word w0.heap.size b O0 ⟨#[102, 114, 97, 99]⟩ [102, 114, 97, 99] rfl w1 hw1 (by have := HLL1.out; simp only [List.length_append, List.length_cons, List.length_nil] at this ⊢; omega) (hf1.size HB.out.size)
  rw [hO1] at HC1
  have HC2 : Hid (∀ w1 : World, Wb w0.heap.size b O1 w1 → Fr w0.heap.size b Wa w1 → _) := Lib.hid fun w1 hw1 hf1 => braces_calls K f G w0 b HFF.out ps Ap cp O1 w1 HGG.out (parts_hp HP.out (HB.out.trans hf1.below)) HPS.out hw1 (HB.out.trans hf1.below) HLL2.out
  rw [hO2] at HC2
  have HHO := Lib.hid (And.intro hO0 trivial)
  clear hO0 hO1 hO2 HHO
  have HWE := Lib.hid hWa
  have HK := Lib.hid hk
  clear hWa hk
  have hix := (fun w : World => (show (Instr.index 65 (.agg #[.string ⟨#[97, 116, 111, 112]⟩, .string ⟨#[102, 114, 97, 99]⟩]) (.int .i64 1)).run Tryd.prog w = .ok (.string ⟨#[102, 114, 97, 99]⟩) w from idx_run _ 9 2 _ 1 _ w Tryd.underlying65 (Tryd.sizeOf9 w) (by decide) rfl (Tryd.isAgg9 w)))
  go_enter Tryd.func20, Tryd.ntmps20
  go_upto_region 2 with fail
  rw [HWE.out, HK.out]
  have c0 := nad_cells (HBX.out Wa (Fr.refl _ _ _)) 0 _ rfl
  have c1 := nad_cells (HBX.out Wa (Fr.refl _ _ _)) 1 _ rfl
  have c2 := nad_cells (HBX.out Wa (Fr.refl _ _ _)) 2 _ rfl
  have c3 := nad_cells (HBX.out Wa (Fr.refl _ _ _)) 3 _ rfl
  have c4 := nad_cells (HBX.out Wa (Fr.refl _ _ _)) 4 _ rfl
  have c5 := nad_cells (HBX.out Wa (Fr.refl _ _ _)) 5 _ rfl
  have c6 := nad_cells (HBX.out Wa (Fr.refl _ _ _)) 6 _ rfl
  have c7 := nad_cells (HBX.out Wa (Fr.refl _ _ _)) 7 _ rfl
  have c8 := nad_cells (HBX.out Wa (Fr.refl _ _ _)) 8 _ rfl
  have c9 := nad_cells (HBX.out Wa (Fr.refl _ _ _)) 9 _ rfl
  have c10 := nad_cells (HBX.out Wa (Fr.refl _ _ _)) 10 _ rfl
  go_wp2_with (first | (go_at_call 19; with_reducible refine (HC1.out _ HX0.out HY0.out).mono ?_; clear c0 c1 c2 c3 c5; rintro e w1 ⟨rfl, hw1, hf1⟩; have HX1 := Lib.hid hw1; have HY1 := Lib.hid (HY0.out.trans hf1); have c0 := nad_cells (HBX.out w1 HY1.out) 0 _ rfl; have c1 := nad_cells (HBX.out w1 HY1.out) 1 _ rfl; have c2 := nad_cells (HBX.out w1 HY1.out) 2 _ rfl; have c3 := nad_cells (HBX.out w1 HY1.out) 3 _ rfl; have c5 := nad_cells (HBX.out w1 HY1.out) 5 _ rfl; clear hw1 hf1) | (go_at_call 22; with_reducible refine (HC2.out _ HX1.out HY1.out).mono ?_; clear c0 c1 c2 c3 c5; rintro e w1 ⟨rfl, hw1, hf1⟩; have HX2 := Lib.hid hw1; have HY2 := Lib.hid (HY1.out.trans hf1); clear hw1 hf1))
  all_goals (go_end0; exact ⟨rfl, by rw [← HO.out]; exact HX2.out, HFA.out.trans HY2.out⟩)
set_option maxHeartbeats 2000000 in
set_option maxRecDepth 100000 in
theorem nuc_3_1 {α : Type} (K : World → α → List Value → Prop) (f : List α → List UInt8) (G : List α → Prop) (w0 : World) (b : Nat) (hT : LexTabs w0) (hF : LC K f G w0 b)
    (a1 a2 a3 a4 : Int) (p0 : List α) (Ap : Option Addr) (cp : Nat) (Ar : Option Addr) (rs : List Int) (cr : Nat) (b1 b2 : Bool) (Au : Option Addr) (lu cu : Nat) (Ab : Option Addr) (lb cb : Nat) (out : List UInt8) (w : World) (hG : ∀ p ∈ [p0], G p)
    (hp : rdS (fun l cs => ∃ v, cs = [v] ∧ rdS (K w0) 11 w0 v l) 1 w0 (.slice Ap 1 cp) ([p0] : List (List α))) (hr : rdS (fun (n : Int) cs => cs = [.int .i64 n] ∧ inI n) 1 w0 (.slice Ar rs.length cr) rs)
    (hps : 1 ≤ 2000000) (hw : Wb w0.heap.size b out w) (hb : Below w0.heap.size w0 w) (T : List UInt8) (hTX : T = (92 :: [115, 113, 114, 116]) ++ ([] ++ bracesL f [p0])) (hlen : out.length + T.length ≤ 140737488355328) :
    Calls Tryd.prog 20 #[.pointer (some ⟨b, 0, none⟩), .agg #[.int .i64 3, .int .i64 a1, .int .i64 a2, .int .i64 a3, .int .i64 a4, .slice Ap 1 cp, .slice Ar rs.length cr, .bool b1, .bool b2, .slice Au lu cu, .slice Ab lb cb]] w fun e w' => e = .returned (.tuple #[]) ∧ Wb w0.heap.size b (out ++ T) w' ∧ Fr w0.heap.size b w w' := by
  obtain ⟨Wa, hWa⟩ : ∃ Wa, (w.alloc (Obj.cells #[.int .i64 3, .int .i64 a1, .int .i64 a2, .int .i64 a3, .int .i64 a4, .slice Ap 1 cp, .slice Ar rs.length cr, .bool b1, .bool b2, .slice Au lu cu, .slice Ab lb cb] 33)).alloc (Obj.cells #[.string ⟨#[]⟩, .string ⟨#[]⟩, .string ⟨#[]⟩, .string ⟨#[]⟩, .string ⟨#[111, 118, 101, 114, 108, 105, 110, 101]⟩, .string ⟨#[117, 110, 100, 101, 114, 108, 105, 110, 101]⟩, .string ⟨#[]⟩, .string ⟨#[]⟩, .string ⟨#[]⟩, .string ⟨#[118, 99, 101, 110, 116, 101, 114]⟩, .string ⟨#[]⟩, .string ⟨#[]⟩] 62) = Wa := ⟨_, rfl⟩
  have hbox := (heap_alloc_old (w.alloc (Obj.cells #[.int .i64 3, .int .i64 a1, .int .i64 a2, .int .i64 a3, .int .i64 a4, .slice Ap 1 cp, .slice Ar rs.length cr, .bool b1, .bool b2, .slice Au lu cu, .slice Ab lb cb] 33)) (Obj.cells #[.string ⟨#[]⟩, .string ⟨#[]⟩, .string ⟨#[]⟩, .string ⟨#[]⟩, .string ⟨#[111, 118, 101, 114, 108, 105, 110, 101]⟩, .string ⟨#[117, 110, 100, 101, 114, 108, 105, 110, 101]⟩, .string ⟨#[]⟩, .string ⟨#[]⟩, .string ⟨#[]⟩, .string ⟨#[118, 99, 101, 110, 116, 101, 114]⟩, .string ⟨#[]⟩, .string ⟨#[]⟩] 62) (show w.heap.size < _ by simp)).trans (heap_alloc_new w (Obj.cells #[.int .i64 3, .int .i64 a1, .int .i64 a2, .int .i64 a3, .int .i64 a4, .slice Ap 1 cp, .slice Ar rs.length cr, .bool b1, .bool b2, .slice Au lu cu, .slice Ab lb cb] 33))
  have hsim := heap_alloc_new (w.alloc (Obj.cells #[.int .i64 3, .int .i64 a1, .int .i64 a2, .int .i64 a3, .int .i64 a4, .slice Ap 1 cp, .slice Ar rs.length cr, .bool b1, .bool b2, .slice Au lu cu, .slice Ab lb cb] 33)) (Obj.cells #[.string ⟨#[]⟩, .string ⟨#[]⟩, .string ⟨#[]⟩, .string ⟨#[]⟩, .string ⟨#[111, 118, 101, 114, 108, 105, 110, 101]⟩, .string ⟨#[117, 110, 100, 101, 114, 108, 105, 110, 101]⟩, .string ⟨#[]⟩, .string ⟨#[]⟩, .string ⟨#[]⟩, .string ⟨#[118, 99, 101, 110, 116, 101, 114]⟩, .string ⟨#[]⟩, .string ⟨#[]⟩] 62)
  have hFA := ((Fr.refl w0.heap.size b w).alloc hb.size (Obj.cells #[.int .i64 3, .int .i64 a1, .int .i64 a2, .int .i64 a3, .int .i64 a4, .slice Ap 1 cp, .slice Ar rs.length cr, .bool b1, .bool b2, .slice Au lu cu, .slice Ab lb cb] 33)).alloc hb.size (Obj.cells #[.string ⟨#[]⟩, .string ⟨#[]⟩, .string ⟨#[]⟩, .string ⟨#[]⟩, .string ⟨#[111, 118, 101, 114, 108, 105, 110, 101]⟩, .string ⟨#[117, 110, 100, 101, 114, 108, 105, 110, 101]⟩, .string ⟨#[]⟩, .string ⟨#[]⟩, .string ⟨#[]⟩, .string ⟨#[118, 99, 101, 110, 116, 101, 114]⟩, .string ⟨#[]⟩, .string ⟨#[]⟩] 62)
  have hwa := (hw.alloc (Obj.cells #[.int .i64 3, .int .i64 a1, .int .i64 a2, .int .i64 a3, .int .i64 a4, .slice Ap 1 cp, .slice Ar rs.length cr, .bool b1, .bool b2, .slice Au lu cu, .slice Ab lb cb] 33)).alloc (Obj.cells #[.string ⟨#[]⟩, .string ⟨#[]⟩, .string ⟨#[]⟩, .string ⟨#[]⟩, .string ⟨#[111, 118, 101, 114, 108, 105, 110, 101]⟩, .string ⟨#[117, 110, 100, 101, 114, 108, 105, 110, 101]⟩, .string ⟨#[]⟩, .string ⟨#[]⟩, .string ⟨#[]⟩, .string ⟨#[118, 99, 101, 110, 116, 101, 114]⟩, .string ⟨#[]⟩, .string ⟨#[]⟩] 62)
  rw [hWa] at hbox hFA hwa hsim
  rw [show (w.alloc (Obj.cells #[.int .i64 3, .int .i64 a1, .int .i64 a2, .int .i64 a3, .int .i64 a4, .slice Ap 1 cp, .slice Ar rs.length cr, .bool b1, .bool b2, .slice Au lu cu, .slice Ab lb cb] 33)).heap.size = w.heap.size + 1 by simp] at hsim
  have HBX : Hid (∀ w2, Fr w0.heap.size b Wa w2 → _) := Lib.hid fun w2 hf => box_kept hbox hw hf
  have HFA := Lib.hid hFA
  have HX0 := Lib.hid hwa
  have HFF := Lib.hid hF
  have HGG := Lib.hid hG
  have HP := Lib.hid hp
  have HR := Lib.hid hr
  have HL := Lib.hid hlen
  have HTT := Lib.hid hT
  have HTX := Lib.hid hTX
  have HSM := Lib.hid hsim
  have HPS := Lib.hid hps
  have HB := Lib.hid (hb.trans hFA.below)
  have HY0 := Lib.hid (Fr.refl w0.heap.size b Wa)
  obtain ⟨k, hk⟩ : ∃ k, w.heap.size = k := ⟨_, rfl⟩
  rw [hk] at HBX HSM
  clear hF hG hp hr hb hlen hT hw hwa hFA hbox hTX hsim hps
  obtain ⟨O0, hO0⟩ : ∃ O0, out = O0 := ⟨_, rfl⟩
  rw [hO0] at HX0
  obtain ⟨O1, hO1⟩ : ∃ O1, O0 ++ (92 :: [115, 113, 114, 116]) = O1 := ⟨_, rfl⟩
  obtain ⟨O2, hO2⟩ : ∃ O2, O1 ++ [] = O2 := ⟨_, rfl⟩
  obtain ⟨O3, hO3⟩ : ∃ O3, O2 ++ bracesL f [p0] = O3 := ⟨_, rfl⟩
  have HO : Hid (O3 = out ++ T) := Lib.hid (by rw [← hO3, ← hO2, ← hO1, ← hO0, HTX.out]; try simp)
  have HLL1 : Hid (O0.length + ((92 :: [115, 113, 114, 116]) : List UInt8).length ≤ 140737488355328) := Lib.hid (by
    have h1 := congrArg List.length HO.out
    have h2 := HL.out
    have g1 := congrArg List.length hO1
    have g2 := congrArg List.length hO2
    have g3 := congrArg List.length hO3
    simp only [List.length_append, List.length_cons, List.length_nil] at h1 h2 g1 g2 g3 ⊢
    omega)
  have HLL2 : Hid (O1.length + ([] : List UInt8).length ≤ 140737488355328) := Lib.hid (by
    have h1 := congrArg List.length HO.out
    have h2 := HL.out
    have g1 := congrArg List.length hO1
    have g2 := congrArg List.length hO2
    have g3 := congrArg List.length hO3
    simp only [List.length_append, List.length_cons, List.length_nil] at h1 h2 g1 g2 g3 ⊢
    omega)
  have HLL3 : Hid (O2.length + (bracesL f [p0] : List UInt8).length ≤ 140737488355328) := Lib.hid (by
    have h1 := congrArg List.length HO.out
    have h2 := HL.out
    have g1 := congrArg List.length hO1
    have g2 := congrArg List.length hO2
    have g3 := congrArg List.length hO3
    simp only [List.length_append, List.length_cons, List.length_nil] at h1 h2 g1 g2 g3 ⊢
    omega)
  have HC1 : Hid (∀ w1 : World, Wb w0.heap.size b O0 w1 → Fr w0.heap.size b Wa w1 → _) := Lib.hid fun w1 hw1 hf1 => sw_word w0.heap.size b O0 ⟨#[115, 113, 114, 116]⟩ [115, 113, 114, 116] rfl w1 hw1 (by have := HLL1.out; simp only [List.length_append, List.length_cons, List.length_nil] at this ⊢; omega) (hf1.size HB.out.size)
  rw [hO1] at HC1
  have HHO := Lib.hid (And.intro hO0 trivial)
  have HOO2 := Lib.hid hO2
  have HOO3 := Lib.hid hO3
  clear hO0 hO1 hO2 hO3 HHO
  have HWE := Lib.hid hWa
  have HK := Lib.hid hk
  clear hWa hk
  have hix := (fun w : World => (show (Instr.index 65 (.agg #[.string ⟨#[115, 113, 114, 116]⟩, .string ⟨#[114, 111, 111, 116]⟩]) (.int .i64 0)).run Tryd.prog w = .ok (.string ⟨#[115, 113, 114, 116]⟩) w from idx_run _ 9 2 _ 0 _ w Tryd.underlying65 (Tryd.sizeOf9 w) (by decide) rfl (Tryd.isAgg9 w)))
  obtain ⟨ap, v0, rfl, hc0, hv0⟩ := part_at (l := [p0]) HP.out 0 p0 rfl
  have hc00 : w0.cell? ap = some v0 := by simpa [Addr.add] using hc0
  have HV0 := Lib.hid hv0
  have HCC0 := Lib.hid hc00
  obtain ⟨A0, n0, rfl⟩ := slice_is hv0
  clear hv0 hc0 hc00
  have HC2 : Hid (∀ (A : Option Addr) (c : Nat) (w1 : World), Wb w0.heap.size b O1 w1 → Fr w0.heap.size b Wa w1 → Calls Tryd.prog 22 #[.pointer (some ⟨b, 0, none⟩), .slice A 0 c] w1 fun e w' => e = .returned (.tuple #[]) ∧ Wb w0.heap.size b O2 w' ∧ Fr w0.heap.size b w1 w') := Lib.hid fun A c w1 hw1 hf1 => by
    have h := braces_calls K f G w0 b HFF.out [] A c O1 w1 (fun p h => by cases h) (fun i h => by simp at h) (by simp) hw1 (HB.out.trans hf1.below) HLL2.out
    rw [show O1 ++ bracesL f [] = O2 from HOO2.out] at h
    exact h
  have HC3 : Hid (∀ w1 : World, Wb w0.heap.size b O2 w1 → Fr w0.heap.size b Wa w1 → _) := Lib.hid fun w1 hw1 hf1 => one_braces K f G w0 b HFF.out p0 _ O2 w1 (HGG.out _ (by simp)) HV0.out hw1 (HB.out.trans hf1.below) HLL3.out
  rw [HOO3.out] at HC3
  go_enter Tryd.func20, Tryd.ntmps20
  go_upto_region 2 with fail
  rw [HWE.out, HK.out]
  have c0 := nad_cells (HBX.out Wa (Fr.refl _ _ _)) 0 _ rfl
  have c1 := nad_cells (HBX.out Wa (Fr.refl _ _ _)) 1 _ rfl
  have c2 := nad_cells (HBX.out Wa (Fr.refl _ _ _)) 2 _ rfl
  have c3 := nad_cells (HBX.out Wa (Fr.refl _ _ _)) 3 _ rfl
  have c4 := nad_cells (HBX.out Wa (Fr.refl _ _ _)) 4 _ rfl
  have c5 := nad_cells (HBX.out Wa (Fr.refl _ _ _)) 5 _ rfl
  have c6 := nad_cells (HBX.out Wa (Fr.refl _ _ _)) 6 _ rfl
  have c7 := nad_cells (HBX.out Wa (Fr.refl _ _ _)) 7 _ rfl
  have c8 := nad_cells (HBX.out Wa (Fr.refl _ _ _)) 8 _ rfl
  have c9 := nad_cells (HBX.out Wa (Fr.refl _ _ _)) 9 _ rfl
  have c10 := nad_cells (HBX.out Wa (Fr.refl _ _ _)) 10 _ rfl
  go_wp2_with (first | (go_at_call 19; with_reducible refine (HC1.out _ HX0.out HY0.out).mono ?_; clear c0 c1 c2 c3 c5; rintro e w1 ⟨rfl, hw1, hf1⟩; have HX1 := Lib.hid hw1; have HY1 := Lib.hid (HY0.out.trans hf1); have c0 := nad_cells (HBX.out w1 HY1.out) 0 _ rfl; have c1 := nad_cells (HBX.out w1 HY1.out) 1 _ rfl; have c2 := nad_cells (HBX.out w1 HY1.out) 2 _ rfl; have c3 := nad_cells (HBX.out w1 HY1.out) 3 _ rfl; have c5 := nad_cells (HBX.out w1 HY1.out) 5 _ rfl; have r0 := ((HB.out.trans HY1.out.below).cell (World.block_lt_of_cell? w0 _ HCC0.out)).trans HCC0.out; clear hw1 hf1) | (go_at_call 22; with_reducible refine (HC2.out _ _ _ HX1.out HY1.out).mono ?_; clear c0 c1 c2 c3 c5; rintro e w1 ⟨rfl, hw1, hf1⟩; have HX2 := Lib.hid hw1; have HY2 := Lib.hid (HY1.out.trans hf1); have c0 := nad_cells (HBX.out w1 HY2.out) 0 _ rfl; have c1 := nad_cells (HBX.out w1 HY2.out) 1 _ rfl; have c2 := nad_cells (HBX.out w1 HY2.out) 2 _ rfl; have c3 := nad_cells (HBX.out w1 HY2.out) 3 _ rfl; have c5 := nad_cells (HBX.out w1 HY2.out) 5 _ rfl; have r0 := ((HB.out.trans HY2.out.below).cell (World.block_lt_of_cell? w0 _ HCC0.out)).trans HCC0.out; clear hw1 hf1) | (go_at_call 22; with_reducible refine (HC3.out _ HX2.out HY2.out).mono ?_; clear c0 c1 c2 c3 c5; rintro e w1 ⟨rfl, hw1, hf1⟩; have HX3 := Lib.hid hw1; have HY3 := Lib.hid (HY2.out.trans hf1); clear hw1 hf1))
  all_goals (go_end0; exact ⟨rfl, by rw [← HO.out]; exact HX3.out, HFA.out.trans HY3.out⟩)
set_option maxHeartbeats 2000000 in
set_option maxRecDepth 100000 in
theorem nuc_3_2 {α : Type} (K : World → α → List Value → Prop) (f : List α → List UInt8) (G : List α → Prop) (w0 : World) (b : Nat) (hT : LexTabs w0) (hF : LC K f G w0 b)
    (a1 a2 a3 a4 : Int) (p0 p1 : List α) (Ap : Option Addr) (cp : Nat) (Ar : Option Addr) (rs : List Int) (cr : Nat) (b1 b2 : Bool) (Au : Option Addr) (lu cu : Nat) (Ab : Option Addr) (lb cb : Nat) (out : List UInt8) (w : World) (hG : ∀ p ∈ [p0, p1], G p)
    (hp : rdS (fun l cs => ∃ v, cs = [v] ∧ rdS (K w0) 11 w0 v l) 1 w0 (.slice Ap 2 cp) ([p0, p1] : List (List α))) (hr : rdS (fun (n : Int) cs => cs = [.int .i64 n] ∧ inI n) 1 w0 (.slice Ar rs.length cr) rs)
    (hps : 2 ≤ 2000000) (hw : Wb w0.heap.size b out w) (hb : Below w0.heap.size w0 w) (T : List UInt8) (hTX : T = (92 :: [114, 111, 111, 116]) ++ (bracesL f [p1] ++ bracesL f [p0])) (hlen : out.length + T.length ≤ 140737488355328) :
    Calls Tryd.prog 20 #[.pointer (some ⟨b, 0, none⟩), .agg #[.int .i64 3, .int .i64 a1, .int .i64 a2, .int .i64 a3, .int .i64 a4, .slice Ap 2 cp, .slice Ar rs.length cr, .bool b1, .bool b2, .slice Au lu cu, .slice Ab lb cb]] w fun e w' => e = .returned (.tuple #[]) ∧ Wb w0.heap.size b (out ++ T) w' ∧ Fr w0.heap.size b w w' := by
  obtain ⟨Wa, hWa⟩ : ∃ Wa, (w.alloc (Obj.cells #[.int .i64 3, .int .i64 a1, .int .i64 a2, .int .i64 a3, .int .i64 a4, .slice Ap 2 cp, .slice Ar rs.length cr, .bool b1, .bool b2, .slice Au lu cu, .slice Ab lb cb] 33)).alloc (Obj.cells #[.string ⟨#[]⟩, .string ⟨#[]⟩, .string ⟨#[]⟩, .string ⟨#[]⟩, .string ⟨#[111, 118, 101, 114, 108, 105, 110, 101]⟩, .string ⟨#[117, 110, 100, 101, 114, 108, 105, 110, 101]⟩, .string ⟨#[]⟩, .string ⟨#[]⟩, .string ⟨#[]⟩, .string ⟨#[118, 99, 101, 110, 116, 101, 114]⟩, .string ⟨#[]⟩, .string ⟨#[]⟩] 62) = Wa := ⟨_, rfl⟩
  have hbox := (heap_alloc_old (w.alloc (Obj.cells #[.int .i64 3, .int .i64 a1, .int .i64 a2, .int .i64 a3, .int .i64 a4, .slice Ap 2 cp, .slice Ar rs.length cr, .bool b1, .bool b2, .slice Au lu cu, .slice Ab lb cb] 33)) (Obj.cells #[.string ⟨#[]⟩, .string ⟨#[]⟩, .string ⟨#[]⟩, .string ⟨#[]⟩, .string ⟨#[111, 118, 101, 114, 108, 105, 110, 101]⟩, .string ⟨#[117, 110, 100, 101, 114, 108, 105, 110, 101]⟩, .string ⟨#[]⟩, .string ⟨#[]⟩, .string ⟨#[]⟩, .string ⟨#[118, 99, 101, 110, 116, 101, 114]⟩, .string ⟨#[]⟩, .string ⟨#[]⟩] 62) (show w.heap.size < _ by simp)).trans (heap_alloc_new w (Obj.cells #[.int .i64 3, .int .i64 a1, .int .i64 a2, .int .i64 a3, .int .i64 a4, .slice Ap 2 cp, .slice Ar rs.length cr, .bool b1, .bool b2, .slice Au lu cu, .slice Ab lb cb] 33))
  have hsim := heap_alloc_new (w.alloc (Obj.cells #[.int .i64 3, .int .i64 a1, .int .i64 a2, .int .i64 a3, .int .i64 a4, .slice Ap 2 cp, .slice Ar rs.length cr, .bool b1, .bool b2, .slice Au lu cu, .slice Ab lb cb] 33)) (Obj.cells #[.string ⟨#[]⟩, .string ⟨#[]⟩, .string ⟨#[]⟩, .string ⟨#[]⟩, .string ⟨#[111, 118, 101, 114, 108, 105, 110, 101]⟩, .string ⟨#[117, 110, 100, 101, 114, 108, 105, 110, 101]⟩, .string ⟨#[]⟩, .string ⟨#[]⟩, .string ⟨#[]⟩, .string ⟨#[118, 99, 101, 110, 116, 101, 114]⟩, .string ⟨#[]⟩, .string ⟨#[]⟩] 62)
  have hFA := ((Fr.refl w0.heap.size b w).alloc hb.size (Obj.cells #[.int .i64 3, .int .i64 a1, .int .i64 a2, .int .i64 a3, .int .i64 a4, .slice Ap 2 cp, .slice Ar rs.length cr, .bool b1, .bool b2, .slice Au lu cu, .slice Ab lb cb] 33)).alloc hb.size (Obj.cells #[.string ⟨#[]⟩, .string ⟨#[]⟩, .string ⟨#[]⟩, .string ⟨#[]⟩, .string ⟨#[111, 118, 101, 114, 108, 105, 110, 101]⟩, .string ⟨#[117, 110, 100, 101, 114, 108, 105, 110, 101]⟩, .string ⟨#[]⟩, .string ⟨#[]⟩, .string ⟨#[]⟩, .string ⟨#[118, 99, 101, 110, 116, 101, 114]⟩, .string ⟨#[]⟩, .string ⟨#[]⟩] 62)
  have hwa := (hw.alloc (Obj.cells #[.int .i64 3, .int .i64 a1, .int .i64 a2, .int .i64 a3, .int .i64 a4, .slice Ap 2 cp, .slice Ar rs.length cr, .bool b1, .bool b2, .slice Au lu cu, .slice Ab lb cb] 33)).alloc (Obj.cells #[.string ⟨#[]⟩, .string ⟨#[]⟩, .string ⟨#[]⟩, .string ⟨#[]⟩, .string ⟨#[111, 118, 101, 114, 108, 105, 110, 101]⟩, .string ⟨#[117, 110, 100, 101, 114, 108, 105, 110, 101]⟩, .string ⟨#[]⟩, .string ⟨#[]⟩, .string ⟨#[]⟩, .string ⟨#[118, 99, 101, 110, 116, 101, 114]⟩, .string ⟨#[]⟩, .string ⟨#[]⟩] 62)
  rw [hWa] at hbox hFA hwa hsim
  rw [show (w.alloc (Obj.cells #[.int .i64 3, .int .i64 a1, .int .i64 a2, .int .i64 a3, .int .i64 a4, .slice Ap 2 cp, .slice Ar rs.length cr, .bool b1, .bool b2, .slice Au lu cu, .slice Ab lb cb] 33)).heap.size = w.heap.size + 1 by simp] at hsim
  have HBX : Hid (∀ w2, Fr w0.heap.size b Wa w2 → _) := Lib.hid fun w2 hf => box_kept hbox hw hf
  have HFA := Lib.hid hFA
  have HX0 := Lib.hid hwa
  have HFF := Lib.hid hF
  have HGG := Lib.hid hG
  have HP := Lib.hid hp
  have HR := Lib.hid hr
  have HL := Lib.hid hlen
  have HTT := Lib.hid hT
  have HTX := Lib.hid hTX
  have HSM := Lib.hid hsim
  have HPS := Lib.hid hps
  have HB := Lib.hid (hb.trans hFA.below)
  have HY0 := Lib.hid (Fr.refl w0.heap.size b Wa)
  obtain ⟨k, hk⟩ : ∃ k, w.heap.size = k := ⟨_, rfl⟩
  rw [hk] at HBX HSM
  clear hF hG hp hr hb hlen hT hw hwa hFA hbox hTX hsim hps
  obtain ⟨O0, hO0⟩ : ∃ O0, out = O0 := ⟨_, rfl⟩
  rw [hO0] at HX0
  obtain ⟨O1, hO1⟩ : ∃ O1, O0 ++ (92 :: [114, 111, 111, 116]) = O1 := ⟨_, rfl⟩
  obtain ⟨O2, hO2⟩ : ∃ O2, O1 ++ bracesL f [p1] = O2 := ⟨_, rfl⟩
  obtain ⟨O3, hO3⟩ : ∃ O3, O2 ++ bracesL f [p0] = O3 := ⟨_, rfl⟩
  have HO : Hid (O3 = out ++ T) := Lib.hid (by rw [← hO3, ← hO2, ← hO1, ← hO0, HTX.out]; try simp)
  have HLL1 : Hid (O0.length + ((92 :: [114, 111, 111, 116]) : List UInt8).length ≤ 140737488355328) := Lib.hid (by
    have h1 := congrArg List.length HO.out
    have h2 := HL.out
    have g1 := congrArg List.length hO1
    have g2 := congrArg List.length hO2
    have g3 := congrArg List.length hO3
    simp only [List.length_append, List.length_cons, List.length_nil] at h1 h2 g1 g2 g3 ⊢
    omega)
  have HLL2 : Hid (O1.length + (bracesL f [p1] : List UInt8).length ≤ 140737488355328) := Lib.hid (by
    have h1 := congrArg List.length HO.out
    have h2 := HL.out
    have g1 := congrArg List.length hO1
    have g2 := congrArg List.length hO2
    have g3 := congrArg List.length hO3
    simp only [List.length_append, List.length_cons, List.length_nil] at h1 h2 g1 g2 g3 ⊢
    omega)
  have HLL3 : Hid (O2.length + (bracesL f [p0] : List UInt8).length ≤ 140737488355328) := Lib.hid (by
    have h1 := congrArg List.length HO.out
    have h2 := HL.out
    have g1 := congrArg List.length hO1
    have g2 := congrArg List.length hO2
    have g3 := congrArg List.length hO3
    simp only [List.length_append, List.length_cons, List.length_nil] at h1 h2 g1 g2 g3 ⊢
    omega)
  have HC1 : Hid (∀ w1 : World, Wb w0.heap.size b O0 w1 → Fr w0.heap.size b Wa w1 → _) := Lib.hid fun w1 hw1 hf1 => sw_word w0.heap.size b O0 ⟨#[114, 111, 111, 116]⟩ [114, 111, 111, 116] rfl w1 hw1 (by have := HLL1.out; simp only [List.length_append, List.length_cons, List.length_nil] at this ⊢; omega) (hf1.size HB.out.size)
  rw [hO1] at HC1
  have HHO := Lib.hid (And.intro hO0 trivial)
  have HOO2 := Lib.hid hO2
  have HOO3 := Lib.hid hO3
  clear hO0 hO1 hO2 hO3 HHO
  have HWE := Lib.hid hWa
  have HK := Lib.hid hk
  clear hWa hk
  have hix := (fun w : World => (show (Instr.index 65 (.agg #[.string ⟨#[115, 113, 114, 116]⟩, .string ⟨#[114, 111, 111, 116]⟩]) (.int .i64 1)).run Tryd.prog w = .ok (.string ⟨#[114, 111, 111, 116]⟩) w from idx_run _ 9 2 _ 1 _ w Tryd.underlying65 (Tryd.sizeOf9 w) (by decide) rfl (Tryd.isAgg9 w)))
  obtain ⟨ap, v0, rfl, hc0, hv0⟩ := part_at (l := [p0, p1]) HP.out 0 p0 rfl
  obtain ⟨ap1, v1, e1, hc1, hv1⟩ := part_at (l := [p0, p1]) HP.out 1 p1 rfl
  have hcp : 2 ≤ cp := by obtain ⟨_, _, e, hl, _⟩ := HP.out; injection e with _ _ e3; subst e3; simpa using hl
  have hcp1 : cp - 1 ≠ 0 := by omega
  have hcp2 : (cp - 1 == 0) = false := by simp; omega
  cases e1
  have HV1 := Lib.hid hv1
  have HCC1 := Lib.hid hc1
  have hc00 : w0.cell? ap = some v0 := by simpa [Addr.add] using hc0
  have HV0 := Lib.hid hv0
  have HCC0 := Lib.hid hc00
  obtain ⟨A0, n0, rfl⟩ := slice_is hv0
  clear hv0 hc0 hc00 hv1 hc1
  have HC2 : Hid (∀ (c : Nat) (w1 : World), Wb w0.heap.size b O1 w1 → Fr w0.heap.size b Wa w1 → Calls Tryd.prog 22 #[.pointer (some ⟨b, 0, none⟩), .slice (some ⟨ap.block, ap.off + 1, none⟩) 1 c] w1 fun e w' => e = .returned (.tuple #[]) ∧ Wb w0.heap.size b O2 w' ∧ Fr w0.heap.size b w1 w') := Lib.hid fun c w1 hw1 hf1 => by
    have h := braces_calls K f G w0 b HFF.out [p1] (some ⟨ap.block, ap.off + 1, none⟩) c O1 w1 (fun p h => HGG.out _ (by simp at h; simp [h])) (fun i h => by
      obtain rfl : i = 0 := by simp at h; omega
      exact ⟨_, v1, rfl, fun w2 hf2 => (by rw [show (⟨ap.block, ap.off + 1, none⟩ : Addr).add 0 = ap.add 1 by rw [field_addr ap (by decide)]; simp [Addr.add]]; exact ((HB.out.trans (hf1.trans hf2).below).cell (World.block_lt_of_cell? w0 _ HCC1.out)).trans HCC1.out), HV1.out⟩) (by simp) hw1 (HB.out.trans hf1.below) HLL2.out
    rw [HOO2.out] at h
    exact h
  have HC3 : Hid (∀ w1 : World, Wb w0.heap.size b O2 w1 → Fr w0.heap.size b Wa w1 → _) := Lib.hid fun w1 hw1 hf1 => one_braces K f G w0 b HFF.out p0 _ O2 w1 (HGG.out _ (by simp)) HV0.out hw1 (HB.out.trans hf1.below) HLL3.out
  rw [HOO3.out] at HC3
  go_enter Tryd.func20, Tryd.ntmps20
  go_upto_region 2 with fail
  rw [HWE.out, HK.out]
  have c0 := nad_cells (HBX.out Wa (Fr.refl _ _ _)) 0 _ rfl
  have c1 := nad_cells (HBX.out Wa (Fr.refl _ _ _)) 1 _ rfl
  have c2 := nad_cells (HBX.out Wa (Fr.refl _ _ _)) 2 _ rfl
  have c3 := nad_cells (HBX.out Wa (Fr.refl _ _ _)) 3 _ rfl
  have c4 := nad_cells (HBX.out Wa (Fr.refl _ _ _)) 4 _ rfl
  have c5 := nad_cells (HBX.out Wa (Fr.refl _ _ _)) 5 _ rfl
  have c6 := nad_cells (HBX.out Wa (Fr.refl _ _ _)) 6 _ rfl
  have c7 := nad_cells (HBX.out Wa (Fr.refl _ _ _)) 7 _ rfl
  have c8 := nad_cells (HBX.out Wa (Fr.refl _ _ _)) 8 _ rfl
  have c9 := nad_cells (HBX.out Wa (Fr.refl _ _ _)) 9 _ rfl
  have c10 := nad_cells (HBX.out Wa (Fr.refl _ _ _)) 10 _ rfl
  go_wp2_with (first | (go_at_call 19; with_reducible refine (HC1.out _ HX0.out HY0.out).mono ?_; clear c0 c1 c2 c3 c5; rintro e w1 ⟨rfl, hw1, hf1⟩; have HX1 := Lib.hid hw1; have HY1 := Lib.hid (HY0.out.trans hf1); have c0 := nad_cells (HBX.out w1 HY1.out) 0 _ rfl; have c1 := nad_cells (HBX.out w1 HY1.out) 1 _ rfl; have c2 := nad_cells (HBX.out w1 HY1.out) 2 _ rfl; have c3 := nad_cells (HBX.out w1 HY1.out) 3 _ rfl; have c5 := nad_cells (HBX.out w1 HY1.out) 5 _ rfl; have r0 := ((HB.out.trans HY1.out.below).cell (World.block_lt_of_cell? w0 _ HCC0.out)).trans HCC0.out; clear hw1 hf1) | (go_at_call 22; with_reducible refine (HC2.out _ _ HX1.out HY1.out).mono ?_; clear c0 c1 c2 c3 c5; rintro e w1 ⟨rfl, hw1, hf1⟩; have HX2 := Lib.hid hw1; have HY2 := Lib.hid (HY1.out.trans hf1); have c0 := nad_cells (HBX.out w1 HY2.out) 0 _ rfl; have c1 := nad_cells (HBX.out w1 HY2.out) 1 _ rfl; have c2 := nad_cells (HBX.out w1 HY2.out) 2 _ rfl; have c3 := nad_cells (HBX.out w1 HY2.out) 3 _ rfl; have c5 := nad_cells (HBX.out w1 HY2.out) 5 _ rfl; have r0 := ((HB.out.trans HY2.out.below).cell (World.block_lt_of_cell? w0 _ HCC0.out)).trans HCC0.out; clear hw1 hf1) | (go_at_call 22; with_reducible refine (HC3.out _ HX2.out HY2.out).mono ?_; clear c0 c1 c2 c3 c5; rintro e w1 ⟨rfl, hw1, hf1⟩; have HX3 := Lib.hid hw1; have HY3 := Lib.hid (HY2.out.trans hf1); clear hw1 hf1))
  all_goals (go_end0; exact ⟨rfl, by rw [← HO.out]; exact HX3.out, HFA.out.trans HY3.out⟩)
set_option maxHeartbeats 2000000 in
set_option maxRecDepth 100000 in
theorem nuc_4 {α : Type} (K : World → α → List Value → Prop) (f : List α → List UInt8) (G : List α → Prop) (w0 : World) (b : Nat) (hT : LexTabs w0) (hF : LC K f G w0 b)
    (a1 a2 a3 a4 : Int) (ps : List (List α)) (Ap : Option Addr) (cp : Nat) (Ar : Option Addr) (rs : List Int) (cr : Nat) (b1 b2 : Bool) (Au : Option Addr) (lu cu : Nat) (Ab : Option Addr) (lb cb : Nat) (out : List UInt8) (w : World) (hG : ∀ p ∈ ps, G p)
    (hp : rdS (fun l cs => ∃ v, cs = [v] ∧ rdS (K w0) 11 w0 v l) 1 w0 (.slice Ap ps.length cp) (ps : List (List α))) (hr : rdS (fun (n : Int) cs => cs = [.int .i64 n] ∧ inI n) 1 w0 (.slice Ar rs.length cr) rs)
    (hps : ps.length ≤ 2000000) (hw : Wb w0.heap.size b out w) (hb : Below w0.heap.size w0 w) (T : List UInt8) (hTX : T = (92 :: [111, 118, 101, 114, 108, 105, 110, 101]) ++ bracesL f ps) (hlen : out.length + T.length ≤ 140737488355328) :
    Calls Tryd.prog 20 #[.pointer (some ⟨b, 0, none⟩), .agg #[.int .i64 4, .int .i64 a1, .int .i64 a2, .int .i64 a3, .int .i64 a4, .slice Ap ps.length cp, .slice Ar rs.length cr, .bool b1, .bool b2, .slice Au lu cu, .slice Ab lb cb]] w fun e w' => e = .returned (.tuple #[]) ∧ Wb w0.heap.size b (out ++ T) w' ∧ Fr w0.heap.size b w w' := by
  obtain ⟨Wa, hWa⟩ : ∃ Wa, (w.alloc (Obj.cells #[.int .i64 4, .int .i64 a1, .int .i64 a2, .int .i64 a3, .int .i64 a4, .slice Ap ps.length cp, .slice Ar rs.length cr, .bool b1, .bool b2, .slice Au lu cu, .slice Ab lb cb] 33)).alloc (Obj.cells #[.string ⟨#[]⟩, .string ⟨#[]⟩, .string ⟨#[]⟩, .string ⟨#[]⟩, .string ⟨#[111, 118, 101, 114, 108, 105, 110, 101]⟩, .string ⟨#[117, 110, 100, 101, 114, 108, 105, 110, 101]⟩, .string ⟨#[]⟩, .string ⟨#[]⟩, .string ⟨#[]⟩, .string ⟨#[118, 99, 101, 110, 116, 101, 114]⟩, .string ⟨#[]⟩, .string ⟨#[]⟩] 62) = Wa := ⟨_, rfl⟩
  have hbox := (heap_alloc_old (w.alloc (Obj.cells #[.int .i64 4, .int .i64 a1, .int .i64 a2, .int .i64 a3, .int .i64 a4, .slice Ap ps.length cp, .slice Ar rs.length cr, .bool b1, .bool b2, .slice Au lu cu, .slice Ab lb cb] 33)) (Obj.cells #[.string ⟨#[]⟩, .string ⟨#[]⟩, .string ⟨#[]⟩, .string ⟨#[]⟩, .string ⟨#[111, 118, 101, 114, 108, 105, 110, 101]⟩, .string ⟨#[117, 110, 100, 101, 114, 108, 105, 110, 101]⟩, .string ⟨#[]⟩, .string ⟨#[]⟩, .string ⟨#[]⟩, .string ⟨#[118, 99, 101, 110, 116, 101, 114]⟩, .string ⟨#[]⟩, .string ⟨#[]⟩] 62) (show w.heap.size < _ by simp)).trans (heap_alloc_new w (Obj.cells #[.int .i64 4, .int .i64 a1, .int .i64 a2, .int .i64 a3, .int .i64 a4, .slice Ap ps.length cp, .slice Ar rs.length cr, .bool b1, .bool b2, .slice Au lu cu, .slice Ab lb cb] 33))
  have hsim := heap_alloc_new (w.alloc (Obj.cells #[.int .i64 4, .int .i64 a1, .int .i64 a2, .int .i64 a3, .int .i64 a4, .slice Ap ps.length cp, .slice Ar rs.length cr, .bool b1, .bool b2, .slice Au lu cu, .slice Ab lb cb] 33)) (Obj.cells #[.string ⟨#[]⟩, .string ⟨#[]⟩, .string ⟨#[]⟩, .string ⟨#[]⟩, .string ⟨#[111, 118, 101, 114, 108, 105, 110, 101]⟩, .string ⟨#[117, 110, 100, 101, 114, 108, 105, 110, 101]⟩, .string ⟨#[]⟩, .string ⟨#[]⟩, .string ⟨#[]⟩, .string ⟨#[118, 99, 101, 110, 116, 101, 114]⟩, .string ⟨#[]⟩, .string ⟨#[]⟩] 62)
  have hFA := ((Fr.refl w0.heap.size b w).alloc hb.size (Obj.cells #[.int .i64 4, .int .i64 a1, .int .i64 a2, .int .i64 a3, .int .i64 a4, .slice Ap ps.length cp, .slice Ar rs.length cr, .bool b1, .bool b2, .slice Au lu cu, .slice Ab lb cb] 33)).alloc hb.size (Obj.cells #[.string ⟨#[]⟩, .string ⟨#[]⟩, .string ⟨#[]⟩, .string ⟨#[]⟩, .string ⟨#[111, 118, 101, 114, 108, 105, 110, 101]⟩, .string ⟨#[117, 110, 100, 101, 114, 108, 105, 110, 101]⟩, .string ⟨#[]⟩, .string ⟨#[]⟩, .string ⟨#[]⟩, .string ⟨#[118, 99, 101, 110, 116, 101, 114]⟩, .string ⟨#[]⟩, .string ⟨#[]⟩] 62)
  have hwa := (hw.alloc (Obj.cells #[.int .i64 4, .int .i64 a1, .int .i64 a2, .int .i64 a3, .int .i64 a4, .slice Ap ps.length cp, .slice Ar rs.length cr, .bool b1, .bool b2, .slice Au lu cu, .slice Ab lb cb] 33)).alloc (Obj.cells #[.string ⟨#[]⟩, .string ⟨#[]⟩, .string ⟨#[]⟩, .string ⟨#[]⟩, .string ⟨#[111, 118, 101, 114, 108, 105, 110, 101]⟩, .string ⟨#[117, 110, 100, 101, 114, 108, 105, 110, 101]⟩, .string ⟨#[]⟩, .string ⟨#[]⟩, .string ⟨#[]⟩, .string ⟨#[118, 99, 101, 110, 116, 101, 114]⟩, .string ⟨#[]⟩, .string ⟨#[]⟩] 62)
  rw [hWa] at hbox hFA hwa hsim
  rw [show (w.alloc (Obj.cells #[.int .i64 4, .int .i64 a1, .int .i64 a2, .int .i64 a3, .int .i64 a4, .slice Ap ps.length cp, .slice Ar rs.length cr, .bool b1, .bool b2, .slice Au lu cu, .slice Ab lb cb] 33)).heap.size = w.heap.size + 1 by simp] at hsim
  have HBX : Hid (∀ w2, Fr w0.heap.size b Wa w2 → _) := Lib.hid fun w2 hf => box_kept hbox hw hf
  have HFA := Lib.hid hFA
  have HX0 := Lib.hid hwa
  have HFF := Lib.hid hF
  have HGG := Lib.hid hG
  have HP := Lib.hid hp
  have HR := Lib.hid hr
  have HL := Lib.hid hlen
  have HTT := Lib.hid hT
  have HTX := Lib.hid hTX
  have HSM := Lib.hid hsim
  have HPS := Lib.hid hps
  have HB := Lib.hid (hb.trans hFA.below)
  have HY0 := Lib.hid (Fr.refl w0.heap.size b Wa)
  obtain ⟨k, hk⟩ : ∃ k, w.heap.size = k := ⟨_, rfl⟩
  rw [hk] at HBX HSM
  clear hF hG hp hr hb hlen hT hw hwa hFA hbox hTX hsim hps
  obtain ⟨O0, hO0⟩ : ∃ O0, out = O0 := ⟨_, rfl⟩
  rw [hO0] at HX0
  obtain ⟨O1, hO1⟩ : ∃ O1, O0 ++ (92 :: [111, 118, 101, 114, 108, 105, 110, 101]) = O1 := ⟨_, rfl⟩
  obtain ⟨O2, hO2⟩ : ∃ O2, O1 ++ bracesL f ps = O2 := ⟨_, rfl⟩
  have HO : Hid (O2 = out ++ T) := Lib.hid (by rw [← hO2, ← hO1, ← hO0, HTX.out]; try simp)
  have HLL1 : Hid (O0.length + ((92 :: [111, 118, 101, 114, 108, 105, 110, 101]) : List UInt8).length ≤ 140737488355328) := Lib.hid (by
    have h1 := congrArg List.length HO.out
    have h2 := HL.out
    have g1 := congrArg List.length hO1
    have g2 := congrArg List.length hO2
    simp only [List.length_append, List.length_cons, List.length_nil] at h1 h2 g1 g2 ⊢
    omega)
  have HLL2 : Hid (O1.length + (bracesL f ps : List UInt8).length ≤ 140737488355328) := Lib.hid (by
    have h1 := congrArg List.length HO.out
    have h2 := HL.out
    have g1 := congrArg List.length hO1
    have g2 := congrArg List.length hO2
    simp only [List.length_append, List.length_cons, List.length_nil] at h1 h2 g1 g2 ⊢
    omega)
  have HC1 : Hid (∀ w1 : World, Wb w0.heap.size b O0 w1 → Fr w0.heap.size b Wa w1 → _) := Lib.hid fun w1 hw1 hf1 => sw_word w0.heap.size b O0 ⟨#[111, 118, 101, 114, 108, 105, 110, 101]⟩ [111, 118, 101, 114, 108, 105, 110, 101] rfl w1 hw1 (by have := HLL1.out; simp only [List.length_append, List.length_cons, List.length_nil] at this ⊢; omega) (hf1.size HB.out.size)
  rw [hO1] at HC1
  have HC2 : Hid (∀ w1 : World, Wb w0.heap.size b O1 w1 → Fr w0.heap.size b Wa w1 → _) := Lib.hid fun w1 hw1 hf1 => braces_calls K f G w0 b HFF.out ps Ap cp O1 w1 HGG.out (parts_hp HP.out (HB.out.trans hf1.below)) HPS.out hw1 (HB.out.trans hf1.below) HLL2.out
  rw [hO2] at HC2
  have HHO := Lib.hid (And.intro hO0 trivial)
  clear hO0 hO1 hO2 HHO
  have HWE := Lib.hid hWa
  have HK := Lib.hid hk
  clear hWa hk
  go_enter Tryd.func20, Tryd.ntmps20
  go_upto_region 2 with fail
  rw [HWE.out, HK.out]
  have c0 := nad_cells (HBX.out Wa (Fr.refl _ _ _)) 0 _ rfl
  have c1 := nad_cells (HBX.out Wa (Fr.refl _ _ _)) 1 _ rfl
  have c2 := nad_cells (HBX.out Wa (Fr.refl _ _ _)) 2 _ rfl
  have c3 := nad_cells (HBX.out Wa (Fr.refl _ _ _)) 3 _ rfl
  have c4 := nad_cells (HBX.out Wa (Fr.refl _ _ _)) 4 _ rfl
  have c5 := nad_cells (HBX.out Wa (Fr.refl _ _ _)) 5 _ rfl
  have c6 := nad_cells (HBX.out Wa (Fr.refl _ _ _)) 6 _ rfl
  have c7 := nad_cells (HBX.out Wa (Fr.refl _ _ _)) 7 _ rfl
  have c8 := nad_cells (HBX.out Wa (Fr.refl _ _ _)) 8 _ rfl
  have c9 := nad_cells (HBX.out Wa (Fr.refl _ _ _)) 9 _ rfl
  have c10 := nad_cells (HBX.out Wa (Fr.refl _ _ _)) 10 _ rfl
  have s4 := nad_cells HSM.out 4 _ rfl
  go_wp2_with (first | (go_at_call 19; with_reducible refine (HC1.out _ HX0.out HY0.out).mono ?_; clear c0 c1 c2 c3 c5; rintro e w1 ⟨rfl, hw1, hf1⟩; have HX1 := Lib.hid hw1; have HY1 := Lib.hid (HY0.out.trans hf1); have c0 := nad_cells (HBX.out w1 HY1.out) 0 _ rfl; have c1 := nad_cells (HBX.out w1 HY1.out) 1 _ rfl; have c2 := nad_cells (HBX.out w1 HY1.out) 2 _ rfl; have c3 := nad_cells (HBX.out w1 HY1.out) 3 _ rfl; have c5 := nad_cells (HBX.out w1 HY1.out) 5 _ rfl; clear hw1 hf1) | (go_at_call 22; with_reducible refine (HC2.out _ HX1.out HY1.out).mono ?_; clear c0 c1 c2 c3 c5; rintro e w1 ⟨rfl, hw1, hf1⟩; have HX2 := Lib.hid hw1; have HY2 := Lib.hid (HY1.out.trans hf1); clear hw1 hf1))
  all_goals (go_end0; exact ⟨rfl, by rw [← HO.out]; exact HX2.out, HFA.out.trans HY2.out⟩)
set_option maxHeartbeats 2000000 in
set_option maxRecDepth 100000 in
theorem nuc_5 {α : Type} (K : World → α → List Value → Prop) (f : List α → List UInt8) (G : List α → Prop) (w0 : World) (b : Nat) (hT : LexTabs w0) (hF : LC K f G w0 b)
    (a1 a2 a3 a4 : Int) (ps : List (List α)) (Ap : Option Addr) (cp : Nat) (Ar : Option Addr) (rs : List Int) (cr : Nat) (b1 b2 : Bool) (Au : Option Addr) (lu cu : Nat) (Ab : Option Addr) (lb cb : Nat) (out : List UInt8) (w : World) (hG : ∀ p ∈ ps, G p)
    (hp : rdS (fun l cs => ∃ v, cs = [v] ∧ rdS (K w0) 11 w0 v l) 1 w0 (.slice Ap ps.length cp) (ps : List (List α))) (hr : rdS (fun (n : Int) cs => cs = [.int .i64 n] ∧ inI n) 1 w0 (.slice Ar rs.length cr) rs)
    (hps : ps.length ≤ 2000000) (hw : Wb w0.heap.size b out w) (hb : Below w0.heap.size w0 w) (T : List UInt8) (hTX : T = (92 :: [117, 110, 100, 101, 114, 108, 105, 110, 101]) ++ bracesL f ps) (hlen : out.length + T.length ≤ 140737488355328) :
    Calls Tryd.prog 20 #[.pointer (some ⟨b, 0, none⟩), .agg #[.int .i64 5, .int .i64 a1, .int .i64 a2, .int .i64 a3, .int .i64 a4, .slice Ap ps.length cp, .slice Ar rs.length cr, .bool b1, .bool b2, .slice Au lu cu, .slice Ab lb cb]] w fun e w' => e = .returned (.tuple #[]) ∧ Wb w0.heap.size b (out ++ T) w' ∧ Fr w0.heap.size b w w' := by
  obtain ⟨Wa, hWa⟩ : ∃ Wa, (w.alloc (Obj.cells #[.int .i64 5, .int .i64 a1, .int .i64 a2, .int .i64 a3, .int .i64 a4, .slice Ap ps.length cp, .slice Ar rs.length cr, .bool b1, .bool b2, .slice Au lu cu, .slice Ab lb cb] 33)).alloc (Obj.cells #[.string ⟨#[]⟩, .string ⟨#[]⟩, .string ⟨#[]⟩, .string ⟨#[]⟩, .string ⟨#[111, 118, 101, 114, 108, 105, 110, 101]⟩, .string ⟨#[117, 110, 100, 101, 114, 108, 105, 110, 101]⟩, .string ⟨#[]⟩, .string ⟨#[]⟩, .string ⟨#[]⟩, .string ⟨#[118, 99, 101, 110, 116, 101, 114]⟩, .string ⟨#[]⟩, .string ⟨#[]⟩] 62) = Wa := ⟨_, rfl⟩
  have hbox := (heap_alloc_old (w.alloc (Obj.cells #[.int .i64 5, .int .i64 a1, .int .i64 a2, .int .i64 a3, .int .i64 a4, .slice Ap ps.length cp, .slice Ar rs.length cr, .bool b1, .bool b2, .slice Au lu cu, .slice Ab lb cb] 33)) (Obj.cells #[.string ⟨#[]⟩, .string ⟨#[]⟩, .string ⟨#[]⟩, .string ⟨#[]⟩, .string ⟨#[111, 118, 101, 114, 108, 105, 110, 101]⟩, .string ⟨#[117, 110, 100, 101, 114, 108, 105, 110, 101]⟩, .string ⟨#[]⟩, .string ⟨#[]⟩, .string ⟨#[]⟩, .string ⟨#[118, 99, 101, 110, 116, 101, 114]⟩, .string ⟨#[]⟩, .string ⟨#[]⟩] 62) (show w.heap.size < _ by simp)).trans (heap_alloc_new w (Obj.cells #[.int .i64 5, .int .i64 a1, .int .i64 a2, .int .i64 a3, .int .i64 a4, .slice Ap ps.length cp, .slice Ar rs.length cr, .bool b1, .bool b2, .slice Au lu cu, .slice Ab lb cb] 33))
  have hsim := heap_alloc_new (w.alloc (Obj.cells #[.int .i64 5, .int .i64 a1, .int .i64 a2, .int .i64 a3, .int .i64 a4, .slice Ap ps.length cp, .slice Ar rs.length cr, .bool b1, .bool b2, .slice Au lu cu, .slice Ab lb cb] 33)) (Obj.cells #[.string ⟨#[]⟩, .string ⟨#[]⟩, .string ⟨#[]⟩, .string ⟨#[]⟩, .string ⟨#[111, 118, 101, 114, 108, 105, 110, 101]⟩, .string ⟨#[117, 110, 100, 101, 114, 108, 105, 110, 101]⟩, .string ⟨#[]⟩, .string ⟨#[]⟩, .string ⟨#[]⟩, .string ⟨#[118, 99, 101, 110, 116, 101, 114]⟩, .string ⟨#[]⟩, .string ⟨#[]⟩] 62)
  have hFA := ((Fr.refl w0.heap.size b w).alloc hb.size (Obj.cells #[.int .i64 5, .int .i64 a1, .int .i64 a2, .int .i64 a3, .int .i64 a4, .slice Ap ps.length cp, .slice Ar rs.length cr, .bool b1, .bool b2, .slice Au lu cu, .slice Ab lb cb] 33)).alloc hb.size (Obj.cells #[.string ⟨#[]⟩, .string ⟨#[]⟩, .string ⟨#[]⟩, .string ⟨#[]⟩, .string ⟨#[111, 118, 101, 114, 108, 105, 110, 101]⟩, .string ⟨#[117, 110, 100, 101, 114, 108, 105, 110, 101]⟩, .string ⟨#[]⟩, .string ⟨#[]⟩, .string ⟨#[]⟩, .string ⟨#[118, 99, 101, 110, 116, 101, 114]⟩, .string ⟨#[]⟩, .string ⟨#[]⟩] 62)
  have hwa := (hw.alloc (Obj.cells #[.int .i64 5, .int .i64 a1, .int .i64 a2, .int .i64 a3, .int .i64 a4, .slice Ap ps.length cp, .slice Ar rs.length cr, .bool b1, .bool b2, .slice Au lu cu, .slice Ab lb cb] 33)).alloc (Obj.cells #[.string ⟨#[]⟩, .string ⟨#[]⟩, .string ⟨#[]⟩, .string ⟨#[]⟩, .string ⟨#[111, 118, 101, 114, 108, 105, 110, 101]⟩, .string ⟨#[117, 110, 100, 101, 114, 108, 105, 110, 101]⟩, .string ⟨#[]⟩, .string ⟨#[]⟩, .string ⟨#[]⟩, .string ⟨#[118, 99, 101, 110, 116, 101, 114]⟩, .string ⟨#[]⟩, .string ⟨#[]⟩] 62)
  rw [hWa] at hbox hFA hwa hsim
  rw [show (w.alloc (Obj.cells #[.int .i64 5, .int .i64 a1, .int .i64 a2, .int .i64 a3, .int .i64 a4, .slice Ap ps.length cp, .slice Ar rs.length cr, .bool b1, .bool b2, .slice Au lu cu, .slice Ab lb cb] 33)).heap.size = w.heap.size + 1 by simp] at hsim
  have HBX : Hid (∀ w2, Fr w0.heap.size b Wa w2 → _) := Lib.hid fun w2 hf => box_kept hbox hw hf
  have HFA := Lib.hid hFA
  have HX0 := Lib.hid hwa
  have HFF := Lib.hid hF
  have HGG := Lib.hid hG
  have HP := Lib.hid hp
  have HR := Lib.hid hr
  have HL := Lib.hid hlen
  have HTT := Lib.hid hT
  have HTX := Lib.hid hTX
  have HSM := Lib.hid hsim
  have HPS := Lib.hid hps
  have HB := Lib.hid (hb.trans hFA.below)
  have HY0 := Lib.hid (Fr.refl w0.heap.size b Wa)
  obtain ⟨k, hk⟩ : ∃ k, w.heap.size = k := ⟨_, rfl⟩
  rw [hk] at HBX HSM
  clear hF hG hp hr hb hlen hT hw hwa hFA hbox hTX hsim hps
  obtain ⟨O0, hO0⟩ : ∃ O0, out = O0 := ⟨_, rfl⟩
  rw [hO0] at HX0
  obtain ⟨O1, hO1⟩ : ∃ O1, O0 ++ (92 :: [117, 110, 100, 101, 114, 108, 105, 110, 101]) = O1 := ⟨_, rfl⟩
  obtain ⟨O2, hO2⟩ : ∃ O2, O1 ++ bracesL f ps = O2 := ⟨_, rfl⟩
  have HO : Hid (O2 = out ++ T) := Lib.hid (by rw [← hO2, ← hO1, ← hO0, HTX.out]; try simp)
  have HLL1 : Hid (O0.length + ((92 :: [117, 110, 100, 101, 114, 108, 105, 110, 101]) : List UInt8).length ≤ 140737488355328) := Lib.hid (by
    have h1 := congrArg List.length HO.out
    have h2 := HL.out
    have g1 := congrArg List.length hO1
    have g2 := congrArg List.length hO2
    simp only [List.length_append, List.length_cons, List.length_nil] at h1 h2 g1 g2 ⊢
    omega)
  have HLL2 : Hid (O1.length + (bracesL f ps : List UInt8).length ≤ 140737488355328) := Lib.hid (by
    have h1 := congrArg List.length HO.out
    have h2 := HL.out
    have g1 := congrArg List.length hO1
    have g2 := congrArg List.length hO2
    simp only [List.length_append, List.length_cons, List.length_nil] at h1 h2 g1 g2 ⊢
    omega)
  have HC1 : Hid (∀ w1 : World, Wb w0.heap.size b O0 w1 → Fr w0.heap.size b Wa w1 → _) := Lib.hid fun w1 hw1 hf1 => sw_word w0.heap.size b O0 ⟨#[117, 110, 100, 101, 114, 108, 105, 110, 101]⟩ [117, 110, 100, 101, 114, 108, 105, 110, 101] rfl w1 hw1 (by have := HLL1.out; simp only [List.length_append, List.length_cons, List.length_nil] at this ⊢; omega) (hf1.size HB.out.size)
  rw [hO1] at HC1
  have HC2 : Hid (∀ w1 : World, Wb w0.heap.size b O1 w1 → Fr w0.heap.size b Wa w1 → _) := Lib.hid fun w1 hw1 hf1 => braces_calls K f G w0 b HFF.out ps Ap cp O1 w1 HGG.out (parts_hp HP.out (HB.out.trans hf1.below)) HPS.out hw1 (HB.out.trans hf1.below) HLL2.out
  rw [hO2] at HC2
  have HHO := Lib.hid (And.intro hO0 trivial)
  clear hO0 hO1 hO2 HHO
  have HWE := Lib.hid hWa
  have HK := Lib.hid hk
  clear hWa hk
  go_enter Tryd.func20, Tryd.ntmps20
  go_upto_region 2 with fail
  rw [HWE.out, HK.out]
  have c0 := nad_cells (HBX.out Wa (Fr.refl _ _ _)) 0 _ rfl
  have c1 := nad_cells (HBX.out Wa (Fr.refl _ _ _)) 1 _ rfl
  have c2 := nad_cells (HBX.out Wa (Fr.refl _ _ _)) 2 _ rfl
  have c3 := nad_cells (HBX.out Wa (Fr.refl _ _ _)) 3 _ rfl
  have c4 := nad_cells (HBX.out Wa (Fr.refl _ _ _)) 4 _ rfl
  have c5 := nad_cells (HBX.out Wa (Fr.refl _ _ _)) 5 _ rfl
  have c6 := nad_cells (HBX.out Wa (Fr.refl _ _ _)) 6 _ rfl
  have c7 := nad_cells (HBX.out Wa (Fr.refl _ _ _)) 7 _ rfl
  have c8 := nad_cells (HBX.out Wa (Fr.refl _ _ _)) 8 _ rfl
  have c9 := nad_cells (HBX.out Wa (Fr.refl _ _ _)) 9 _ rfl
  have c10 := nad_cells (HBX.out Wa (Fr.refl _ _ _)) 10 _ rfl
  have s5 := nad_cells HSM.out 5 _ rfl
  go_wp2_with (first | (go_at_call 19; with_reducible refine (HC1.out _ HX0.out HY0.out).mono ?_; clear c0 c1 c2 c3 c5; rintro e w1 ⟨rfl, hw1, hf1⟩; have HX1 := Lib.hid hw1; have HY1 := Lib.hid (HY0.out.trans hf1); have c0 := nad_cells (HBX.out w1 HY1.out) 0 _ rfl; have c1 := nad_cells (HBX.out w1 HY1.out) 1 _ rfl; have c2 := nad_cells (HBX.out w1 HY1.out) 2 _ rfl; have c3 := nad_cells (HBX.out w1 HY1.out) 3 _ rfl; have c5 := nad_cells (HBX.out w1 HY1.out) 5 _ rfl; clear hw1 hf1) | (go_at_call 22; with_reducible refine (HC2.out _ HX1.out HY1.out).mono ?_; clear c0 c1 c2 c3 c5; rintro e w1 ⟨rfl, hw1, hf1⟩; have HX2 := Lib.hid hw1; have HY2 := Lib.hid (HY1.out.trans hf1); clear hw1 hf1))
  all_goals (go_end0; exact ⟨rfl, by rw [← HO.out]; exact HX2.out, HFA.out.trans HY2.out⟩)
set_option maxHeartbeats 2000000 in
set_option maxRecDepth 100000 in
theorem nuc_9 {α : Type} (K : World → α → List Value → Prop) (f : List α → List UInt8) (G : List α → Prop) (w0 : World) (b : Nat) (hT : LexTabs w0) (hF : LC K f G w0 b)
    (a1 a2 a3 a4 : Int) (ps : List (List α)) (Ap : Option Addr) (cp : Nat) (Ar : Option Addr) (rs : List Int) (cr : Nat) (b1 b2 : Bool) (Au : Option Addr) (lu cu : Nat) (Ab : Option Addr) (lb cb : Nat) (out : List UInt8) (w : World) (hG : ∀ p ∈ ps, G p)
    (hp : rdS (fun l cs => ∃ v, cs = [v] ∧ rdS (K w0) 11 w0 v l) 1 w0 (.slice Ap ps.length cp) (ps : List (List α))) (hr : rdS (fun (n : Int) cs => cs = [.int .i64 n] ∧ inI n) 1 w0 (.slice Ar rs.length cr) rs)
    (hps : ps.length ≤ 2000000) (hw : Wb w0.heap.size b out w) (hb : Below w0.heap.size w0 w) (T : List UInt8) (hTX : T = (92 :: [118, 99, 101, 110, 116, 101, 114]) ++ bracesL f ps) (hlen : out.length + T.length ≤ 140737488355328) :
    Calls Tryd.prog 20 #[.pointer (some ⟨b, 0, none⟩), .agg #[.int .i64 9, .int .i64 a1, .int .i64 a2, .int .i64 a3, .int .i64 a4, .slice Ap ps.length cp, .slice Ar rs.length cr, .bool b1, .bool b2, .slice Au lu cu, .slice Ab lb cb]] w fun e w' => e = .returned (.tuple #[]) ∧ Wb w0.heap.size b (out ++ T) w' ∧ Fr w0.heap.size b w w' := by
  obtain ⟨Wa, hWa⟩ : ∃ Wa, (w.alloc (Obj.cells #[.int .i64 9, .int .i64 a1, .int .i64 a2, .int .i64 a3, .int .i64 a4, .slice Ap ps.length cp, .slice Ar rs.length cr, .bool b1, .bool b2, .slice Au lu cu, .slice Ab lb cb] 33)).alloc (Obj.cells #[.string ⟨#[]⟩, .string ⟨#[]⟩, .string ⟨#[]⟩, .string ⟨#[]⟩, .string ⟨#[111, 118, 101, 114, 108, 105, 110, 101]⟩, .string ⟨#[117, 110, 100, 101, 114, 108, 105, 110, 101]⟩, .string ⟨#[]⟩, .string ⟨#[]⟩, .string ⟨#[]⟩, .string ⟨#[118, 99, 101, 110, 116, 101, 114]⟩, .string ⟨#[]⟩, .string ⟨#[]⟩] 62) = Wa := ⟨_, rfl⟩
  have hbox := (heap_alloc_old (w.alloc (Obj.cells #[.int .i64 9, .int .i64 a1, .int .i64 a2, .int .i64 a3, .int .i64 a4, .slice Ap ps.length cp, .slice Ar rs.length cr, .bool b1, .bool b2, .slice Au lu cu, .slice Ab lb cb] 33)) (Obj.cells #[.string ⟨#[]⟩, .string ⟨#[]⟩, .string ⟨#[]⟩, .string ⟨#[]⟩, .string ⟨#[111, 118, 101, 114, 108, 105, 110, 101]⟩, .string ⟨#[117, 110, 100, 101, 114, 108, 105, 110, 101]⟩, .string ⟨#[]⟩, .string ⟨#[]⟩, .string ⟨#[]⟩, .string ⟨#[118, 99, 101, 110, 116, 101, 114]⟩, .string ⟨#[]⟩, .string ⟨#[]⟩] 62) (show w.heap.size < _ by simp)).trans (heap_alloc_new w (Obj.cells #[.int .i64 9, .int .i64 a1, .int .i64 a2, .int .i64 a3, .int .i64 a4, .slice Ap ps.length cp, .slice Ar rs.length cr, .bool b1, .bool b2, .slice Au lu cu, .slice Ab lb cb] 33))
  have hsim := heap_alloc_new (w.alloc (Obj.cells #[.int .i64 9, .int .i64 a1, .int .i64 a2, .int .i64 a3, .int .i64 a4, .slice Ap ps.length cp, .slice Ar rs.length cr, .bool b1, .bool b2, .slice Au lu cu, .slice Ab lb cb] 33)) (Obj.cells #[.string ⟨#[]⟩, .string ⟨#[]⟩, .string ⟨#[]⟩, .string ⟨#[]⟩, .string ⟨#[111, 118, 101, 114, 108, 105, 110, 101]⟩, .string ⟨#[117, 110, 100, 101, 114, 108, 105, 110, 101]⟩, .string ⟨#[]⟩, .string ⟨#[]⟩, .string ⟨#[]⟩, .string ⟨#[118, 99, 101, 110, 116, 101, 114]⟩, .string ⟨#[]⟩, .string ⟨#[]⟩] 62)
  have hFA := ((Fr.refl w0.heap.size b w).alloc hb.size (Obj.cells #[.int .i64 9, .int .i64 a1, .int .i64 a2, .int .i64 a3, .int .i64 a4, .slice Ap ps.length cp, .slice Ar rs.length cr, .bool b1, .bool b2, .slice Au lu cu, .slice Ab lb cb] 33)).alloc hb.size (Obj.cells #[.string ⟨#[]⟩, .string ⟨#[]⟩, .string ⟨#[]⟩, .string ⟨#[]⟩, .string ⟨#[111, 118, 101, 114, 108, 105, 110, 101]⟩, .string ⟨#[117, 110, 100, 101, 114, 108, 105, 110, 101]⟩, .string ⟨#[]⟩, .string ⟨#[]⟩, .string ⟨#[]⟩, .string ⟨#[118, 99, 101, 110, 116, 101, 114]⟩, .string ⟨#[]⟩, .string ⟨#[]⟩] 62)
  have hwa := (hw.alloc (Obj.cells #[.int .i64 9, .int .i64 a1, .int .i64 a2, .int .i64 a3, .int .i64 a4, .slice Ap ps.length cp, .slice Ar rs.length cr, .bool b1, .bool b2, .slice Au lu cu, .slice Ab lb cb] 33)).alloc (Obj.cells #[.string ⟨#[]⟩, .string ⟨#[]⟩, .string ⟨#[]⟩, .string ⟨#[]⟩, .string ⟨#[111, 118, 101, 114, 108, 105, 110, 101]⟩, .string ⟨#[117, 110, 100, 101, 114, 108, 105, 110, 101]⟩, .string ⟨#[]⟩, .string ⟨#[]⟩, .string ⟨#[]⟩, .string ⟨#[118, 99, 101, 110, 116, 101, 114]⟩, .string ⟨#[]⟩, .string ⟨#[]⟩] 62)
  rw [hWa] at hbox hFA hwa hsim
  rw [show (w.alloc (Obj.cells #[.int .i64 9, .int .i64 a1, .int .i64 a2, .int .i64 a3, .int .i64 a4, .slice Ap ps.length cp, .slice Ar rs.length cr, .bool b1, .bool b2, .slice Au lu cu, .slice Ab lb cb] 33)).heap.size = w.heap.size + 1 by simp] at hsim
  have HBX : Hid (∀ w2, Fr w0.heap.size b Wa w2 → _) := Lib.hid fun w2 hf => box_kept hbox hw hf
  have HFA := Lib.hid hFA
  have HX0 := Lib.hid hwa
  have HFF := Lib.hid hF
  have HGG := Lib.hid hG
  have HP := Lib.hid hp
  have HR := Lib.hid hr
  have HL := Lib.hid hlen
  have HTT := Lib.hid hT
  have HTX := Lib.hid hTX
  have HSM := Lib.hid hsim
  have HPS := Lib.hid hps
  have HB := Lib.hid (hb.trans hFA.below)
  have HY0 := Lib.hid (Fr.refl w0.heap.size b Wa)
  obtain ⟨k, hk⟩ : ∃ k, w.heap.size = k := ⟨_, rfl⟩
  rw [hk] at HBX HSM
  clear hF hG hp hr hb hlen hT hw hwa hFA hbox hTX hsim hps
  obtain ⟨O0, hO0⟩ : ∃ O0, out = O0 := ⟨_, rfl⟩
  rw [hO0] at HX0
  obtain ⟨O1, hO1⟩ : ∃ O1, O0 ++ (92 :: [118, 99, 101, 110, 116, 101, 114]) = O1 := ⟨_, rfl⟩
  obtain ⟨O2, hO2⟩ : ∃ O2, O1 ++ bracesL f ps = O2 := ⟨_, rfl⟩
  have HO : Hid (O2 = out ++ T) := Lib.hid (by rw [← hO2, ← hO1, ← hO0, HTX.out]; try simp)
  have HLL1 : Hid (O0.length + ((92 :: [118, 99, 101, 110, 116, 101, 114]) : List UInt8).length ≤ 140737488355328) := Lib.hid (by
    have h1 := congrArg List.length HO.out
    have h2 := HL.out
    have g1 := congrArg List.length hO1
    have g2 := congrArg List.length hO2
    simp only [List.length_append, List.length_cons, List.length_nil] at h1 h2 g1 g2 ⊢
    omega)
  have HLL2 : Hid (O1.length + (bracesL f ps : List UInt8).length ≤ 140737488355328) := Lib.hid (by
    have h1 := congrArg List.length HO.out
    have h2 := HL.out
    have g1 := congrArg List.length hO1
    have g2 := congrArg List.length hO2
    simp only [List.length_append, List.length_cons, List.length_nil] at h1 h2 g1 g2 ⊢
    omega)
  have HC1 : Hid (∀ w1 : World, Wb w0.heap.size b O0 w1 → Fr w0.heap.size b Wa w1 → _) := Lib.hid fun w1 hw1 hf1 => sw_word w0.heap.size b O0 ⟨#[118, 99, 101, 110, 116, 101, 114]⟩ [118, 99, 101, 110, 116, 101, 114] rfl w1 hw1 (by have := HLL1.out; simp only [List.length_append, List.length_cons, List.length_nil] at this ⊢; omega) (hf1.size HB.out.size)
  rw [hO1] at HC1
  have HC2 : Hid (∀ w1 : World, Wb w0.heap.size b O1 w1 → Fr w0.heap.size b Wa w1 → _) := Lib.hid fun w1 hw1 hf1 => braces_calls K f G w0 b HFF.out ps Ap cp O1 w1 HGG.out (parts_hp HP.out (HB.out.trans hf1.below)) HPS.out hw1 (HB.out.trans hf1.below) HLL2.out
  rw [hO2] at HC2
  have HHO := Lib.hid (And.intro hO0 trivial)
  clear hO0 hO1 hO2 HHO
  have HWE := Lib.hid hWa
  have HK := Lib.hid hk
  clear hWa hk
  go_enter Tryd.func20, Tryd.ntmps20
  go_upto_region 2 with fail
  rw [HWE.out, HK.out]
  have c0 := nad_cells (HBX.out Wa (Fr.refl _ _ _)) 0 _ rfl
  have c1 := nad_cells (HBX.out Wa (Fr.refl _ _ _)) 1 _ rfl
  have c2 := nad_cells (HBX.out Wa (Fr.refl _ _ _)) 2 _ rfl
  have c3 := nad_cells (HBX.out Wa (Fr.refl _ _ _)) 3 _ rfl
  have c4 := nad_cells (HBX.out Wa (Fr.refl _ _ _)) 4 _ rfl
  have c5 := nad_cells (HBX.out Wa (Fr.refl _ _ _)) 5 _ rfl
  have c6 := nad_cells (HBX.out Wa (Fr.refl _ _ _)) 6 _ rfl
  have c7 := nad_cells (HBX.out Wa (Fr.refl _ _ _)) 7 _ rfl
  have c8 := nad_cells (HBX.out Wa (Fr.refl _ _ _)) 8 _ rfl
  have c9 := nad_cells (HBX.out Wa (Fr.refl _ _ _)) 9 _ rfl
  have c10 := nad_cells (HBX.out Wa (Fr.refl _ _ _)) 10 _ rfl
  have s9 := nad_cells HSM.out 9 _ rfl
  go_wp2_with (first | (go_at_call 19; with_reducible refine (HC1.out _ HX0.out HY0.out).mono ?_; clear c0 c1 c2 c3 c5; rintro e w1 ⟨rfl, hw1, hf1⟩; have HX1 := Lib.hid hw1; have HY1 := Lib.hid (HY0.out.trans hf1); have c0 := nad_cells (HBX.out w1 HY1.out) 0 _ rfl; have c1 := nad_cells (HBX.out w1 HY1.out) 1 _ rfl; have c2 := nad_cells (HBX.out w1 HY1.out) 2 _ rfl; have c3 := nad_cells (HBX.out w1 HY1.out) 3 _ rfl; have c5 := nad_cells (HBX.out w1 HY1.out) 5 _ rfl; clear hw1 hf1) | (go_at_call 22; with_reducible refine (HC2.out _ HX1.out HY1.out).mono ?_; clear c0 c1 c2 c3 c5; rintro e w1 ⟨rfl, hw1, hf1⟩; have HX2 := Lib.hid hw1; have HY2 := Lib.hid (HY1.out.trans hf1); clear hw1 hf1))
  all_goals (go_end0; exact ⟨rfl, by rw [← HO.out]; exact HX2.out, HFA.out.trans HY2.out⟩)
set_option maxHeartbeats 2000000 in
set_option maxRecDepth 100000 in
theorem nuc_6 {α : Type} (K : World → α → List Value → Prop) (f : List α → List UInt8) (G : List α → Prop) (w0 : World) (b : Nat) (hT : LexTabs w0) (hF : LC K f G w0 b)
    (a1 a2 a3 a4 : Int) (ps : List (List α)) (Ap : Option Addr) (cp : Nat) (Ar : Option Addr) (rs : List Int) (cr : Nat) (b1 b2 : Bool) (Au : Option Addr) (lu cu : Nat) (Ab : Option Addr) (lb cb : Nat) (out : List UInt8) (w : World) (hG : ∀ p ∈ ps, G p)
    (hp : rdS (fun l cs => ∃ v, cs = [v] ∧ rdS (K w0) 11 w0 v l) 1 w0 (.slice Ap ps.length cp) (ps : List (List α))) (hr : rdS (fun (n : Int) cs => cs = [.int .i64 n] ∧ inI n) 1 w0 (.slice Ar rs.length cr) rs)
    (hps : ps.length ≤ 2000000) (hw : Wb w0.heap.size b out w) (hb : Below w0.heap.size w0 w) (T : List UInt8) (hTX : T = (92 :: [97, 99, 99, 101, 110, 116, 123]) ++ (quoteL a2 ++ ([125] ++ bracesL f ps))) (hlen : out.length + T.length ≤ 140737488355328) :
    Calls Tryd.prog 20 #[.pointer (some ⟨b, 0, none⟩), .agg #[.int .i64 6, .int .i64 a1, .int .i64 a2, .int .i64 a3, .int .i64 a4, .slice Ap ps.length cp, .slice Ar rs.length cr, .bool b1, .bool b2, .slice Au lu cu, .slice Ab lb cb]] w fun e w' => e = .returned (.tuple #[]) ∧ Wb w0.heap.size b (out ++ T) w' ∧ Fr w0.heap.size b w w' := by
  obtain ⟨Wa, hWa⟩ : ∃ Wa, (w.alloc (Obj.cells #[.int .i64 6, .int .i64 a1, .int .i64 a2, .int .i64 a3, .int .i64 a4, .slice Ap ps.length cp, .slice Ar rs.length cr, .bool b1, .bool b2, .slice Au lu cu, .slice Ab lb cb] 33)).alloc (Obj.cells #[.string ⟨#[]⟩, .string ⟨#[]⟩, .string ⟨#[]⟩, .string ⟨#[]⟩, .string ⟨#[111, 118, 101, 114, 108, 105, 110, 101]⟩, .string ⟨#[117, 110, 100, 101, 114, 108, 105, 110, 101]⟩, .string ⟨#[]⟩, .string ⟨#[]⟩, .string ⟨#[]⟩, .string ⟨#[118, 99, 101, 110, 116, 101, 114]⟩, .string ⟨#[]⟩, .string ⟨#[]⟩] 62) = Wa := ⟨_, rfl⟩
  have hbox := (heap_alloc_old (w.alloc (Obj.cells #[.int .i64 6, .int .i64 a1, .int .i64 a2, .int .i64 a3, .int .i64 a4, .slice Ap ps.length cp, .slice Ar rs.length cr, .bool b1, .bool b2, .slice Au lu cu, .slice Ab lb cb] 33)) (Obj.cells #[.string ⟨#[]⟩, .string ⟨#[]⟩, .string ⟨#[]⟩, .string ⟨#[]⟩, .string ⟨#[111, 118, 101, 114, 108, 105, 110, 101]⟩, .string ⟨#[117, 110, 100, 101, 114, 108, 105, 110, 101]⟩, .string ⟨#[]⟩, .string ⟨#[]⟩, .string ⟨#[]⟩, .string ⟨#[118, 99, 101, 110, 116, 101, 114]⟩, .string ⟨#[]⟩, .string ⟨#[]⟩] 62) (show w.heap.size < _ by simp)).trans (heap_alloc_new w (Obj.cells #[.int .i64 6, .int .i64 a1, .int .i64 a2, .int .i64 a3, .int .i64 a4, .slice Ap ps.length cp, .slice Ar rs.length cr, .bool b1, .bool b2, .slice Au lu cu, .slice Ab lb cb] 33))
  have hsim := heap_alloc_new (w.alloc (Obj.cells #[.int .i64 6, .int .i64 a1, .int .i64 a2, .int .i64 a3, .int .i64 a4, .slice Ap ps.length cp, .slice Ar rs.length cr, .bool b1, .bool b2, .slice Au lu cu, .slice Ab lb cb] 33)) (Obj.cells #[.string ⟨#[]⟩, .string ⟨#[]⟩, .string ⟨#[]⟩, .string ⟨#[]⟩, .string ⟨#[111, 118, 101, 114, 108, 105, 110, 101]⟩, .string ⟨#[117, 110, 100, 101, 114, 108, 105, 110, 101]⟩, .string ⟨#[]⟩, .string ⟨#[]⟩, .string ⟨#[]⟩, .string ⟨#[118, 99, 101, 110, 116, 101, 114]⟩, .string ⟨#[]⟩, .string ⟨#[]⟩] 62)
  have hFA := ((Fr.refl w0.heap.size b w).alloc hb.size (Obj.cells #[.int .i64 6, .int .i64 a1, .int .i64 a2, .int .i64 a3, .int .i64 a4, .slice Ap ps.length cp, .slice Ar rs.length cr, .bool b1, .bool b2, .slice Au lu cu, .slice Ab lb cb] 33)).alloc hb.size (Obj.cells #[.string ⟨#[]⟩, .string ⟨#[]⟩, .string ⟨#[]⟩, .string ⟨#[]⟩, .string ⟨#[111, 118, 101, 114, 108, 105, 110, 101]⟩, .string ⟨#[117, 110, 100, 101, 114, 108, 105, 110, 101]⟩, .string ⟨#[]⟩, .string ⟨#[]⟩, .string ⟨#[]⟩, .string ⟨#[118, 99, 101, 110, 116, 101, 114]⟩, .string ⟨#[]⟩, .string ⟨#[]⟩] 62)
  have hwa := (hw.alloc (Obj.cells #[.int .i64 6, .int .i64 a1, .int .i64 a2, .int .i64 a3, .int .i64 a4, .slice Ap ps.length cp, .slice Ar rs.length cr, .bool b1, .bool b2, .slice Au lu cu, .slice Ab lb cb] 33)).alloc (Obj.cells #[.string ⟨#[]⟩, .string ⟨#[]⟩, .string ⟨#[]⟩, .string ⟨#[]⟩, .string ⟨#[111, 118, 101, 114, 108, 105, 110, 101]⟩, .string ⟨#[117, 110, 100, 101, 114, 108, 105, 110, 101]⟩, .string ⟨#[]⟩, .string ⟨#[]⟩, .string ⟨#[]⟩, .string ⟨#[118, 99, 101, 110, 116, 101, 114]⟩, .string ⟨#[]⟩, .string ⟨#[]⟩] 62)
  rw [hWa] at hbox hFA hwa hsim
  rw [show (w.alloc (Obj.cells #[.int .i64 6, .int .i64 a1, .int .i64 a2, .int .i64 a3, .int .i64 a4, .slice Ap ps.length cp, .slice Ar rs.length cr, .bool b1, .bool b2, .slice Au lu cu, .slice Ab lb cb] 33)).heap.size = w.heap.size + 1 by simp] at hsim
  have HBX : Hid (∀ w2, Fr w0.heap.size b Wa w2 → _) := Lib.hid fun w2 hf => box_kept hbox hw hf
  have HFA := Lib.hid hFA
  have HX0 := Lib.hid hwa
  have HFF := Lib.hid hF
  have HGG := Lib.hid hG
  have HP := Lib.hid hp
  have HR := Lib.hid hr
  have HL := Lib.hid hlen
  have HTT := Lib.hid hT
  have HTX := Lib.hid hTX
  have HSM := Lib.hid hsim
  have HPS := Lib.hid hps
  have HB := Lib.hid (hb.trans hFA.below)
  have HY0 := Lib.hid (Fr.refl w0.heap.size b Wa)
  obtain ⟨k, hk⟩ : ∃ k, w.heap.size = k := ⟨_, rfl⟩
  rw [hk] at HBX HSM
  clear hF hG hp hr hb hlen hT hw hwa hFA hbox hTX hsim hps
  obtain ⟨O0, hO0⟩ : ∃ O0, out = O0 := ⟨_, rfl⟩
  rw [hO0] at HX0
  obtain ⟨O1, hO1⟩ : ∃ O1, O0 ++ (92 :: [97, 99, 99, 101, 110, 116, 123]) = O1 := ⟨_, rfl⟩
  obtain ⟨O2, hO2⟩ : ∃ O2, O1 ++ quoteL a2 = O2 := ⟨_, rfl⟩
  obtain ⟨O3, hO3⟩ : ∃ O3, O2 ++ [125] = O3 := ⟨_, rfl⟩
  obtain ⟨O4, hO4⟩ : ∃ O4, O3 ++ bracesL f ps = O4 := ⟨_, rfl⟩
  have HO : Hid (O4 = out ++ T) := Lib.hid (by rw [← hO4, ← hO3, ← hO2, ← hO1, ← hO0, HTX.out]; try simp)
  have HLL1 : Hid (O0.length + ((92 :: [97, 99, 99, 101, 110, 116, 123]) : List UInt8).length ≤ 140737488355328) := Lib.hid (by
    have h1 := congrArg List.length HO.out
    have h2 := HL.out
    have g1 := congrArg List.length hO1
    have g2 := congrArg List.length hO2
    have g3 := congrArg List.length hO3
    have g4 := congrArg List.length hO4
    simp only [List.length_append, List.length_cons, List.length_nil] at h1 h2 g1 g2 g3 g4 ⊢
    omega)
  have HLL2 : Hid (O1.length + (quoteL a2 : List UInt8).length ≤ 140737488355328) := Lib.hid (by
    have h1 := congrArg List.length HO.out
    have h2 := HL.out
    have g1 := congrArg List.length hO1
    have g2 := congrArg List.length hO2
    have g3 := congrArg List.length hO3
    have g4 := congrArg List.length hO4
    simp only [List.length_append, List.length_cons, List.length_nil] at h1 h2 g1 g2 g3 g4 ⊢
    omega)
  have HLL3 : Hid (O2.length + ([125] : List UInt8).length ≤ 140737488355328) := Lib.hid (by
    have h1 := congrArg List.length HO.out
    have h2 := HL.out
    have g1 := congrArg List.length hO1
    have g2 := congrArg List.length hO2
    have g3 := congrArg List.length hO3
    have g4 := congrArg List.length hO4
    simp only [List.length_append, List.length_cons, List.length_nil] at h1 h2 g1 g2 g3 g4 ⊢
    omega)
  have HLL4 : Hid (O3.length + (bracesL f ps : List UInt8).length ≤ 140737488355328) := Lib.hid (by
    have h1 := congrArg List.length HO.out
    have h2 := HL.out
    have g1 := congrArg List.length hO1
    have g2 := congrArg List.length hO2
    have g3 := congrArg List.length hO3
    have g4 := congrArg List.length hO4
    simp only [List.length_append, List.length_cons, List.length_nil] at h1 h2 g1 g2 g3 g4 ⊢
    omega)
  have HC1 : Hid (∀ w1 : World, Wb w0.heap.size b O0 w1 → Fr w0.heap.size b Wa w1 → _) := Lib.hid fun w1 hw1 hf1 => sw_word w0.heap.size b O0 ⟨#[97, 99, 99, 101, 110, 116, 123]⟩ [97, 99, 99, 101, 110, 116, 123] rfl w1 hw1 (by have := HLL1.out; simp only [List.length_append, List.length_cons, List.length_nil] at this ⊢; omega) (hf1.size HB.out.size)
  rw [hO1] at HC1
  have HC2 : Hid (∀ w1 : World, Wb w0.heap.size b O1 w1 → Fr w0.heap.size b Wa w1 → _) := Lib.hid fun w1 hw1 hf1 => wquote_calls w0.heap.size b O1 a2 w1 (HTT.out.below (HB.out.trans hf1.below)) hw1 HLL2.out (hf1.size HB.out.size)
  rw [hO2] at HC2
  have HC3 : Hid (∀ w1 : World, Wb w0.heap.size b O2 w1 → Fr w0.heap.size b Wa w1 → _) := Lib.hid fun w1 hw1 hf1 => sw_byte w0.heap.size b O2 125 125 rfl w1 hw1 HLL3.out (hf1.size HB.out.size)
  rw [hO3] at HC3
  have HC4 : Hid (∀ w1 : World, Wb w0.heap.size b O3 w1 → Fr w0.heap.size b Wa w1 → _) := Lib.hid fun w1 hw1 hf1 => braces_calls K f G w0 b HFF.out ps Ap cp O3 w1 HGG.out (parts_hp HP.out (HB.out.trans hf1.below)) HPS.out hw1 (HB.out.trans hf1.below) HLL4.out
  rw [hO4] at HC4
  have HHO := Lib.hid (And.intro hO0 trivial)
  clear hO0 hO1 hO2 hO3 hO4 HHO
  have HWE := Lib.hid hWa
  have HK := Lib.hid hk
  clear hWa hk
  go_enter Tryd.func20, Tryd.ntmps20
  go_upto_region 2 with fail
  rw [HWE.out, HK.out]
  have c0 := nad_cells (HBX.out Wa (Fr.refl _ _ _)) 0 _ rfl
  have c1 := nad_cells (HBX.out Wa (Fr.refl _ _ _)) 1 _ rfl
  have c2 := nad_cells (HBX.out Wa (Fr.refl _ _ _)) 2 _ rfl
  have c3 := nad_cells (HBX.out Wa (Fr.refl _ _ _)) 3 _ rfl
  have c4 := nad_cells (HBX.out Wa (Fr.refl _ _ _)) 4 _ rfl
  have c5 := nad_cells (HBX.out Wa (Fr.refl _ _ _)) 5 _ rfl
  have c6 := nad_cells (HBX.out Wa (Fr.refl _ _ _)) 6 _ rfl
  have c7 := nad_cells (HBX.out Wa (Fr.refl _ _ _)) 7 _ rfl
  have c8 := nad_cells (HBX.out Wa (Fr.refl _ _ _)) 8 _ rfl
  have c9 := nad_cells (HBX.out Wa (Fr.refl _ _ _)) 9 _ rfl
  have c10 := nad_cells (HBX.out Wa (Fr.refl _ _ _)) 10 _ rfl
  go_wp2_with (first | (go_at_call 19; with_reducible refine (HC1.out _ HX0.out HY0.out).mono ?_; clear c0 c1 c2 c3 c5; rintro e w1 ⟨rfl, hw1, hf1⟩; have HX1 := Lib.hid hw1; have HY1 := Lib.hid (HY0.out.trans hf1); have c0 := nad_cells (HBX.out w1 HY1.out) 0 _ rfl; have c1 := nad_cells (HBX.out w1 HY1.out) 1 _ rfl; have c2 := nad_cells (HBX.out w1 HY1.out) 2 _ rfl; have c3 := nad_cells (HBX.out w1 HY1.out) 3 _ rfl; have c5 := nad_cells (HBX.out w1 HY1.out) 5 _ rfl; clear hw1 hf1) | (go_at_call 28; with_reducible refine (HC2.out _ HX1.out HY1.out).mono ?_; clear c0 c1 c2 c3 c5; rintro e w1 ⟨rfl, hw1, hf1⟩; have HX2 := Lib.hid hw1; have HY2 := Lib.hid (HY1.out.trans hf1); have c0 := nad_cells (HBX.out w1 HY2.out) 0 _ rfl; have c1 := nad_cells (HBX.out w1 HY2.out) 1 _ rfl; have c2 := nad_cells (HBX.out w1 HY2.out) 2 _ rfl; have c3 := nad_cells (HBX.out w1 HY2.out) 3 _ rfl; have c5 := nad_cells (HBX.out w1 HY2.out) 5 _ rfl; clear hw1 hf1) | (go_at_call 21; with_reducible refine (HC3.out _ HX2.out HY2.out).mono ?_; clear c0 c1 c2 c3 c5; rintro e w1 ⟨rfl, hw1, hf1⟩; have HX3 := Lib.hid hw1; have HY3 := Lib.hid (HY2.out.trans hf1); have c0 := nad_cells (HBX.out w1 HY3.out) 0 _ rfl; have c1 := nad_cells (HBX.out w1 HY3.out) 1 _ rfl; have c2 := nad_cells (HBX.out w1 HY3.out) 2 _ rfl; have c3 := nad_cells (HBX.out w1 HY3.out) 3 _ rfl; have c5 := nad_cells (HBX.out w1 HY3.out) 5 _ rfl; clear hw1 hf1) | (go_at_call 22; with_reducible refine (HC4.out _ HX3.out HY3.out).mono ?_; clear c0 c1 c2 c3 c5; rintro e w1 ⟨rfl, hw1, hf1⟩; have HX4 := Lib.hid hw1; have HY4 := Lib.hid (HY3.out.trans hf1); clear hw1 hf1))
  all_goals (go_end0; exact ⟨rfl, by rw [← HO.out]; exact HX4.out, HFA.out.trans HY4.out⟩)
set_option maxHeartbeats 2000000 in
set_option maxRecDepth 100000 in
theorem nuc_7 {α : Type} (K : World → α → List Value → Prop) (f : List α → List UInt8) (G : List α → Prop) (w0 : World) (b : Nat) (hT : LexTabs w0) (hF : LC K f G w0 b)
    (a1 a2 a3 a4 : Int) (ps : List (List α)) (Ap : Option Addr) (cp : Nat) (Ar : Option Addr) (rs : List Int) (cr : Nat) (b1 b2 : Bool) (Au : Option Addr) (lu cu : Nat) (Ab : Option Addr) (lb cb : Nat) (out : List UInt8) (w : World) (hG : ∀ p ∈ ps, G p)
    (hp : rdS (fun l cs => ∃ v, cs = [v] ∧ rdS (K w0) 11 w0 v l) 1 w0 (.slice Ap ps.length cp) (ps : List (List α))) (hr : rdS (fun (n : Int) cs => cs = [.int .i64 n] ∧ inI n) 1 w0 (.slice Ar rs.length cr) rs)
    (hps : ps.length ≤ 2000000) (hpr : rs.length = ps.length + 1) (hw : Wb w0.heap.size b out w) (hb : Below w0.heap.size w0 w) (T : List UInt8) (hTX : T = fenceL f ps rs true) (hlen : out.length + T.length ≤ 140737488355328) :
    Calls Tryd.prog 20 #[.pointer (some ⟨b, 0, none⟩), .agg #[.int .i64 7, .int .i64 a1, .int .i64 a2, .int .i64 a3, .int .i64 a4, .slice Ap ps.length cp, .slice Ar rs.length cr, .bool b1, .bool b2, .slice Au lu cu, .slice Ab lb cb]] w fun e w' => e = .returned (.tuple #[]) ∧ Wb w0.heap.size b (out ++ T) w' ∧ Fr w0.heap.size b w w' := by
  obtain ⟨Wa, hWa⟩ : ∃ Wa, (w.alloc (Obj.cells #[.int .i64 7, .int .i64 a1, .int .i64 a2, .int .i64 a3, .int .i64 a4, .slice Ap ps.length cp, .slice Ar rs.length cr, .bool b1, .bool b2, .slice Au lu cu, .slice Ab lb cb] 33)).alloc (Obj.cells #[.string ⟨#[]⟩, .string ⟨#[]⟩, .string ⟨#[]⟩, .string ⟨#[]⟩, .string ⟨#[111, 118, 101, 114, 108, 105, 110, 101]⟩, .string ⟨#[117, 110, 100, 101, 114, 108, 105, 110, 101]⟩, .string ⟨#[]⟩, .string ⟨#[]⟩, .string ⟨#[]⟩, .string ⟨#[118, 99, 101, 110, 116, 101, 114]⟩, .string ⟨#[]⟩, .string ⟨#[]⟩] 62) = Wa := ⟨_, rfl⟩
  have hbox := (heap_alloc_old (w.alloc (Obj.cells #[.int .i64 7, .int .i64 a1, .int .i64 a2, .int .i64 a3, .int .i64 a4, .slice Ap ps.length cp, .slice Ar rs.length cr, .bool b1, .bool b2, .slice Au lu cu, .slice Ab lb cb] 33)) (Obj.cells #[.string ⟨#[]⟩, .string ⟨#[]⟩, .string ⟨#[]⟩, .string ⟨#[]⟩, .string ⟨#[111, 118, 101, 114, 108, 105, 110, 101]⟩, .string ⟨#[117, 110, 100, 101, 114, 108, 105, 110, 101]⟩, .string ⟨#[]⟩, .string ⟨#[]⟩, .string ⟨#[]⟩, .string ⟨#[118, 99, 101, 110, 116, 101, 114]⟩, .string ⟨#[]⟩, .string ⟨#[]⟩] 62) (show w.heap.size < _ by simp)).trans (heap_alloc_new w (Obj.cells #[.int .i64 7, .int .i64 a1, .int .i64 a2, .int .i64 a3, .int .i64 a4, .slice Ap ps.length cp, .slice Ar rs.length cr, .bool b1, .bool b2, .slice Au lu cu, .slice Ab lb cb] 33))
  have hsim := heap_alloc_new (w.alloc (Obj.cells #[.int .i64 7, .int .i64 a1, .int .i64 a2, .int .i64 a3, .int .i64 a4, .slice Ap ps.length cp, .slice Ar rs.length cr, .bool b1, .bool b2, .slice Au lu cu, .slice Ab lb cb] 33)) (Obj.cells #[.string ⟨#[]⟩, .string ⟨#[]⟩, .string ⟨#[]⟩, .string ⟨#[]⟩, .string ⟨#[111, 118, 101, 114, 108, 105, 110, 101]⟩, .string ⟨#[117, 110, 100, 101, 114, 108, 105, 110, 101]⟩, .string ⟨#[]⟩, .string ⟨#[]⟩, .string ⟨#[]⟩, .string ⟨#[118, 99, 101, 110, 116, 101, 114]⟩, .string ⟨#[]⟩, .string ⟨#[]⟩] 62)
  have hFA := ((Fr.refl w0.heap.size b w).alloc hb.size (Obj.cells #[.int .i64 7, .int .i64 a1, .int .i64 a2, .int .i64 a3, .int .i64 a4, .slice Ap ps.length cp, .slice Ar rs.length cr, .bool b1, .bool b2, .slice Au lu cu, .slice Ab lb cb] 33)).alloc hb.size (Obj.cells #[.string ⟨#[]⟩, .string ⟨#[]⟩, .string ⟨#[]⟩, .string ⟨#[]⟩, .string ⟨#[111, 118, 101, 114, 108, 105, 110, 101]⟩, .string ⟨#[117, 110, 100, 101, 114, 108, 105, 110, 101]⟩, .string ⟨#[]⟩, .string ⟨#[]⟩, .string ⟨#[]⟩, .string ⟨#[118, 99, 101, 110, 116, 101, 114]⟩, .string ⟨#[]⟩, .string ⟨#[]⟩] 62)
  have hwa := (hw.alloc (Obj.cells #[.int .i64 7, .int .i64 a1, .int .i64 a2, .int .i64 a3, .int .i64 a4, .slice Ap ps.length cp, .slice Ar rs.length cr, .bool b1, .bool b2, .slice Au lu cu, .slice Ab lb cb] 33)).alloc (Obj.cells #[.string ⟨#[]⟩, .string ⟨#[]⟩, .string ⟨#[]⟩, .string ⟨#[]⟩, .string ⟨#[111, 118, 101, 114, 108, 105, 110, 101]⟩, .string ⟨#[117, 110, 100, 101, 114, 108, 105, 110, 101]⟩, .string ⟨#[]⟩, .string ⟨#[]⟩, .string ⟨#[]⟩, .string ⟨#[118, 99, 101, 110, 116, 101, 114]⟩, .string ⟨#[]⟩, .string ⟨#[]⟩] 62)
  rw [hWa] at hbox hFA hwa hsim
  rw [show (w.alloc (Obj.cells #[.int .i64 7, .int .i64 a1, .int .i64 a2, .int .i64 a3, .int .i64 a4, .slice Ap ps.length cp, .slice Ar rs.length cr, .bool b1, .bool b2, .slice Au lu cu, .slice Ab lb cb] 33)).heap.size = w.heap.size + 1 by simp] at hsim
  have HBX : Hid (∀ w2, Fr w0.heap.size b Wa w2 → _) := Lib.hid fun w2 hf => box_kept hbox hw hf
  have HFA := Lib.hid hFA
  have HX0 := Lib.hid hwa
  have HFF := Lib.hid hF
  have HGG := Lib.hid hG
  have HP := Lib.hid hp
  have HR := Lib.hid hr
  have HL := Lib.hid hlen
  have HTT := Lib.hid hT
  have HTX := Lib.hid hTX
  have HSM := Lib.hid hsim
  have HPR := Lib.hid hpr
  have HPS := Lib.hid hps
  have HB := Lib.hid (hb.trans hFA.below)
  have HY0 := Lib.hid (Fr.refl w0.heap.size b Wa)
  obtain ⟨k, hk⟩ : ∃ k, w.heap.size = k := ⟨_, rfl⟩
  rw [hk] at HBX HSM
  clear hF hG hp hr hb hlen hT hw hwa hFA hbox hTX hsim hps hpr
  obtain ⟨O0, hO0⟩ : ∃ O0, out = O0 := ⟨_, rfl⟩
  rw [hO0] at HX0
  obtain ⟨O1, hO1⟩ : ∃ O1, O0 ++ fenceL f ps rs true = O1 := ⟨_, rfl⟩
  have HO : Hid (O1 = out ++ T) := Lib.hid (by rw [← hO1, ← hO0, HTX.out]; try simp)
  have HLL1 : Hid (O0.length + (fenceL f ps rs true : List UInt8).length ≤ 140737488355328) := Lib.hid (by
    have h1 := congrArg List.length HO.out
    have h2 := HL.out
    have g1 := congrArg List.length hO1
    simp only [List.length_append, List.length_cons, List.length_nil] at h1 h2 g1 ⊢
    omega)
  have HC1 : Hid (∀ w1 : World, Wb w0.heap.size b O0 w1 → Fr w0.heap.size b Wa w1 → _) := Lib.hid fun w1 hw1 hf1 => fence_calls K f G w0 b HTT.out HFF.out 7 a1 a2 a3 a4 ps Ap cp Ar rs cr b1 b2 Au lu cu Ab lb cb O0 w1 HGG.out HP.out HR.out HPS.out HPR.out hw1 (HB.out.trans hf1.below) HLL1.out
  rw [hO1] at HC1
  have HHO := Lib.hid (And.intro hO0 trivial)
  clear hO0 hO1 HHO
  have HWE := Lib.hid hWa
  have HK := Lib.hid hk
  clear hWa hk
  go_enter Tryd.func20, Tryd.ntmps20
  go_upto_region 2 with fail
  rw [HWE.out, HK.out]
  have c0 := nad_cells (HBX.out Wa (Fr.refl _ _ _)) 0 _ rfl
  have c1 := nad_cells (HBX.out Wa (Fr.refl _ _ _)) 1 _ rfl
  have c2 := nad_cells (HBX.out Wa (Fr.refl _ _ _)) 2 _ rfl
  have c3 := nad_cells (HBX.out Wa (Fr.refl _ _ _)) 3 _ rfl
  have c4 := nad_cells (HBX.out Wa (Fr.refl _ _ _)) 4 _ rfl
  have c5 := nad_cells (HBX.out Wa (Fr.refl _ _ _)) 5 _ rfl
  have c6 := nad_cells (HBX.out Wa (Fr.refl _ _ _)) 6 _ rfl
  have c7 := nad_cells (HBX.out Wa (Fr.refl _ _ _)) 7 _ rfl
  have c8 := nad_cells (HBX.out Wa (Fr.refl _ _ _)) 8 _ rfl
  have c9 := nad_cells (HBX.out Wa (Fr.refl _ _ _)) 9 _ rfl
  have c10 := nad_cells (HBX.out Wa (Fr.refl _ _ _)) 10 _ rfl
  go_wp2_with (first | (go_at_call 29; with_reducible refine (HC1.out _ HX0.out HY0.out).mono ?_; clear c0 c1 c2 c3 c5; rintro e w1 ⟨rfl, hw1, hf1⟩; have HX1 := Lib.hid hw1; have HY1 := Lib.hid (HY0.out.trans hf1); clear hw1 hf1))
  all_goals (go_end0; exact ⟨rfl, by rw [← HO.out]; exact HX1.out, HFA.out.trans HY1.out⟩)
set_option maxHeartbeats 2000000 in
set_option maxRecDepth 100000 in
theorem nuc_8 {α : Type} (K : World → α → List Value → Prop) (f : List α → List UInt8) (G : List α → Prop) (w0 : World) (b : Nat) (hT : LexTabs w0) (hF : LC K f G w0 b)
    (a1 a2 a3 a4 : Int) (ps : List (List α)) (Ap : Option Addr) (cp : Nat) (Ar : Option Addr) (rs : List Int) (cr : Nat) (b1 b2 : Bool) (Au : Option Addr) (lu cu : Nat) (Ab : Option Addr) (lb cb : Nat) (out : List UInt8) (w : World) (hG : ∀ p ∈ ps, G p)
    (hp : rdS (fun l cs => ∃ v, cs = [v] ∧ rdS (K w0) 11 w0 v l) 1 w0 (.slice Ap ps.length cp) (ps : List (List α))) (hr : rdS (fun (n : Int) cs => cs = [.int .i64 n] ∧ inI n) 1 w0 (.slice Ar rs.length cr) rs)
    (hps : ps.length ≤ 2000000) (hn1 : 1 ≤ a3) (hw : Wb w0.heap.size b out w) (hb : Below w0.heap.size w0 w) (T : List UInt8) (hTX : T = [92, 109, 97, 116, 114, 105, 120, 123] ++ matrixL f a3 ps 0) (hlen : out.length + T.length ≤ 140737488355328) :
    Calls Tryd.prog 20 #[.pointer (some ⟨b, 0, none⟩), .agg #[.int .i64 8, .int .i64 a1, .int .i64 a2, .int .i64 a3, .int .i64 a4, .slice Ap ps.length cp, .slice Ar rs.length cr, .bool b1, .bool b2, .slice Au lu cu, .slice Ab lb cb]] w fun e w' => e = .returned (.tuple #[]) ∧ Wb w0.heap.size b (out ++ T) w' ∧ Fr w0.heap.size b w w' := by
  obtain ⟨Wa, hWa⟩ : ∃ Wa, (w.alloc (Obj.cells #[.int .i64 8, .int .i64 a1, .int .i64 a2, .int .i64 a3, .int .i64 a4, .slice Ap ps.length cp, .slice Ar rs.length cr, .bool b1, .bool b2, .slice Au lu cu, .slice Ab lb cb] 33)).alloc (Obj.cells #[.string ⟨#[]⟩, .string ⟨#[]⟩, .string ⟨#[]⟩, .string ⟨#[]⟩, .string ⟨#[111, 118, 101, 114, 108, 105, 110, 101]⟩, .string ⟨#[117, 110, 100, 101, 114, 108, 105, 110, 101]⟩, .string ⟨#[]⟩, .string ⟨#[]⟩, .string ⟨#[]⟩, .string ⟨#[118, 99, 101, 110, 116, 101, 114]⟩, .string ⟨#[]⟩, .string ⟨#[]⟩] 62) = Wa := ⟨_, rfl⟩
  have hbox := (heap_alloc_old (w.alloc (Obj.cells #[.int .i64 8, .int .i64 a1, .int .i64 a2, .int .i64 a3, .int .i64 a4, .slice Ap ps.length cp, .slice Ar rs.length cr, .bool b1, .bool b2, .slice Au lu cu, .slice Ab lb cb] 33)) (Obj.cells #[.string ⟨#[]⟩, .string ⟨#[]⟩, .string ⟨#[]⟩, .string ⟨#[]⟩, .string ⟨#[111, 118, 101, 114, 108, 105, 110, 101]⟩, .string ⟨#[117, 110, 100, 101, 114, 108, 105, 110, 101]⟩, .string ⟨#[]⟩, .string ⟨#[]⟩, .string ⟨#[]⟩, .string ⟨#[118, 99, 101, 110, 116, 101, 114]⟩, .string ⟨#[]⟩, .string ⟨#[]⟩] 62) (show w.heap.size < _ by simp)).trans (heap_alloc_new w (Obj.cells #[.int .i64 8, .int .i64 a1, .int .i64 a2, .int .i64 a3, .int .i64 a4, .slice Ap ps.length cp, .slice Ar rs.length cr, .bool b1, .bool b2, .slice Au lu cu, .slice Ab lb cb] 33))
  have hsim := heap_alloc_new (w.alloc (Obj.cells #[.int .i64 8, .int .i64 a1, .int .i64 a2, .int .i64 a3, .int .i64 a4, .slice Ap ps.length cp, .slice Ar rs.length cr, .bool b1, .bool b2, .slice Au lu cu, .slice Ab lb cb] 33)) (Obj.cells #[.string ⟨#[]⟩, .string ⟨#[]⟩, .string ⟨#[]⟩, .string ⟨#[]⟩, .string ⟨#[111, 118, 101, 114, 108, 105, 110, 101]⟩, .string ⟨#[117, 110, 100, 101, 114, 108, 105, 110, 101]⟩, .string ⟨#[]⟩, .string ⟨#[]⟩, .string ⟨#[]⟩, .string ⟨#[118, 99, 101, 110, 116, 101, 114]⟩, .string ⟨#[]⟩, .string ⟨#[]⟩] 62)
  have hFA := ((Fr.refl w0.heap.size b w).alloc hb.size (Obj.cells #[.int .i64 8, .int .i64 a1, .int .i64 a2, .int .i64 a3, .int .i64 a4, .slice Ap ps.length cp, .slice Ar rs.length cr, .bool b1, .bool b2, .slice Au lu cu, .slice Ab lb cb] 33)).alloc hb.size (Obj.cells #[.string ⟨#[]⟩, .string ⟨#[]⟩, .string ⟨#[]⟩, .string ⟨#[]⟩, .string ⟨#[111, 118, 101, 114, 108, 105, 110, 101]⟩, .string ⟨#[117, 110, 100, 101, 114, 108, 105, 110, 101]⟩, .string ⟨#[]⟩, .string ⟨#[]⟩, .string ⟨#[]⟩, .string ⟨#[118, 99, 101, 110, 116, 101, 114]⟩, .string ⟨#[]⟩, .string ⟨#[]⟩] 62)
  have hwa := (hw.alloc (Obj.cells #[.int .i64 8, .int .i64 a1, .int .i64 a2, .int .i64 a3, .int .i64 a4, .slice Ap ps.length cp, .slice Ar rs.length cr, .bool b1, .bool b2, .slice Au lu cu, .slice Ab lb cb] 33)).alloc (Obj.cells #[.string ⟨#[]⟩, .string ⟨#[]⟩, .string ⟨#[]⟩, .string ⟨#[]⟩, .string ⟨#[111, 118, 101, 114, 108, 105, 110, 101]⟩, .string ⟨#[117, 110, 100, 101, 114, 108, 105, 110, 101]⟩, .string ⟨#[]⟩, .string ⟨#[]⟩, .string ⟨#[]⟩, .string ⟨#[118, 99, 101, 110, 116, 101, 114]⟩, .string ⟨#[]⟩, .string ⟨#[]⟩] 62)
  rw [hWa] at hbox hFA hwa hsim
  rw [show (w.alloc (Obj.cells #[.int .i64 8, .int .i64 a1, .int .i64 a2, .int .i64 a3, .int .i64 a4, .slice Ap ps.length cp, .slice Ar rs.length cr, .bool b1, .bool b2, .slice Au lu cu, .slice Ab lb cb] 33)).heap.size = w.heap.size + 1 by simp] at hsim
  have HBX : Hid (∀ w2, Fr w0.heap.size b Wa w2 → _) := Lib.hid fun w2 hf => box_kept hbox hw hf
  have HFA := Lib.hid hFA
  have HX0 := Lib.hid hwa
  have HFF := Lib.hid hF
  have HGG := Lib.hid hG
  have HP := Lib.hid hp
  have HR := Lib.hid hr
  have HL := Lib.hid hlen
  have HTT := Lib.hid hT
  have HTX := Lib.hid hTX
  have HSM := Lib.hid hsim
  have HN1 := Lib.hid hn1
  have HPS := Lib.hid hps
  have HB := Lib.hid (hb.trans hFA.below)
  have HY0 := Lib.hid (Fr.refl w0.heap.size b Wa)
  obtain ⟨k, hk⟩ : ∃ k, w.heap.size = k := ⟨_, rfl⟩
  rw [hk] at HBX HSM
  clear hF hG hp hr hb hlen hT hw hwa hFA hbox hTX hsim hps hn1
  obtain ⟨O0, hO0⟩ : ∃ O0, out = O0 := ⟨_, rfl⟩
  rw [hO0] at HX0
  obtain ⟨O1, hO1⟩ : ∃ O1, O0 ++ ([92, 109, 97, 116, 114, 105, 120, 123] ++ matrixL f a3 ps 0) = O1 := ⟨_, rfl⟩
  have HO : Hid (O1 = out ++ T) := Lib.hid (by rw [← hO1, ← hO0, HTX.out]; try simp)
  have HLL1 : Hid (O0.length + (([92, 109, 97, 116, 114, 105, 120, 123] ++ matrixL f a3 ps 0) : List UInt8).length ≤ 140737488355328) := Lib.hid (by
    have h1 := congrArg List.length HO.out
    have h2 := HL.out
    have g1 := congrArg List.length hO1
    simp only [List.length_append, List.length_cons, List.length_nil] at h1 h2 g1 ⊢
    omega)
  have HC1 : Hid (∀ w1 : World, Wb w0.heap.size b O0 w1 → Fr w0.heap.size b Wa w1 → _) := Lib.hid fun w1 hw1 hf1 => matrix_calls K f G w0 b HTT.out HFF.out 8 a1 a2 a3 a4 HN1.out ps Ap cp Ar rs cr b1 b2 Au lu cu Ab lb cb O0 w1 HGG.out HP.out HR.out HPS.out hw1 (HB.out.trans hf1.below) HLL1.out
  rw [hO1] at HC1
  have HHO := Lib.hid (And.intro hO0 trivial)
  clear hO0 hO1 HHO
  have HWE := Lib.hid hWa
  have HK := Lib.hid hk
  clear hWa hk
  go_enter Tryd.func20, Tryd.ntmps20
  go_upto_region 2 with fail
  rw [HWE.out, HK.out]
  have c0 := nad_cells (HBX.out Wa (Fr.refl _ _ _)) 0 _ rfl
  have c1 := nad_cells (HBX.out Wa (Fr.refl _ _ _)) 1 _ rfl
  have c2 := nad_cells (HBX.out Wa (Fr.refl _ _ _)) 2 _ rfl
  have c3 := nad_cells (HBX.out Wa (Fr.refl _ _ _)) 3 _ rfl
  have c4 := nad_cells (HBX.out Wa (Fr.refl _ _ _)) 4 _ rfl
  have c5 := nad_cells (HBX.out Wa (Fr.refl _ _ _)) 5 _ rfl
  have c6 := nad_cells (HBX.out Wa (Fr.refl _ _ _)) 6 _ rfl
  have c7 := nad_cells (HBX.out Wa (Fr.refl _ _ _)) 7 _ rfl
  have c8 := nad_cells (HBX.out Wa (Fr.refl _ _ _)) 8 _ rfl
  have c9 := nad_cells (HBX.out Wa (Fr.refl _ _ _)) 9 _ rfl
  have c10 := nad_cells (HBX.out Wa (Fr.refl _ _ _)) 10 _ rfl
  go_wp2_with (first | (go_at_call 30; with_reducible refine (HC1.out _ HX0.out HY0.out).mono ?_; clear c0 c1 c2 c3 c5; rintro e w1 ⟨rfl, hw1, hf1⟩; have HX1 := Lib.hid hw1; have HY1 := Lib.hid (HY0.out.trans hf1); clear hw1 hf1))
  all_goals (go_end0; exact ⟨rfl, by rw [← HO.out]; exact HX1.out, HFA.out.trans HY1.out⟩)
set_option maxHeartbeats 2000000 in
set_option maxRecDepth 100000 in
theorem nuc_10_0 {α : Type} (K : World → α → List Value → Prop) (f : List α → List UInt8) (G : List α → Prop) (w0 : World) (b : Nat) (hT : LexTabs w0) (hF : LC K f G w0 b)
    (a1 a2 a4 : Int) (ps : List (List α)) (Ap : Option Addr) (cp : Nat) (Ar : Option Addr) (rs : List Int) (cr : Nat) (b1 b2 : Bool) (Au : Option Addr) (lu cu : Nat) (Ab : Option Addr) (lb cb : Nat) (out : List UInt8) (w : World) (hG : ∀ p ∈ ps, G p)
    (hp : rdS (fun l cs => ∃ v, cs = [v] ∧ rdS (K w0) 11 w0 v l) 1 w0 (.slice Ap ps.length cp) (ps : List (List α))) (hr : rdS (fun (n : Int) cs => cs = [.int .i64 n] ∧ inI n) 1 w0 (.slice Ar rs.length cr) rs)
    (hps : ps.length ≤ 2000000) (hw : Wb w0.heap.size b out w) (hb : Below w0.heap.size w0 w) (T : List UInt8) (hTX : T = 92 :: [100, 105, 115, 112, 108, 97, 121, 115, 116, 121, 108, 101, 32]) (hlen : out.length + T.length ≤ 140737488355328) :
    Calls Tryd.prog 20 #[.pointer (some ⟨b, 0, none⟩), .agg #[.int .i64 10, .int .i64 a1, .int .i64 a2, .int .i64 0, .int .i64 a4, .slice Ap ps.length cp, .slice Ar rs.length cr, .bool b1, .bool b2, .slice Au lu cu, .slice Ab lb cb]] w fun e w' => e = .returned (.tuple #[]) ∧ Wb w0.heap.size b (out ++ T) w' ∧ Fr w0.heap.size b w w' := by
  obtain ⟨Wa, hWa⟩ : ∃ Wa, (w.alloc (Obj.cells #[.int .i64 10, .int .i64 a1, .int .i64 a2, .int .i64 0, .int .i64 a4, .slice Ap ps.length cp, .slice Ar rs.length cr, .bool b1, .bool b2, .slice Au lu cu, .slice Ab lb cb] 33)).alloc (Obj.cells #[.string ⟨#[]⟩, .string ⟨#[]⟩, .string ⟨#[]⟩, .string ⟨#[]⟩, .string ⟨#[111, 118, 101, 114, 108, 105, 110, 101]⟩, .string ⟨#[117, 110, 100, 101, 114, 108, 105, 110, 101]⟩, .string ⟨#[]⟩, .string ⟨#[]⟩, .string ⟨#[]⟩, .string ⟨#[118, 99, 101, 110, 116, 101, 114]⟩, .string ⟨#[]⟩, .string ⟨#[]⟩] 62) = Wa := ⟨_, rfl⟩
  have hbox := (heap_alloc_old (w.alloc (Obj.cells #[.int .i64 10, .int .i64 a1, .int .i64 a2, .int .i64 0, .int .i64 a4, .slice Ap ps.length cp, .slice Ar rs.length cr, .bool b1, .bool b2, .slice Au lu cu, .slice Ab lb cb] 33)) (Obj.cells #[.string ⟨#[]⟩, .string ⟨#[]⟩, .string ⟨#[]⟩, .string ⟨#[]⟩, .string ⟨#[111, 118, 101, 114, 108, 105, 110, 101]⟩, .string ⟨#[117, 110, 100, 101, 114, 108, 105, 110, 101]⟩, .string ⟨#[]⟩, .string ⟨#[]⟩, .string ⟨#[]⟩, .string ⟨#[118, 99, 101, 110, 116, 101, 114]⟩, .string ⟨#[]⟩, .string ⟨#[]⟩] 62) (show w.heap.size < _ by simp)).trans (heap_alloc_new w (Obj.cells #[.int .i64 10, .int .i64 a1, .int .i64 a2, .int .i64 0, .int .i64 a4, .slice Ap ps.length cp, .slice Ar rs.length cr, .bool b1, .bool b2, .slice Au lu cu, .slice Ab lb cb] 33))
  have hsim := heap_alloc_new (w.alloc (Obj.cells #[.int .i64 10, .int .i64 a1, .int .i64 a2, .int .i64 0, .int .i64 a4, .slice Ap ps.length cp, .slice Ar rs.length cr, .bool b1, .bool b2, .slice Au lu cu, .slice Ab lb cb] 33)) (Obj.cells #[.string ⟨#[]⟩, .string ⟨#[]⟩, .string ⟨#[]⟩, .string ⟨#[]⟩, .string ⟨#[111, 118, 101, 114, 108, 105, 110, 101]⟩, .string ⟨#[117, 110, 100, 101, 114, 108, 105, 110, 101]⟩, .string ⟨#[]⟩, .string ⟨#[]⟩, .string ⟨#[]⟩, .string ⟨#[118, 99, 101, 110, 116, 101, 114]⟩, .string ⟨#[]⟩, .string ⟨#[]⟩] 62)
  have hFA := ((Fr.refl w0.heap.size b w).alloc hb.size (Obj.cells #[.int .i64 10, .int .i64 a1, .int .i64 a2, .int .i64 0, .int .i64 a4, .slice Ap ps.length cp, .slice Ar rs.length cr, .bool b1, .bool b2, .slice Au lu cu, .slice Ab lb cb] 33)).alloc hb.size (Obj.cells #[.string ⟨#[]⟩, .string ⟨#[]⟩, .string ⟨#[]⟩, .string ⟨#[]⟩, .string ⟨#[111, 118, 101, 114, 108, 105, 110, 101]⟩, .string ⟨#[117, 110, 100, 101, 114, 108, 105, 110, 101]⟩, .string ⟨#[]⟩, .string ⟨#[]⟩, .string ⟨#[]⟩, .string ⟨#[118, 99, 101, 110, 116, 101, 114]⟩, .string ⟨#[]⟩, .string ⟨#[]⟩] 62)
  have hwa := (hw.alloc (Obj.cells #[.int .i64 10, .int .i64 a1, .int .i64 a2, .int .i64 0, .int .i64 a4, .slice Ap ps.length cp, .slice Ar rs.length cr, .bool b1, .bool b2, .slice Au lu cu, .slice Ab lb cb] 33)).alloc (Obj.cells #[.string ⟨#[]⟩, .string ⟨#[]⟩, .string ⟨#[]⟩, .string ⟨#[]⟩, .string ⟨#[111, 118, 101, 114, 108, 105, 110, 101]⟩, .string ⟨#[117, 110, 100, 101, 114, 108, 105, 110, 101]⟩, .string ⟨#[]⟩, .string ⟨#[]⟩, .string ⟨#[]⟩, .string ⟨#[118, 99, 101, 110, 116, 101, 114]⟩, .string ⟨#[]⟩, .string ⟨#[]⟩] 62)
  rw [hWa] at hbox hFA hwa hsim
  rw [show (w.alloc (Obj.cells #[.int .i64 10, .int .i64 a1, .int .i64 a2, .int .i64 0, .int .i64 a4, .slice Ap ps.length cp, .slice Ar rs.length cr, .bool b1, .bool b2, .slice Au lu cu, .slice Ab lb cb] 33)).heap.size = w.heap.size + 1 by simp] at hsim
  have HBX : Hid (∀ w2, Fr w0.heap.size b Wa w2 → _) := Lib.hid fun w2 hf => box_kept hbox hw hf
  have HFA := Lib.hid hFA
  have HX0 := Lib.hid hwa
  have HFF := Lib.hid hF
  have HGG := Lib.hid hG
  have HP := Lib.hid hp
  have HR := Lib.hid hr
  have HL := Lib.hid hlen
  have HTT := Lib.hid hT
  have HTX := Lib.hid hTX
  have HSM := Lib.hid hsim
  have HPS := Lib.hid hps
  have HB := Lib.hid (hb.trans hFA.below)
  have HY0 := Lib.hid (Fr.refl w0.heap.size b Wa)
  obtain ⟨k, hk⟩ : ∃ k, w.heap.size = k := ⟨_, rfl⟩
  rw [hk] at HBX HSM
  clear hF hG hp hr hb hlen hT hw hwa hFA hbox hTX hsim hps
  obtain ⟨O0, hO0⟩ : ∃ O0, out = O0 := ⟨_, rfl⟩
  rw [hO0] at HX0
  obtain ⟨O1, hO1⟩ : ∃ O1, O0 ++ (92 :: [100, 105, 115, 112, 108, 97, 121, 115, 116, 121, 108, 101, 32]) = O1 := ⟨_, rfl⟩
  have HO : Hid (O1 = out ++ T) := Lib.hid (by rw [← hO1, ← hO0, HTX.out]; try simp)
  have HLL1 : Hid (O0.length + ((92 :: [100, 105, 115, 112, 108, 97, 121, 115, 116, 121, 108, 101, 32]) : List UInt8).length ≤ 140737488355328) := Lib.hid (by
    have h1 := congrArg List.length HO.out
    have h2 := HL.out
    have g1 := congrArg List.length hO1
    simp only [List.length_append, List.length_cons, List.length_nil] at h1 h2 g1 ⊢
    omega)
  have HC1 : Hid (∀ w1 : World, Wb w0.heap.size b O0 w1 → Fr w0.heap.size b Wa w1 → _) := Lib.hid fun w1 hw1 hf1 => sw_word w0.heap.size b O0 ⟨#[100, 105, 115, 112, 108, 97, 121, 115, 116, 121, 108, 101, 32]⟩ [100, 105, 115, 112, 108, 97, 121, 115, 116, 121, 108, 101, 32] rfl w1 hw1 (by have := HLL1.out; simp only [List.length_append, List.length_cons, List.length_nil] at this ⊢; omega) (hf1.size HB.out.size)
  rw [hO1] at HC1
  have HHO := Lib.hid (And.intro hO0 trivial)
  clear hO0 hO1 HHO
  have HWE := Lib.hid hWa
  have HK := Lib.hid hk
  clear hWa hk
  have hix := (fun w : World => (show (Instr.index 66 (.agg #[.string ⟨#[100, 105, 115, 112, 108, 97, 121, 115, 116, 121, 108, 101, 32]⟩, .string ⟨#[116, 101, 120, 116, 115, 116, 121, 108, 101, 32]⟩, .string ⟨#[115, 99, 114, 105, 112, 116, 115, 116, 121, 108, 101, 32]⟩, .string ⟨#[115, 99, 114, 105, 112, 116, 115, 99, 114, 105, 112, 116, 115, 116, 121, 108, 101, 32]⟩]) (.int .i64 0)).run Tryd.prog w = .ok (.string ⟨#[100, 105, 115, 112, 108, 97, 121, 115, 116, 121, 108, 101, 32]⟩) w from idx_run _ 9 4 _ 0 _ w Tryd.underlying66 (Tryd.sizeOf9 w) (by decide) rfl (Tryd.isAgg9 w)))
  go_enter Tryd.func20, Tryd.ntmps20
  go_upto_region 2 with fail
  rw [HWE.out, HK.out]
  have c0 := nad_cells (HBX.out Wa (Fr.refl _ _ _)) 0 _ rfl
  have c1 := nad_cells (HBX.out Wa (Fr.refl _ _ _)) 1 _ rfl
  have c2 := nad_cells (HBX.out Wa (Fr.refl _ _ _)) 2 _ rfl
  have c3 := nad_cells (HBX.out Wa (Fr.refl _ _ _)) 3 _ rfl
  have c4 := nad_cells (HBX.out Wa (Fr.refl _ _ _)) 4 _ rfl
  have c5 := nad_cells (HBX.out Wa (Fr.refl _ _ _)) 5 _ rfl
  have c6 := nad_cells (HBX.out Wa (Fr.refl _ _ _)) 6 _ rfl
  have c7 := nad_cells (HBX.out Wa (Fr.refl _ _ _)) 7 _ rfl
  have c8 := nad_cells (HBX.out Wa (Fr.refl _ _ _)) 8 _ rfl
  have c9 := nad_cells (HBX.out Wa (Fr.refl _ _ _)) 9 _ rfl
  have c10 := nad_cells (HBX.out Wa (Fr.refl _ _ _)) 10 _ rfl
  go_wp2_with (first | (go_at_call 19; with_reducible refine (HC1.out _ HX0.out HY0.out).mono ?_; clear c0 c1 c2 c3 c5; rintro e w1 ⟨rfl, hw1, hf1⟩; have HX1 := Lib.hid hw1; have HY1 := Lib.hid (HY0.out.trans hf1); clear hw1 hf1))
  all_goals (go_end0; exact ⟨rfl, by rw [← HO.out]; exact HX1.out, HFA.out.trans HY1.out⟩)
set_option maxHeartbeats 2000000 in
set_option maxRecDepth 100000 in
theorem nuc_10_1 {α : Type} (K : World → α → List Value → Prop) (f : List α → List UInt8) (G : List α → Prop) (w0 : World) (b : Nat) (hT : LexTabs w0) (hF : LC K f G w0 b)
    (a1 a2 a4 : Int) (ps : List (List α)) (Ap : Option Addr) (cp : Nat) (Ar : Option Addr) (rs : List Int) (cr : Nat) (b1 b2 : Bool) (Au : Option Addr) (lu cu : Nat) (Ab : Option Addr) (lb cb : Nat) (out : List UInt8) (w : World) (hG : ∀ p ∈ ps, G p)
    (hp : rdS (fun l cs => ∃ v, cs = [v] ∧ rdS (K w0) 11 w0 v l) 1 w0 (.slice Ap ps.length cp) (ps : List (List α))) (hr : rdS (fun (n : Int) cs => cs = [.int .i64 n] ∧ inI n) 1 w0 (.slice Ar rs.length cr) rs)
    (hps : ps.length ≤ 2000000) (hw : Wb w0.heap.size b out w) (hb : Below w0.heap.size w0 w) (T : List UInt8) (hTX : T = 92 :: [116, 101, 120, 116, 115, 116, 121, 108, 101, 32]) (hlen : out.length + T.length ≤ 140737488355328) :
    Calls Tryd.prog 20 #[.pointer (some ⟨b, 0, none⟩), .agg #[.int .i64 10, .int .i64 a1, .int .i64 a2, .int .i64 1, .int .i64 a4, .slice Ap ps.length cp, .slice Ar rs.length cr, .bool b1, .bool b2, .slice Au lu cu, .slice Ab lb cb]] w fun e w' => e = .returned (.tuple #[]) ∧ Wb w0.heap.size b (out ++ T) w' ∧ Fr w0.heap.size b w w' := by
  obtain ⟨Wa, hWa⟩ : ∃ Wa, (w.alloc (Obj.cells #[.int .i64 10, .int .i64 a1, .int .i64 a2, .int .i64 1, .int .i64 a4, .slice Ap ps.length cp, .slice Ar rs.length cr, .bool b1, .bool b2, .slice Au lu cu, .slice Ab lb cb] 33)).alloc (Obj.cells #[.string ⟨#[]⟩, .string ⟨#[]⟩, .string ⟨#[]⟩, .string ⟨#[]⟩, .string ⟨#[111, 118, 101, 114, 108, 105, 110, 101]⟩, .string ⟨#[117, 110, 100, 101, 114, 108, 105, 110, 101]⟩, .string ⟨#[]⟩, .string ⟨#[]⟩, .string ⟨#[]⟩, .string ⟨#[118, 99, 101, 110, 116, 101, 114]⟩, .string ⟨#[]⟩, .string ⟨#[]⟩] 62) = Wa := ⟨_, rfl⟩
  have hbox := (heap_alloc_old (w.alloc (Obj.cells #[.int .i64 10, .int .i64 a1, .int .i64 a2, .int .i64 1, .int .i64 a4, .slice Ap ps.length cp, .slice Ar rs.length cr, .bool b1, .bool b2, .slice Au lu cu, .slice Ab lb cb] 33)) (Obj.cells #[.string ⟨#[]⟩, .string ⟨#[]⟩, .string ⟨#[]⟩, .string ⟨#[]⟩, .string ⟨#[111, 118, 101, 114, 108, 105, 110, 101]⟩, .string ⟨#[117, 110, 100, 101, 114, 108, 105, 110, 101]⟩, .string ⟨#[]⟩, .string ⟨#[]⟩, .string ⟨#[]⟩, .string ⟨#[118, 99, 101, 110, 116, 101, 114]⟩, .string ⟨#[]⟩, .string ⟨#[]⟩] 62) (show w.heap.size < _ by simp)).trans (heap_alloc_new w (Obj.cells #[.int .i64 10, .int .i64 a1, .int .i64 a2, .int .i64 1, .int .i64 a4, .slice Ap ps.length cp, .slice Ar rs.length cr, .bool b1, .bool b2, .slice Au lu cu, .slice Ab lb cb] 33))
  have hsim := heap_alloc_new (w.alloc (Obj.cells #[.int .i64 10, .int .i64 a1, .int .i64 a2, .int .i64 1, .int .i64 a4, .slice Ap ps.length cp, .slice Ar rs.length cr, .bool b1, .bool b2, .slice Au lu cu, .slice Ab lb cb] 33)) (Obj.cells #[.string ⟨#[]⟩, .string ⟨#[]⟩, .string ⟨#[]⟩, .string ⟨#[]⟩, .string ⟨#[111, 118, 101, 114, 108, 105, 110, 101]⟩, .string ⟨#[117, 110, 100, 101, 114, 108, 105, 110, 101]⟩, .string ⟨#[]⟩, .string ⟨#[]⟩, .string ⟨#[]⟩, .string ⟨#[118, 99, 101, 110, 116, 101, 114]⟩, .string ⟨#[]⟩, .string ⟨#[]⟩] 62)
  have hFA := ((Fr.refl w0.heap.size b w).alloc hb.size (Obj.cells #[.int .i64 10, .int .i64 a1, .int .i64 a2, .int .i64 1, .int .i64 a4, .slice Ap ps.length cp, .slice Ar rs.length cr, .bool b1, .bool b2, .slice Au lu cu, .slice Ab lb cb] 33)).alloc hb.size (Obj.cells #[.string ⟨#[]⟩, .string ⟨#[]⟩, .string ⟨#[]⟩, .string ⟨#[]⟩, .string ⟨#[111, 118, 101, 114, 108, 105, 110, 101]⟩, .string ⟨#[117, 110, 100, 101, 114, 108, 105, 110, 101]⟩, .string ⟨#[]⟩, .string ⟨#[]⟩, .string ⟨#[]⟩, .string ⟨#[118, 99, 101, 110, 116, 101, 114]⟩, .string ⟨#[]⟩, .string ⟨#[]⟩] 62)
  have hwa := (hw.alloc (Obj.cells #[.int .i64 10, .int .i64 a1, .int .i64 a2, .int .i64 1, .int .i64 a4, .slice Ap ps.length cp, .slice Ar rs.length cr, .bool b1, .bool b2, .slice Au lu cu, .slice Ab lb cb] 33)).alloc (Obj.cells #[.string ⟨#[]⟩, .string ⟨#[]⟩, .string ⟨#[]⟩, .string ⟨#[]⟩, .string ⟨#[111, 118, 101, 114, 108, 105, 110, 101]⟩, .string ⟨#[117, 110, 100, 101, 114, 108, 105, 110, 101]⟩, .string ⟨#[]⟩, .string ⟨#[]⟩, .string ⟨#[]⟩, .string ⟨#[118, 99, 101, 110, 116, 101, 114]⟩, .string ⟨#[]⟩, .string ⟨#[]⟩] 62)
  rw [hWa] at hbox hFA hwa hsim
  rw [show (w.alloc (Obj.cells #[.int .i64 10, .int .i64 a1, .int .i64 a2, .int .i64 1, .int .i64 a4, .slice Ap ps.length cp, .slice Ar rs.length cr, .bool b1, .bool b2, .slice Au lu cu, .slice Ab lb cb] 33)).heap.size = w.heap.size + 1 by simp] at hsim
  have HBX : Hid (∀ w2, Fr w0.heap.size b Wa w2 → _) := Lib.hid fun w2 hf => box_kept hbox hw hf
  have HFA := Lib.hid hFA
  have HX0 := Lib.hid hwa
  have HFF := Lib.hid hF
  have HGG := Lib.hid hG
  have HP := Lib.hid hp
  have HR := Lib.hid hr
  have HL := Lib.hid hlen
  have HTT := Lib.hid hT
  have HTX := Lib.hid hTX
  have HSM := Lib.hid hsim
  have HPS := Lib.hid hps
  have HB := Lib.hid (hb.trans hFA.below)
  have HY0 := Lib.hid (Fr.refl w0.heap.size b Wa)
  obtain ⟨k, hk⟩ : ∃ k, w.heap.size = k := ⟨_, rfl⟩
  rw [hk] at HBX HSM
  clear hF hG hp hr hb hlen hT hw hwa hFA hbox hTX hsim hps
  obtain ⟨O0, hO0⟩ : ∃ O0, out = O0 := ⟨_, rfl⟩
  rw [hO0] at HX0
  obtain ⟨O1, hO1⟩ : ∃ O1, O0 ++ (92 :: [116, 101, 120, 116, 115, 116, 121, 108, 101, 32]) = O1 := ⟨_, rfl⟩
  have HO : Hid (O1 = out ++ T) := Lib.hid (by rw [← hO1, ← hO0, HTX.out]; try simp)
  have HLL1 : Hid (O0.length + ((92 :: [116, 101, 120, 116, 115, 116, 121, 108, 101, 32]) : List UInt8).length ≤ 140737488355328) := Lib.hid (by
    have h1 := congrArg List.length HO.out
    have h2 := HL.out
    have g1 := congrArg List.length hO1
    simp only [List.length_append, List.length_cons, List.length_nil] at h1 h2 g1 ⊢
    omega)
  have HC1 : Hid (∀ w1 : World, Wb w0.heap.size b O0 w1 → Fr w0.heap.size b Wa w1 → _) := Lib.hid fun w1 hw1 hf1 => sw_word w0.heap.size b O0 ⟨#[116, 101, 120, 116, 115, 116, 121, 108, 101, 32]⟩ [116, 101, 120, 116, 115, 116, 121, 108, 101, 32] rfl w1 hw1 (by have := HLL1.out; simp only [List.length_append, List.length_cons, List.length_nil] at this ⊢; omega) (hf1.size HB.out.size)
  rw [hO1] at HC1
  have HHO := Lib.hid (And.intro hO0 trivial)
  clear hO0 hO1 HHO
  have HWE := Lib.hid hWa
  have HK := Lib.hid hk
  clear hWa hk
  have hix := (fun w : World => (show (Instr.index 66 (.agg #[.string ⟨#[100, 105, 115, 112, 108, 97, 121, 115, 116, 121, 108, 101, 32]⟩, .string ⟨#[116, 101, 120, 116, 115, 116, 121, 108, 101, 32]⟩, .string ⟨#[115, 99, 114, 105, 112, 116, 115, 116, 121, 108, 101, 32]⟩, .string ⟨#[115, 99, 114, 105, 112, 116, 115, 99, 114, 105, 112, 116, 115, 116, 121, 108, 101, 32]⟩]) (.int .i64 1)).run Tryd.prog w = .ok (.string ⟨#[116, 101, 120, 116, 115, 116, 121, 108, 101, 32]⟩) w from idx_run _ 9 4 _ 1 _ w Tryd.underlying66 (Tryd.sizeOf9 w) (by decide) rfl (Tryd.isAgg9 w)))
  go_enter Tryd.func20, Tryd.ntmps20
  go_upto_region 2 with fail
  rw [HWE.out, HK.out]
  have c0 := nad_cells (HBX.out Wa (Fr.refl _ _ _)) 0 _ rfl
  have c1 := nad_cells (HBX.out Wa (Fr.refl _ _ _)) 1 _ rfl
  have c2 := nad_cells (HBX.out Wa (Fr.refl _ _ _)) 2 _ rfl
  have c3 := nad_cells (HBX.out Wa (Fr.refl _ _ _)) 3 _ rfl
  have c4 := nad_cells (HBX.out Wa (Fr.refl _ _ _)) 4 _ rfl
  have c5 := nad_cells (HBX.out Wa (Fr.refl _ _ _)) 5 _ rfl
  have c6 := nad_cells (HBX.out Wa (Fr.refl _ _ _)) 6 _ rfl
  have c7 := nad_cells (HBX.out Wa (Fr.refl _ _ _)) 7 _ rfl
  have c8 := nad_cells (HBX.out Wa (Fr.refl _ _ _)) 8 _ rfl
  have c9 := nad_cells (HBX.out Wa (Fr.refl _ _ _)) 9 _ rfl
  have c10 := nad_cells (HBX.out Wa (Fr.refl _ _ _)) 10 _ rfl
  go_wp2_with (first | (go_at_call 19; with_reducible refine (HC1.out _ HX0.out HY0.out).mono ?_; clear c0 c1 c2 c3 c5; rintro e w1 ⟨rfl, hw1, hf1⟩; have HX1 := Lib.hid hw1; have HY1 := Lib.hid (HY0.out.trans hf1); clear hw1 hf1))
  all_goals (go_end0; exact ⟨rfl, by rw [← HO.out]; exact HX1.out, HFA.out.trans HY1.out⟩)
set_option maxHeartbeats 2000000 in
set_option maxRecDepth 100000 in
theorem nuc_10_2 {α : Type} (K : World → α → List Value → Prop) (f : List α → List UInt8) (G : List α → Prop) (w0 : World) (b : Nat) (hT : LexTabs w0) (hF : LC K f G w0 b)
    (a1 a2 a4 : Int) (ps : List (List α)) (Ap : Option Addr) (cp : Nat) (Ar : Option Addr) (rs : List Int) (cr : Nat) (b1 b2 : Bool) (Au : Option Addr) (lu cu : Nat) (Ab : Option Addr) (lb cb : Nat) (out : List UInt8) (w : World) (hG : ∀ p ∈ ps, G p)
    (hp : rdS (fun l cs => ∃ v, cs = [v] ∧ rdS (K w0) 11 w0 v l) 1 w0 (.slice Ap ps.length cp) (ps : List (List α))) (hr : rdS (fun (n : Int) cs => cs = [.int .i64 n] ∧ inI n) 1 w0 (.slice Ar rs.length cr) rs)
    (hps : ps.length ≤ 2000000) (hw : Wb w0.heap.size b out w) (hb : Below w0.heap.size w0 w) (T : List UInt8) (hTX : T = 92 :: [115, 99, 114, 105, 112, 116, 115, 116, 121, 108, 101, 32]) (hlen : out.length + T.length ≤ 140737488355328) :
    Calls Tryd.prog 20 #[.pointer (some ⟨b, 0, none⟩), .agg #[.int .i64 10, .int .i64 a1, .int .i64 a2, .int .i64 2, .int .i64 a4, .slice Ap ps.length cp, .slice Ar rs.length cr, .bool b1, .bool b2, .slice Au lu cu, .slice Ab lb cb]] w fun e w' => e = .returned (.tuple #[]) ∧ Wb w0.heap.size b (out ++ T) w' ∧ Fr w0.heap.size b w w' := by
  obtain ⟨Wa, hWa⟩ : ∃ Wa, (w.alloc (Obj.cells #[.int .i64 10, .int .i64 a1, .int .i64 a2, .int .i64 2, .int .i64 a4, .slice Ap ps.length cp, .slice Ar rs.length cr, .bool b1, .bool b2, .slice Au lu cu, .slice Ab lb cb] 33)).alloc (Obj.cells #[.string ⟨#[]⟩, .string ⟨#[]⟩, .string ⟨#[]⟩, .string ⟨#[]⟩, .string ⟨#[111, 118, 101, 114, 108, 105, 110, 101]⟩, .string ⟨#[117, 110, 100, 101, 114, 108, 105, 110, 101]⟩, .string ⟨#[]⟩, .string ⟨#[]⟩, .string ⟨#[]⟩, .string ⟨#[118, 99, 101, 110, 116, 101, 114]⟩, .string ⟨#[]⟩, .string ⟨#[]⟩] 62) = Wa := ⟨_, rfl⟩
  have hbox := (heap_alloc_old (w.alloc (Obj.cells #[.int .i64 10, .int .i64 a1, .int .i64 a2, .int .i64 2, .int .i64 a4, .slice Ap ps.length cp, .slice Ar rs.length cr, .bool b1, .bool b2, .slice Au lu cu, .slice Ab lb cb] 33)) (Obj.cells #[.string ⟨#[]⟩, .string ⟨#[]⟩, .string ⟨#[]⟩, .string ⟨#[]⟩, .string ⟨#[111, 118, 101, 114, 108, 105, 110, 101]⟩, .string ⟨#[117, 110, 100, 101, 114, 108, 105, 110, 101]⟩, .string ⟨#[]⟩, .string ⟨#[]⟩, .string ⟨#[]⟩, .string ⟨#[118, 99, 101, 110, 116, 101, 114]⟩, .string ⟨#[]⟩, .string ⟨#[]⟩] 62) (show w.heap.size < _ by simp)).trans (heap_alloc_new w (Obj.cells #[.int .i64 10, .int .i64 a1, .int .i64 a2, .int .i64 2, .int .i64 a4, .slice Ap ps.length cp, .slice Ar rs.length cr, .bool b1, .bool b2, .slice Au lu cu, .slice Ab lb cb] 33))
  have hsim := heap_alloc_new (w.alloc (Obj.cells #[.int .i64 10, .int .i64 a1, .int .i64 a2, .int .i64 2, .int .i64 a4, .slice Ap ps.length cp, .slice Ar rs.length cr, .bool b1, .bool b2, .slice Au lu cu, .slice Ab lb cb] 33)) (Obj.cells #[.string ⟨#[]⟩, .string ⟨#[]⟩, .string ⟨#[]⟩, .string ⟨#[]⟩, .string ⟨#[111, 118, 101, 114, 108, 105, 110, 101]⟩, .string ⟨#[117, 110, 100, 101, 114, 108, 105, 110, 101]⟩, .string ⟨#[]⟩, .string ⟨#[]⟩, .string ⟨#[]⟩, .string ⟨#[118, 99, 101, 110, 116, 101, 114]⟩, .string ⟨#[]⟩, .string ⟨#[]⟩] 62)
  have hFA := ((Fr.refl w0.heap.size b w).alloc hb.size (Obj.cells #[.int .i64 10, .int .i64 a1, .int .i64 a2, .int .i64 2, .int .i64 a4, .slice Ap ps.length cp, .slice Ar rs.length cr, .bool b1, .bool b2, .slice Au lu cu, .slice Ab lb cb] 33)).alloc hb.size (Obj.cells #[.string ⟨#[]⟩, .string ⟨#[]⟩, .string ⟨#[]⟩, .string ⟨#[]⟩, .string ⟨#[111, 118, 101, 114, 108, 105, 110, 101]⟩, .string ⟨#[117, 110, 100, 101, 114, 108, 105, 110, 101]⟩, .string ⟨#[]⟩, .string ⟨#[]⟩, .string ⟨#[]⟩, .string ⟨#[118, 99, 101, 110, 116, 101, 114]⟩, .string ⟨#[]⟩, .string ⟨#[]⟩] 62)
  have hwa := (hw.alloc (Obj.cells #[.int .i64 10, .int .i64 a1, .int .i64 a2, .int .i64 2, .int .i64 a4, .slice Ap ps.length cp, .slice Ar rs.length cr, .bool b1, .bool b2, .slice Au lu cu, .slice Ab lb cb] 33)).alloc (Obj.cells #[.string ⟨#[]⟩, .string ⟨#[]⟩, .string ⟨#[]⟩, .string ⟨#[]⟩, .string ⟨#[111, 118, 101, 114, 108, 105, 110, 101]⟩, .string ⟨#[117, 110, 100, 101, 114, 108, 105, 110, 101]⟩, .string ⟨#[]⟩, .string ⟨#[]⟩, .string ⟨#[]⟩, .string ⟨#[118, 99, 101, 110, 116, 101, 114]⟩, .string ⟨#[]⟩, .string ⟨#[]⟩] 62)
  rw [hWa] at hbox hFA hwa hsim
  rw [show (w.alloc (Obj.cells #[.int .i64 10, .int .i64 a1, .int .i64 a2, .int .i64 2, .int .i64 a4, .slice Ap ps.length cp, .slice Ar rs.length cr, .bool b1, .bool b2, .slice Au lu cu, .slice Ab lb cb] 33)).heap.size = w.heap.size + 1 by simp] at hsim
  have HBX : Hid (∀ w2, Fr w0.heap.size b Wa w2 → _) := Lib.hid fun w2 hf => box_kept hbox hw hf
  have HFA := Lib.hid hFA
  have HX0 := Lib.hid hwa
  have HFF := Lib.hid hF
  have HGG := Lib.hid hG
  have HP := Lib.hid hp
  have HR := Lib.hid hr
  have HL := Lib.hid hlen
  have HTT := Lib.hid hT
  have HTX := Lib.hid hTX
  have HSM := Lib.hid hsim
  have HPS := Lib.hid hps
  have HB := Lib.hid (hb.trans hFA.below)
  have HY0 := Lib.hid (Fr.refl w0.heap.size b Wa)
  obtain ⟨k, hk⟩ : ∃ k, w.heap.size = k := ⟨_, rfl⟩
  rw [hk] at HBX HSM
  clear hF hG hp hr hb hlen hT hw hwa hFA hbox hTX hsim hps
  obtain ⟨O0, hO0⟩ : ∃ O0, out = O0 := ⟨_, rfl⟩
  rw [hO0] at HX0
  obtain ⟨O1, hO1⟩ : ∃ O1, O0 ++ (92 :: [115, 99, 114, 105, 112, 116, 115, 116, 121, 108, 101, 32]) = O1 := ⟨_, rfl⟩
  have HO : Hid (O1 = out ++ T) := Lib.hid (by rw [← hO1, ← hO0, HTX.out]; try simp)
  have HLL1 : Hid (O0.length + ((92 :: [115, 99, 114, 105, 112, 116, 115, 116, 121, 108, 101, 32]) : List UInt8).length ≤ 140737488355328) := Lib.hid (by
    have h1 := congrArg List.length HO.out
    have h2 := HL.out
    have g1 := congrArg List.length hO1
    simp only [List.length_append, List.length_cons, List.length_nil] at h1 h2 g1 ⊢
    omega)
  have HC1 : Hid (∀ w1 : World, Wb w0.heap.size b O0 w1 → Fr w0.heap.size b Wa w1 → _) := Lib.hid fun w1 hw1 hf1 => sw_word w0.heap.size b O0 ⟨#[115, 99, 114, 105, 112, 116, 115, 116, 121, 108, 101, 32]⟩ [115, 99, 114, 105, 112, 116, 115, 116, 121, 108, 101, 32] rfl w1 hw1 (by have := HLL1.out; simp only [List.length_append, List.length_cons, List.length_nil] at this ⊢; omega) (hf1.size HB.out.size)
  rw [hO1] at HC1
  have HHO := Lib.hid (And.intro hO0 trivial)
  clear hO0 hO1 HHO
  have HWE := Lib.hid hWa
  have HK := Lib.hid hk
  clear hWa hk
  have hix := (fun w : World => (show (Instr.index 66 (.agg #[.string ⟨#[100, 105, 115, 112, 108, 97, 121, 115, 116, 121, 108, 101, 32]⟩, .string ⟨#[116, 101, 120, 116, 115, 116, 121, 108, 101, 32]⟩, .string ⟨#[115, 99, 114, 105, 112, 116, 115, 116, 121, 108, 101, 32]⟩, .string ⟨#[115, 99, 114, 105, 112, 116, 115, 99, 114, 105, 112, 116, 115, 116, 121, 108, 101, 32]⟩]) (.int .i64 2)).run Tryd.prog w = .ok (.string ⟨#[115, 99, 114, 105, 112, 116, 115, 116, 121, 108, 101, 32]⟩) w from idx_run _ 9 4 _ 2 _ w Tryd.underlying66 (Tryd.sizeOf9 w) (by decide) rfl (Tryd.isAgg9 w)))
  go_enter Tryd.func20, Tryd.ntmps20
  go_upto_region 2 with fail
  rw [HWE.out, HK.out]
  have c0 := nad_cells (HBX.out Wa (Fr.refl _ _ _)) 0 _ rfl
  have c1 := nad_cells (HBX.out Wa (Fr.refl _ _ _)) 1 _ rfl
  have c2 := nad_cells (HBX.out Wa (Fr.refl _ _ _)) 2 _ rfl
  have c3 := nad_cells (HBX.out Wa (Fr.refl _ _ _)) 3 _ rfl
  have c4 := nad_cells (HBX.out Wa (Fr.refl _ _ _)) 4 _ rfl
  have c5 := nad_cells (HBX.out Wa (Fr.refl _ _ _)) 5 _ rfl
  have c6 := nad_cells (HBX.out Wa (Fr.refl _ _ _)) 6 _ rfl
  have c7 := nad_cells (HBX.out Wa (Fr.refl _ _ _)) 7 _ rfl
  have c8 := nad_cells (HBX.out Wa (Fr.refl _ _ _)) 8 _ rfl
  have c9 := nad_cells (HBX.out Wa (Fr.refl _ _ _)) 9 _ rfl
  have c10 := nad_cells (HBX.out Wa (Fr.refl _ _ _)) 10 _ rfl
  go_wp2_with (first | (go_at_call 19; with_reducible refine (HC1.out _ HX0.out HY0.out).mono ?_; clear c0 c1 c2 c3 c5; rintro e w1 ⟨rfl, hw1, hf1⟩; have HX1 := Lib.hid hw1; have HY1 := Lib.hid (HY0.out.trans hf1); clear hw1 hf1))
  all_goals (go_end0; exact ⟨rfl, by rw [← HO.out]; exact HX1.out, HFA.out.trans HY1.out⟩)
set_option maxHeartbeats 2000000 in
set_option maxRecDepth 100000 in
theorem nuc_10_3 {α : Type} (K : World → α → List Value → Prop) (f : List α → List UInt8) (G : List α → Prop) (w0 : World) (b : Nat) (hT : LexTabs w0) (hF : LC K f G w0 b)
    (a1 a2 a4 : Int) (ps : List (List α)) (Ap : Option Addr) (cp : Nat) (Ar : Option Addr) (rs : List Int) (cr : Nat) (b1 b2 : Bool) (Au : Option Addr) (lu cu : Nat) (Ab : Option Addr) (lb cb : Nat) (out : List UInt8) (w : World) (hG : ∀ p ∈ ps, G p)
    (hp : rdS (fun l cs => ∃ v, cs = [v] ∧ rdS (K w0) 11 w0 v l) 1 w0 (.slice Ap ps.length cp) (ps : List (List α))) (hr : rdS (fun (n : Int) cs => cs = [.int .i64 n] ∧ inI n) 1 w0 (.slice Ar rs.length cr) rs)
    (hps : ps.length ≤ 2000000) (hw : Wb w0.heap.size b out w) (hb : Below w0.heap.size w0 w) (T : List UInt8) (hTX : T = 92 :: [115, 99, 114, 105, 112, 116, 115, 99, 114, 105, 112, 116, 115, 116, 121, 108, 101, 32]) (hlen : out.length + T.length ≤ 140737488355328) :
    Calls Tryd.prog 20 #[.pointer (some ⟨b, 0, none⟩), .agg #[.int .i64 10, .int .i64 a1, .int .i64 a2, .int .i64 3, .int .i64 a4, .slice Ap ps.length cp, .slice Ar rs.length cr, .bool b1, .bool b2, .slice Au lu cu, .slice Ab lb cb]] w fun e w' => e = .returned (.tuple #[]) ∧ Wb w0.heap.size b (out ++ T) w' ∧ Fr w0.heap.size b w w' := by
  obtain ⟨Wa, hWa⟩ : ∃ Wa, (w.alloc (Obj.cells #[.int .i64 10, .int .i64 a1, .int .i64 a2, .int .i64 3, .int .i64 a4, .slice Ap ps.length cp, .slice Ar rs.length cr, .bool b1, .bool b2, .slice Au lu cu, .slice Ab lb cb] 33)).alloc (Obj.cells #[.string ⟨#[]⟩, .string ⟨#[]⟩, .string ⟨#[]⟩, .string ⟨#[]⟩, .string ⟨#[111, 118, 101, 114, 108, 105, 110, 101]⟩, .string ⟨#[117, 110, 100, 101, 114, 108, 105, 110, 101]⟩, .string ⟨#[]⟩, .string ⟨#[]⟩, .string ⟨#[]⟩, .string ⟨#[118, 99, 101, 110, 116, 101, 114]⟩, .string ⟨#[]⟩, .string ⟨#[]⟩] 62) = Wa := ⟨_, rfl⟩
  have hbox := (heap_alloc_old (w.alloc (Obj.cells #[.int .i64 10, .int .i64 a1, .int .i64 a2, .int .i64 3, .int .i64 a4, .slice Ap ps.length cp, .slice Ar rs.length cr, .bool b1, .bool b2, .slice Au lu cu, .slice Ab lb cb] 33)) (Obj.cells #[.string ⟨#[]⟩, .string ⟨#[]⟩, .string ⟨#[]⟩, .string ⟨#[]⟩, .string ⟨#[111, 118, 101, 114, 108, 105, 110, 101]⟩, .string ⟨#[117, 110, 100, 101, 114, 108, 105, 110, 101]⟩, .string ⟨#[]⟩, .string ⟨#[]⟩, .string ⟨#[]⟩, .string ⟨#[118, 99, 101, 110, 116, 101, 114]⟩, .string ⟨#[]⟩, .string ⟨#[]⟩] 62) (show w.heap.size < _ by simp)).trans (heap_alloc_new w (Obj.cells #[.int .i64 10, .int .i64 a1, .int .i64 a2, .int .i64 3, .int .i64 a4, .slice Ap ps.length cp, .slice Ar rs.length cr, .bool b1, .bool b2, .slice Au lu cu, .slice Ab lb cb] 33))
  have hsim := heap_alloc_new (w.alloc (Obj.cells #[.int .i64 10, .int .i64 a1, .int .i64 a2, .int .i64 3, .int .i64 a4, .slice Ap ps.length cp, .slice Ar rs.length cr, .bool b1, .bool b2, .slice Au lu cu, .slice Ab lb cb] 33)) (Obj.cells #[.string ⟨#[]⟩, .string ⟨#[]⟩, .string ⟨#[]⟩, .string ⟨#[]⟩, .string ⟨#[111, 118, 101, 114, 108, 105, 110, 101]⟩, .string ⟨#[117, 110, 100, 101, 114, 108, 105, 110, 101]⟩, .string ⟨#[]⟩, .string ⟨#[]⟩, .string ⟨#[]⟩, .string ⟨#[118, 99, 101, 110, 116, 101, 114]⟩, .string ⟨#[]⟩, .string ⟨#[]⟩] 62)
  have hFA := ((Fr.refl w0.heap.size b w).alloc hb.size (Obj.cells #[.int .i64 10, .int .i64 a1, .int .i64 a2, .int .i64 3, .int .i64 a4, .slice Ap ps.length cp, .slice Ar rs.length cr, .bool b1, .bool b2, .slice Au lu cu, .slice Ab lb cb] 33)).alloc hb.size (Obj.cells #[.string ⟨#[]⟩, .string ⟨#[]⟩, .string ⟨#[]⟩, .string ⟨#[]⟩, .string ⟨#[111, 118, 101, 114, 108, 105, 110, 101]⟩, .string ⟨#[117, 110, 100, 101, 114, 108, 105, 110, 101]⟩, .string ⟨#[]⟩, .string ⟨#[]⟩, .string ⟨#[]⟩, .string ⟨#[118, 99, 101, 110, 116, 101, 114]⟩, .string ⟨#[]⟩, .string ⟨#[]⟩] 62)
  have hwa := (hw.alloc (Obj.cells #[.int .i64 10, .int .i64 a1, .int .i64 a2, .int .i64 3, .int .i64 a4, .slice Ap ps.length cp, .slice Ar rs.length cr, .bool b1, .bool b2, .slice Au lu cu, .slice Ab lb cb] 33)).alloc (Obj.cells #[.string ⟨#[]⟩, .string ⟨#[]⟩, .string ⟨#[]⟩, .string ⟨#[]⟩, .string ⟨#[111, 118, 101, 114, 108, 105, 110, 101]⟩, .string ⟨#[117, 110, 100, 101, 114, 108, 105, 110, 101]⟩, .string ⟨#[]⟩, .string ⟨#[]⟩, .string ⟨#[]⟩, .string ⟨#[118, 99, 101, 110, 116, 101, 114]⟩, .string ⟨#[]⟩, .string ⟨#[]⟩] 62)
  rw [hWa] at hbox hFA hwa hsim
  rw [show (w.alloc (Obj.cells #[.int .i64 10, .int .i64 a1, .int .i64 a2, .int .i64 3, .int .i64 a4, .slice Ap ps.length cp, .slice Ar rs.length cr, .bool b1, .bool b2, .slice Au lu cu, .slice Ab lb cb] 33)).heap.size = w.heap.size + 1 by simp] at hsim
  have HBX : Hid (∀ w2, Fr w0.heap.size b Wa w2 → _) := Lib.hid fun w2 hf => box_kept hbox hw hf
  have HFA := Lib.hid hFA
  have HX0 := Lib.hid hwa
  have HFF := Lib.hid hF
  have HGG := Lib.hid hG
  have HP := Lib.hid hp
  have HR := Lib.hid hr
  have HL := Lib.hid hlen
  have HTT := Lib.hid hT
  have HTX := Lib.hid hTX
  have HSM := Lib.hid hsim
  have HPS := Lib.hid hps
  have HB := Lib.hid (hb.trans hFA.below)
  have HY0 := Lib.hid (Fr.refl w0.heap.size b Wa)
  obtain ⟨k, hk⟩ : ∃ k, w.heap.size = k := ⟨_, rfl⟩
  rw [hk] at HBX HSM
  clear hF hG hp hr hb hlen hT hw hwa hFA hbox hTX hsim hps
  obtain ⟨O0, hO0⟩ : ∃ O0, out = O0 := ⟨_, rfl⟩
  rw [hO0] at HX0
  obtain ⟨O1, hO1⟩ : ∃ O1, O0 ++ (92 :: [115, 99, 114, 105, 112, 116, 115, 99, 114, 105, 112, 116, 115, 116, 121, 108, 101, 32]) = O1 := ⟨_, rfl⟩
  have HO : Hid (O1 = out ++ T) := Lib.hid (by rw [← hO1, ← hO0, HTX.out]; try simp)
  have HLL1 : Hid (O0.length + ((92 :: [115, 99, 114, 105, 112, 116, 115, 99, 114, 105, 112, 116, 115, 116, 121, 108, 101, 32]) : List UInt8).length ≤ 140737488355328) := Lib.hid (by
    have h1 := congrArg List.length HO.out
    have h2 := HL.out
    have g1 := congrArg List.length hO1
    simp only [List.length_append, List.length_cons, List.length_nil] at h1 h2 g1 ⊢
    omega)
  have HC1 : Hid (∀ w1 : World, Wb w0.heap.size b O0 w1 → Fr w0.heap.size b Wa w1 → _) := Lib.hid fun w1 hw1 hf1 => sw_word w0.heap.size b O0 ⟨#[115, 99, 114, 105, 112, 116, 115, 99, 114, 105, 112, 116, 115, 116, 121, 108, 101, 32]⟩ [115, 99, 114, 105, 112, 116, 115, 99, 114, 105, 112, 116, 115, 116, 121, 108, 101, 32] rfl w1 hw1 (by have := HLL1.out; simp only [List.length_append, List.length_cons, List.length_nil] at this ⊢; omega) (hf1.size HB.out.size)
  rw [hO1] at HC1
  have HHO := Lib.hid (And.intro hO0 trivial)
  clear hO0 hO1 HHO
  have HWE := Lib.hid hWa
  have HK := Lib.hid hk
  clear hWa hk
  have hix := (fun w : World => (show (Instr.index 66 (.agg #[.string ⟨#[100, 105, 115, 112, 108, 97, 121, 115, 116, 121, 108, 101, 32]⟩, .string ⟨#[116, 101, 120, 116, 115, 116, 121, 108, 101, 32]⟩, .string ⟨#[115, 99, 114, 105, 112, 116, 115, 116, 121, 108, 101, 32]⟩, .string ⟨#[115, 99, 114, 105, 112, 116, 115, 99, 114, 105, 112, 116, 115, 116, 121, 108, 101, 32]⟩]) (.int .i64 3)).run Tryd.prog w = .ok (.string ⟨#[115, 99, 114, 105, 112, 116, 115, 99, 114, 105, 112, 116, 115, 116, 121, 108, 101, 32]⟩) w from idx_run _ 9 4 _ 3 _ w Tryd.underlying66 (Tryd.sizeOf9 w) (by decide) rfl (Tryd.isAgg9 w)))
  go_enter Tryd.func20, Tryd.ntmps20
  go_upto_region 2 with fail
  rw [HWE.out, HK.out]
  have c0 := nad_cells (HBX.out Wa (Fr.refl _ _ _)) 0 _ rfl
  have c1 := nad_cells (HBX.out Wa (Fr.refl _ _ _)) 1 _ rfl
  have c2 := nad_cells (HBX.out Wa (Fr.refl _ _ _)) 2 _ rfl
  have c3 := nad_cells (HBX.out Wa (Fr.refl _ _ _)) 3 _ rfl
  have c4 := nad_cells (HBX.out Wa (Fr.refl _ _ _)) 4 _ rfl
  have c5 := nad_cells (HBX.out Wa (Fr.refl _ _ _)) 5 _ rfl
  have c6 := nad_cells (HBX.out Wa (Fr.refl _ _ _)) 6 _ rfl
  have c7 := nad_cells (HBX.out Wa (Fr.refl _ _ _)) 7 _ rfl
  have c8 := nad_cells (HBX.out Wa (Fr.refl _ _ _)) 8 _ rfl
  have c9 := nad_cells (HBX.out Wa (Fr.refl _ _ _)) 9 _ rfl
  have c10 := nad_cells (HBX.out Wa (Fr.refl _ _ _)) 10 _ rfl
  go_wp2_with (first | (go_at_call 19; with_reducible refine (HC1.out _ HX0.out HY0.out).mono ?_; clear c0 c1 c2 c3 c5; rintro e w1 ⟨rfl, hw1, hf1⟩; have HX1 := Lib.hid hw1; have HY1 := Lib.hid (HY0.out.trans hf1); clear hw1 hf1))
  all_goals (go_end0; exact ⟨rfl, by rw [← HO.out]; exact HX1.out, HFA.out.trans HY1.out⟩)
set_option maxHeartbeats 2000000 in
set_option maxRecDepth 100000 in
theorem nuc_11 {α : Type} (K : World → α → List Value → Prop) (f : List α → List UInt8) (G : List α → Prop) (w0 : World) (b : Nat) (hT : LexTabs w0) (hF : LC K f G w0 b)
    (a1 a2 a3 a4 : Int) (ps : List (List α)) (Ap : Option Addr) (cp : Nat) (Ar : Option Addr) (rs : List Int) (cr : Nat) (b1 b2 : Bool) (Au : Option Addr) (lu cu : Nat) (Ab : Option Addr) (lb cb : Nat) (out : List UInt8) (w : World) (hG : ∀ p ∈ ps, G p)
    (hp : rdS (fun l cs => ∃ v, cs = [v] ∧ rdS (K w0) 11 w0 v l) 1 w0 (.slice Ap ps.length cp) (ps : List (List α))) (hr : rdS (fun (n : Int) cs => cs = [.int .i64 n] ∧ inI n) 1 w0 (.slice Ar rs.length cr) rs)
    (hps : ps.length ≤ 2000000) (hn1 : -1000 ≤ a3) (hn2 : a3 ≤ 1000) (hw : Wb w0.heap.size b out w) (hb : Below w0.heap.size w0 w) (T : List UInt8) (hTX : T = kernL a3) (hlen : out.length + T.length ≤ 140737488355328) :
    Calls Tryd.prog 20 #[.pointer (some ⟨b, 0, none⟩), .agg #[.int .i64 11, .int .i64 a1, .int .i64 a2, .int .i64 a3, .int .i64 a4, .slice Ap ps.length cp, .slice Ar rs.length cr, .bool b1, .bool b2, .slice Au lu cu, .slice Ab lb cb]] w fun e w' => e = .returned (.tuple #[]) ∧ Wb w0.heap.size b (out ++ T) w' ∧ Fr w0.heap.size b w w' := by
  obtain ⟨Wa, hWa⟩ : ∃ Wa, (w.alloc (Obj.cells #[.int .i64 11, .int .i64 a1, .int .i64 a2, .int .i64 a3, .int .i64 a4, .slice Ap ps.length cp, .slice Ar rs.length cr, .bool b1, .bool b2, .slice Au lu cu, .slice Ab lb cb] 33)).alloc (Obj.cells #[.string ⟨#[]⟩, .string ⟨#[]⟩, .string ⟨#[]⟩, .string ⟨#[]⟩, .string ⟨#[111, 118, 101, 114, 108, 105, 110, 101]⟩, .string ⟨#[117, 110, 100, 101, 114, 108, 105, 110, 101]⟩, .string ⟨#[]⟩, .string ⟨#[]⟩, .string ⟨#[]⟩, .string ⟨#[118, 99, 101, 110, 116, 101, 114]⟩, .string ⟨#[]⟩, .string ⟨#[]⟩] 62) = Wa := ⟨_, rfl⟩
  have hbox := (heap_alloc_old (w.alloc (Obj.cells #[.int .i64 11, .int .i64 a1, .int .i64 a2, .int .i64 a3, .int .i64 a4, .slice Ap ps.length cp, .slice Ar rs.length cr, .bool b1, .bool b2, .slice Au lu cu, .slice Ab lb cb] 33)) (Obj.cells #[.string ⟨#[]⟩, .string ⟨#[]⟩, .string ⟨#[]⟩, .string ⟨#[]⟩, .string ⟨#[111, 118, 101, 114, 108, 105, 110, 101]⟩, .string ⟨#[117, 110, 100, 101, 114, 108, 105, 110, 101]⟩, .string ⟨#[]⟩, .string ⟨#[]⟩, .string ⟨#[]⟩, .string ⟨#[118, 99, 101, 110, 116, 101, 114]⟩, .string ⟨#[]⟩, .string ⟨#[]⟩] 62) (show w.heap.size < _ by simp)).trans (heap_alloc_new w (Obj.cells #[.int .i64 11, .int .i64 a1, .int .i64 a2, .int .i64 a3, .int .i64 a4, .slice Ap ps.length cp, .slice Ar rs.length cr, .bool b1, .bool b2, .slice Au lu cu, .slice Ab lb cb] 33))
  have hsim := heap_alloc_new (w.alloc (Obj.cells #[.int .i64 11, .int .i64 a1, .int .i64 a2, .int .i64 a3, .int .i64 a4, .slice Ap ps.length cp, .slice Ar rs.length cr, .bool b1, .bool b2, .slice Au lu cu, .slice Ab lb cb] 33)) (Obj.cells #[.string ⟨#[]⟩, .string ⟨#[]⟩, .string ⟨#[]⟩, .string ⟨#[]⟩, .string ⟨#[111, 118, 101, 114, 108, 105, 110, 101]⟩, .string ⟨#[117, 110, 100, 101, 114, 108, 105, 110, 101]⟩, .string ⟨#[]⟩, .string ⟨#[]⟩, .string ⟨#[]⟩, .string ⟨#[118, 99, 101, 110, 116, 101, 114]⟩, .string ⟨#[]⟩, .string ⟨#[]⟩] 62)
  have hFA := ((Fr.refl w0.heap.size b w).alloc hb.size (Obj.cells #[.int .i64 11, .int .i64 a1, .int .i64 a2, .int .i64 a3, .int .i64 a4, .slice Ap ps.length cp, .slice Ar rs.length cr, .bool b1, .bool b2, .slice Au lu cu, .slice Ab lb cb] 33)).alloc hb.size (Obj.cells #[.string ⟨#[]⟩, .string ⟨#[]⟩, .string ⟨#[]⟩, .string ⟨#[]⟩, .string ⟨#[111, 118, 101, 114, 108, 105, 110, 101]⟩, .string ⟨#[117, 110, 100, 101, 114, 108, 105, 110, 101]⟩, .string ⟨#[]⟩, .string ⟨#[]⟩, .string ⟨#[]⟩, .string ⟨#[118, 99, 101, 110, 116, 101, 114]⟩, .string ⟨#[]⟩, .string ⟨#[]⟩] 62)
  have hwa := (hw.alloc (Obj.cells #[.int .i64 11, .int .i64 a1, .int .i64 a2, .int .i64 a3, .int .i64 a4, .slice Ap ps.length cp, .slice Ar rs.length cr, .bool b1, .bool b2, .slice Au lu cu, .slice Ab lb cb] 33)).alloc (Obj.cells #[.string ⟨#[]⟩, .string ⟨#[]⟩, .string ⟨#[]⟩, .string ⟨#[]⟩, .string ⟨#[111, 118, 101, 114, 108, 105, 110, 101]⟩, .string ⟨#[117, 110, 100, 101, 114, 108, 105, 110, 101]⟩, .string ⟨#[]⟩, .string ⟨#[]⟩, .string ⟨#[]⟩, .string ⟨#[118, 99, 101, 110, 116, 101, 114]⟩, .string ⟨#[]⟩, .string ⟨#[]⟩] 62)
  rw [hWa] at hbox hFA hwa hsim
  rw [show (w.alloc (Obj.cells #[.int .i64 11, .int .i64 a1, .int .i64 a2, .int .i64 a3, .int .i64 a4, .slice Ap ps.length cp, .slice Ar rs.length cr, .bool b1, .bool b2, .slice Au lu cu, .slice Ab lb cb] 33)).heap.size = w.heap.size + 1 by simp] at hsim
  have HBX : Hid (∀ w2, Fr w0.heap.size b Wa w2 → _) := Lib.hid fun w2 hf => box_kept hbox hw hf
  have HFA := Lib.hid hFA
  have HX0 := Lib.hid hwa
  have HFF := Lib.hid hF
  have HGG := Lib.hid hG
  have HP := Lib.hid hp
  have HR := Lib.hid hr
  have HL := Lib.hid hlen
  have HTT := Lib.hid hT
  have HTX := Lib.hid hTX
  have HSM := Lib.hid hsim
  have HN1 := Lib.hid hn1
  have HN2 := Lib.hid hn2
  have HPS := Lib.hid hps
  have HB := Lib.hid (hb.trans hFA.below)
  have HY0 := Lib.hid (Fr.refl w0.heap.size b Wa)
  obtain ⟨k, hk⟩ : ∃ k, w.heap.size = k := ⟨_, rfl⟩
  rw [hk] at HBX HSM
  clear hF hG hp hr hb hlen hT hw hwa hFA hbox hTX hsim hps hn1 hn2
  obtain ⟨O0, hO0⟩ : ∃ O0, out = O0 := ⟨_, rfl⟩
  rw [hO0] at HX0
  obtain ⟨O1, hO1⟩ : ∃ O1, O0 ++ (92 :: ([107, 101, 114, 110, 123] ++ (Lib.itoa a3 ++ [125]))) = O1 := ⟨_, rfl⟩
  have HO : Hid (O1 = out ++ T) := Lib.hid (by rw [← hO1, ← hO0, HTX.out]; try simp [kernL])
  have HLL1 : Hid (O0.length + ((92 :: ([107, 101, 114, 110, 123] ++ (Lib.itoa a3 ++ [125]))) : List UInt8).length ≤ 140737488355328) := Lib.hid (by
    have h1 := congrArg List.length HO.out
    have h2 := HL.out
    have g1 := congrArg List.length hO1
    simp only [List.length_append, List.length_cons, List.length_nil] at h1 h2 g1 ⊢
    omega)
  have HC1 : Hid (∀ w1 : World, Wb w0.heap.size b O0 w1 → Fr w0.heap.size b Wa w1 → _) := Lib.hid fun w1 hw1 hf1 => sw_word w0.heap.size b O0 (⟨#[107, 101, 114, 110, 123]⟩ ++ ⟨(Lib.itoa a3).toArray⟩ ++ ⟨#[125]⟩) ([107, 101, 114, 110, 123] ++ (Lib.itoa a3 ++ [125])) (by simp) w1 hw1 (by have := HLL1.out; simp only [List.length_append, List.length_cons, List.length_nil] at this ⊢; omega) (hf1.size HB.out.size)
  rw [hO1] at HC1
  have HIT : Hid (∀ w1 : World, Fr w0.heap.size b Wa w1 → _) := Lib.hid fun w1 hf1 => itoa_below a3 (by have := HN1.out; omega) (by have := HN2.out; omega) w1 (HTT.out.below (HB.out.trans hf1.below))
  have HHO := Lib.hid (And.intro hO0 trivial)
  clear hO0 hO1 HHO
  have HWE := Lib.hid hWa
  have HK := Lib.hid hk
  clear hWa hk
  go_enter Tryd.func20, Tryd.ntmps20
  go_upto_region 2 with fail
  rw [HWE.out, HK.out]
  have c0 := nad_cells (HBX.out Wa (Fr.refl _ _ _)) 0 _ rfl
  have c1 := nad_cells (HBX.out Wa (Fr.refl _ _ _)) 1 _ rfl
  have c2 := nad_cells (HBX.out Wa (Fr.refl _ _ _)) 2 _ rfl
  have c3 := nad_cells (HBX.out Wa (Fr.refl _ _ _)) 3 _ rfl
  have c4 := nad_cells (HBX.out Wa (Fr.refl _ _ _)) 4 _ rfl
  have c5 := nad_cells (HBX.out Wa (Fr.refl _ _ _)) 5 _ rfl
  have c6 := nad_cells (HBX.out Wa (Fr.refl _ _ _)) 6 _ rfl
  have c7 := nad_cells (HBX.out Wa (Fr.refl _ _ _)) 7 _ rfl
  have c8 := nad_cells (HBX.out Wa (Fr.refl _ _ _)) 8 _ rfl
  have c9 := nad_cells (HBX.out Wa (Fr.refl _ _ _)) 9 _ rfl
  have c10 := nad_cells (HBX.out Wa (Fr.refl _ _ _)) 10 _ rfl
  have s2 := eq_false (show ¬ 9223372036854775807 < 5 + (Lib.itoa a3).length by have := HLL1.out; simp only [List.length_append, List.length_cons, List.length_nil] at this; omega)
  have s3 := eq_false (show ¬ 9223372036854775807 < 5 + (Lib.itoa a3).length + 1 by have := HLL1.out; simp only [List.length_append, List.length_cons, List.length_nil] at this; omega)
  go_wp2_with (first | (go_at_call 31; with_reducible refine (HIT.out _ HY0.out).mono ?_; rintro e w9 ⟨rfl, hb9⟩; have HX9 := Lib.hid (HX0.out.below hb9); have HY9 := Lib.hid (Fr.of_below (b := b) hb9 HB.out.size); clear hb9) | (go_at_call 19; with_reducible refine (HC1.out _ HX9.out HY9.out).mono ?_; clear c0 c1 c2 c3 c5; rintro e w1 ⟨rfl, hw1, hf1⟩; have HX1 := Lib.hid hw1; have HY1 := Lib.hid (HY9.out.trans hf1); clear hw1 hf1))
  all_goals (go_end0; exact ⟨rfl, by rw [← HO.out]; exact HX1.out, HFA.out.trans HY1.out⟩)
end Go.Proofs.YtaoepeiadhdbaaaDoor.ND
