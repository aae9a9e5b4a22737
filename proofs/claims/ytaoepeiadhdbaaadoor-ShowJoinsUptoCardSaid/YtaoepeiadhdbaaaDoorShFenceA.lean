/- The writer's fences and matrices. -/
import Derived.Test.YtaoepeiadhdbaaaDoorShText
import Derived.Test.YtaoepeiadhdbaaaDoorShWriter
import Derived.Test.YtaoepeiadhdbaaaDoorNdDelimsA
namespace Go.Proofs.YtaoepeiadhdbaaaDoor.ND
open Go.Shelf Go.Sort Go.Proofs.YtaoepeiadhdbaaaDoor.P Go.RowKit Go.Proofs.YtaoepeiadhdbaaaDoorW.PrintWords Go.Proofs.YtaoepeiadhdbaaaDoorW.PrintLast Go.Proofs.YtaoepeiadhdbaaaDoorW.PrintMore
set_option linter.unusedVariables false
set_option linter.unusedSimpArgs false
theorem sw_byte (B b : Nat) (l : List UInt8) (c : UInt8) (z : Int) (hz : z = (c.toNat : Int)) (w : World) (h : Wb B b l w) (hlen : l.length + 1 ≤ 140737488355328) (hBw : B ≤ w.heap.size) :
    Calls Tryd.prog 21 #[.pointer (some ⟨b, 0, none⟩), .int .u8 z] w fun e w' => e = .returned .nilIface ∧ Wb B b (l ++ [c]) w' ∧ Fr B b w w' := by
  subst hz
  exact sw_WriteByte B b l c w h hlen hBw
theorem sw_str (B b : Nat) (l : List UInt8) (s : ByteArray) (m : List UInt8) (hm : s.data.toList = m) (w : World) (h : Wb B b l w) (hlen : l.length + m.length ≤ 140737488355328) (hBw : B ≤ w.heap.size) :
    Calls Tryd.prog 27 #[.pointer (some ⟨b, 0, none⟩), .string s] w fun e w' => e = .returned (.tuple #[.int .i64 s.size, .nilIface]) ∧ Wb B b (l ++ m) w' ∧ Fr B b w w' := by
  subst hm
  exact sw_WriteString B b l s w h (by simpa using hlen) hBw
theorem sw_word (B b : Nat) (l : List UInt8) (s : ByteArray) (m : List UInt8) (hm : s.data.toList = m) (w : World) (h : Wb B b l w) (hlen : l.length + (m.length + 1) ≤ 140737488355328) (hBw : B ≤ w.heap.size) :
    Calls Tryd.prog 19 #[.pointer (some ⟨b, 0, none⟩), .string s] w fun e w' => e = .returned (.tuple #[]) ∧ Wb B b (l ++ (92 :: m)) w' ∧ Fr B b w w' := by
  subst hm
  exact word_calls B b l s w h (by simpa using hlen) hBw
theorem _root_.Go.Proofs.YtaoepeiadhdbaaaDoor.P.Fr.size {B b : Nat} {w w' : World} (h : Fr B b w w') (hB : B ≤ w.heap.size) : B ≤ w'.heap.size := Nat.le_trans hB h.below.size
set_option maxHeartbeats 2000000 in
set_option maxRecDepth 100000 in
theorem wquote_calls (B b : Nat) (l : List UInt8) (c : Int) (w : World) (hT : LexTabs w) (h : Wb B b l w) (hlen : l.length + (quoteL c).length ≤ 140737488355328) (hBw : B ≤ w.heap.size) :
    Calls Tryd.prog 28 #[.pointer (some ⟨b, 0, none⟩), .int .i64 c] w fun e w' => e = .returned (.tuple #[]) ∧ Wb B b (l ++ quoteL c) w' ∧ Fr B b w w' := by
  have HQ := Lib.hid (quote_calls c w hT)
  have HC := Lib.hid fun (w1 : World) (hb : Below w.heap.size w w1) => sw_str B b l (quoteS c).1 (quoteL c) rfl w1 (h.below hb) hlen (Nat.le_trans hBw hb.size)
  have HF := Lib.hid fun (w1 : World) (hb : Below w.heap.size w w1) => Fr.of_below (b := b) hb hBw
  clear h hT hlen
  generalize quoteL c = m at *
  generalize (quoteS c).1 = s at *
  generalize (quoteS c).2 = z at *
  go_enter Tryd.func28, Tryd.ntmps28
  go_wp2_with (first | (go_at_call 38; with_reducible refine (HQ.out).mono ?_; rintro e w1 ⟨rfl, hb1⟩; have HB1 := Lib.hid hb1; clear hb1) | (go_at_call 27; with_reducible refine (HC.out _ HB1.out).mono ?_; rintro e w2 ⟨rfl, hw, hf⟩))
  go_end0
  exact ⟨rfl, hw, (HF.out _ HB1.out).trans hf⟩
set_option maxHeartbeats 2000000 in
set_option maxRecDepth 100000 in
theorem wdelim_calls (B b : Nat) (l : List UInt8) (c : Int) (w : World) (hT : LexTabs w) (h : Wb B b l w) (hlen : l.length + (delimL c).length ≤ 140737488355328) (hBw : B ≤ w.heap.size) :
    Calls Tryd.prog 39 #[.pointer (some ⟨b, 0, none⟩), .int .i64 c] w fun e w' => e = .returned (.tuple #[]) ∧ Wb B b (l ++ delimL c) w' ∧ Fr B b w w' := by
  unfold delimL at *
  by_cases hc : c = 0
  · subst hc
    rw [if_pos rfl] at *
    have HC := Lib.hid (wquote_calls B b l 46 w hT h hlen hBw)
    clear h hT hlen
    go_enter Tryd.func39, Tryd.ntmps39
    go_wp2_with (go_at_call 28; with_reducible refine (HC.out).mono ?_; rintro e w2 ⟨rfl, hw, hf⟩)
    go_end0
    exact ⟨rfl, hw, hf⟩
  · rw [if_neg hc] at *
    have hcb : (c == 0) = false := beq_eq_false_iff_ne.2 hc
    have HC := Lib.hid (wquote_calls B b l c w hT h hlen hBw)
    clear h hT hlen hc
    go_enter Tryd.func39, Tryd.ntmps39
    go_wp2_with (go_at_call 28; with_reducible refine (HC.out).mono ?_; rintro e w2 ⟨rfl, hw, hf⟩)
    go_end0
    exact ⟨rfl, hw, hf⟩
/-- What list writes, of lists of the kind α that read in w0 and of which G holds. -/
def LC {α : Type} (K : World → α → List Value → Prop) (f : List α → List UInt8) (G : List α → Prop) (w0 : World) (b : Nat) : Prop :=
  ∀ (p : List α) (v : Value) (out : List UInt8) (w : World), rdS (K w0) 11 w0 v p → G p → Wb w0.heap.size b out w → Below w0.heap.size w0 w → out.length + (f p).length ≤ 140737488355328 →
    Calls Tryd.prog 11 #[.pointer (some ⟨b, 0, none⟩), v] w fun e w' => e = .returned (.tuple #[]) ∧ Wb w0.heap.size b (out ++ f p) w' ∧ Fr w0.heap.size b w w'
set_option maxHeartbeats 2000000 in
set_option maxRecDepth 100000 in
theorem braces_calls {α : Type} (K : World → α → List Value → Prop) (f : List α → List UInt8) (G : List α → Prop) (w0 : World) (b : Nat) (hF : LC K f G w0 b)
    (ps : List (List α)) (A : Option Addr) (c : Nat) (out : List UInt8) (w : World) (hG : ∀ p ∈ ps, G p)
    (hp : ∀ (i : Nat) (h : i < ps.length), ∃ ad v, A = some ad ∧ (∀ w1, Fr w0.heap.size b w w1 → w1.cell? (ad.add i) = some v) ∧ rdS (K w0) 11 w0 v ps[i])
    (hps : ps.length ≤ 2000000) (hw : Wb w0.heap.size b out w) (hb : Below w0.heap.size w0 w) (hlen : out.length + (bracesL f ps).length ≤ 140737488355328) :
    Calls Tryd.prog 22 #[.pointer (some ⟨b, 0, none⟩), .slice A ps.length c] w fun e w' => e = .returned (.tuple #[]) ∧ Wb w0.heap.size b (out ++ bracesL f ps) w' ∧ Fr w0.heap.size b w w' := by
  have HFF := Lib.hid hF
  have HGG := Lib.hid hG
  have HP := Lib.hid hp
  have HW := Lib.hid hw
  have HB := Lib.hid hb
  have HL := Lib.hid hlen
  have HS := Lib.hid hb.size
  clear hF hG hp hw hb hlen
  go_enter Tryd.func22, Tryd.ntmps22
  go_wp2
  go_loopg [8] ps.length (fun kq v8 w' => ∃ (i : Nat) (o' : List UInt8), v8 = .int .i64 (i : Int) ∧ Hid (kq + i = ps.length) ∧ Hid (o' ++ bracesL f (ps.drop i) = out ++ bracesL f ps) ∧ Hid (Wb w0.heap.size b o' w') ∧ Hid (Fr w0.heap.size b w w'))
  case atStart => exact ⟨0, out, rfl, Lib.hid rfl, Lib.hid (by rw [List.drop_zero]), HW, Lib.hid (Fr.refl _ _ _)⟩
  case round =>
    obtain ⟨i, o', rfl, HI, HO, HW1, HF1⟩ := hrel
    by_cases hend : i = ps.length
    · have hc : decide ((i : Int) < (ps.length : Int)) = false := decide_eq_false (by omega)
      have HO2 : Hid (o' = out ++ bracesL f ps) := Lib.hid (by
        have := HO.out
        rw [hend, List.drop_length] at this
        simpa [bracesL] using this)
      go_wp2
      go_end0
      exact ⟨rfl, by rw [← HO2.out]; exact HW1.out, HF1.out⟩
    · have hlt : i < ps.length := by have := HI.out; omega
      have hc : decide ((i : Int) < (ps.length : Int)) = true := decide_eq_true (by omega)
      obtain ⟨go', rfl⟩ : ∃ g', gk = g' + 1 := ⟨gk - 1, by have := HI.out; omega⟩
      have HI2 : Hid (go' + (i + 1) = ps.length) := Lib.hid (by have := HI.out; omega)
      have HWI := Lib.hid (wrap_nat i _ hlt hps)
      obtain ⟨ad, v, rfl, hcell, hrd⟩ := HP.out i hlt
      have c1 := hcell wr HF1.out
      have HO2 : Hid ((o' ++ [123] ++ f ps[i] ++ [125]) ++ bracesL f (ps.drop (i + 1)) = out ++ bracesL f ps) := Lib.hid (by
        have := HO.out
        rw [List.drop_eq_getElem_cons hlt, bracesL] at this
        simpa using this)
      have HLL : Hid (o'.length + (1 + ((f ps[i]).length + 1)) ≤ 140737488355328) := Lib.hid (by
        have h1 := congrArg List.length HO2.out
        have h2 := HL.out
        simp only [List.length_append, List.length_cons, List.length_nil] at h1
        omega)
      have HS1 := Lib.hid (HF1.out.size HS.out)
      obtain ⟨Ai, ci, rfl⟩ := slice_is hrd
      have HC1 := Lib.hid (sw_byte w0.heap.size b o' 123 123 rfl wr HW1.out (by have := HLL.out; omega) HS1.out)
      have HC2 := Lib.hid fun (w1 : World) (hw1 : Wb w0.heap.size b (o' ++ [123]) w1) (hf1 : Fr w0.heap.size b wr w1) => HFF.out ps[i] _ (o' ++ [123]) w1 hrd (HGG.out _ (List.getElem_mem hlt)) hw1 (HB.out.trans (HF1.out.trans hf1).below) (by have := HLL.out; rw [List.length_append]; simp; omega)
      have HC3 := Lib.hid fun (w1 : World) (hw1 : Wb w0.heap.size b (o' ++ [123] ++ f ps[i]) w1) (hf1 : Fr w0.heap.size b wr w1) => sw_byte w0.heap.size b (o' ++ [123] ++ f ps[i]) 125 125 rfl w1 hw1 (by have := HLL.out; simp only [List.length_append, List.length_cons, List.length_nil]; omega) (hf1.size HS1.out)
      clear hcell hrd
      go_wp2_with (first | (go_at_call 21; with_reducible refine (HC1.out).mono ?_; rintro e w1 ⟨rfl, hw1, hf1⟩; have HX1 := Lib.hid hw1; have HY1 := Lib.hid hf1; clear hw1 hf1) | (go_at_call 11; with_reducible refine (HC2.out _ HX1.out HY1.out).mono ?_; rintro e w2 ⟨rfl, hw2, hf2⟩; have HX2 := Lib.hid hw2; have HY2 := Lib.hid (HY1.out.trans hf2); clear hw2 hf2) | (go_at_call 21; with_reducible refine (HC3.out _ HX2.out HY2.out).mono ?_; rintro e w3 ⟨rfl, hw3, hf3⟩; have HX3 := Lib.hid hw3; have HY3 := Lib.hid (HY2.out.trans hf3); clear hw3 hf3))
      have hwi := HWI.out
      go_roundg go'
      case measure => exact Nat.lt_succ_self _
      case rel => exact ⟨i + 1, _, by first | rfl | (rw [hwi]), HI2, HO2, HX3, Lib.hid (HF1.out.trans HY3.out)⟩
end Go.Proofs.YtaoepeiadhdbaaaDoor.ND
namespace Go.Proofs.YtaoepeiadhdbaaaDoor.ND
open Go.Shelf Go.Sort Go.Proofs.YtaoepeiadhdbaaaDoor.P Go.RowKit Go.Proofs.YtaoepeiadhdbaaaDoorW.PrintWords Go.Proofs.YtaoepeiadhdbaaaDoorW.PrintLast Go.Proofs.YtaoepeiadhdbaaaDoorW.PrintMore
set_option linter.unusedVariables false
set_option linter.unusedSimpArgs false
theorem Wb_lt {B b : Nat} {l : List UInt8} {w : World} (h : Wb B b l w) : b < w.heap.size := by rcases h.1 with h1 | h1 <;> exact h1.lt
/-- A noad's copy stays. -/
theorem box_kept {B b : Nat} {l : List UInt8} {w w1 w2 : World} {cs : Array Value} (h : w1.heap[w.heap.size]? = some (.cells cs 33 (0, 0))) (hw : Wb B b l w) (hf : Fr B b w1 w2) : w2.heap[w.heap.size]? = some (.cells cs 33 (0, 0)) :=
  hf.oth _ _ h (fun e => by have := Wb_lt hw; have := Option.some.inj e; omega) (fun c fz e => by injection e with _ e; cases e)
theorem parts_hp {α : Type} {K : World → α → List Value → Prop} {w0 w1 : World} {b : Nat} {A : Option Addr} {c : Nat} {ps : List (List α)} (hp : rdS (fun l cs => ∃ v, cs = [v] ∧ rdS (K w0) 11 w0 v l) 1 w0 (.slice A ps.length c) ps) (hb : Below w0.heap.size w0 w1) (i : Nat) (h : i < ps.length) :
    ∃ ad v, A = some ad ∧ (∀ w2, Fr w0.heap.size b w1 w2 → w2.cell? (ad.add i) = some v) ∧ rdS (K w0) 11 w0 v ps[i] := by
  obtain ⟨ad, v, e, hc, hv⟩ := part_at hp i ps[i] (List.getElem?_eq_getElem h)
  exact ⟨ad, v, e, fun w2 hf => ((hb.trans hf.below).cell (World.block_lt_of_cell? w0 _ hc)).trans hc, hv⟩
def fwS (i : Nat) : ByteArray := if i = 0 then ⟨#[108, 101, 102, 116, 32]⟩ else ⟨#[109, 105, 100, 100, 108, 101, 32]⟩
def fwL (i : Nat) : List UInt8 := if i = 0 then [108, 101, 102, 116, 32] else [109, 105, 100, 100, 108, 101, 32]
theorem fw_eq (i : Nat) : (fwS i).data.toList = fwL i := by unfold fwS fwL; split <;> rfl
theorem fence_one {α : Type} (f : List α → List UInt8) (ps : List (List α)) (rs : List Int) (i : Nat) (h : i < ps.length) (h2 : i < rs.length) :
    fenceL f (ps.drop i) (rs.drop i) (i == 0) = (92 :: fwL i) ++ (delimL rs[i] ++ (f ps[i] ++ fenceL f (ps.drop (i + 1)) (rs.drop (i + 1)) (i + 1 == 0))) := by
  rw [List.drop_eq_getElem_cons h, List.drop_eq_getElem_cons h2, fenceL]
  cases i <;> rfl
theorem fence_end {α : Type} (f : List α → List UInt8) (ps : List (List α)) (rs : List Int) (h2 : ps.length < rs.length) (g : Bool) :
    fenceL f (ps.drop ps.length) (rs.drop ps.length) g = [92, 114, 105, 103, 104, 116, 32] ++ delimL rs[ps.length] := by
  rw [List.drop_length, List.drop_eq_getElem_cons h2, fenceL]
  rfl
set_option maxHeartbeats 2000000 in
set_option maxRecDepth 100000 in
theorem fence_calls {α : Type} (K : World → α → List Value → Prop) (f : List α → List UInt8) (G : List α → Prop) (w0 : World) (b : Nat) (hT : LexTabs w0) (hF : LC K f G w0 b)
    (a0 a1 a2 a3 a4 : Int) (ps : List (List α)) (Ap : Option Addr) (cp : Nat) (Ar : Option Addr) (rs : List Int) (cr : Nat) (b1 b2 : Bool) (Au : Option Addr) (lu cu : Nat) (Ab : Option Addr) (lb cb : Nat) (out : List UInt8) (w : World) (hG : ∀ p ∈ ps, G p)
    (hp : rdS (fun l cs => ∃ v, cs = [v] ∧ rdS (K w0) 11 w0 v l) 1 w0 (.slice Ap ps.length cp) ps) (hr : rdS (fun (n : Int) cs => cs = [.int .i64 n] ∧ inI n) 1 w0 (.slice Ar rs.length cr) rs)
    (hps : ps.length ≤ 2000000) (hpr : rs.length = ps.length + 1) (hw : Wb w0.heap.size b out w) (hb : Below w0.heap.size w0 w) (hlen : out.length + (fenceL f ps rs true).length ≤ 140737488355328) :
    Calls Tryd.prog 29 #[.pointer (some ⟨b, 0, none⟩), .agg #[.int .i64 a0, .int .i64 a1, .int .i64 a2, .int .i64 a3, .int .i64 a4, .slice Ap ps.length cp, .slice Ar rs.length cr, .bool b1, .bool b2, .slice Au lu cu, .slice Ab lb cb]] w fun e w' => e = .returned (.tuple #[]) ∧ Wb w0.heap.size b (out ++ fenceL f ps rs true) w' ∧ Fr w0.heap.size b w w' := by
  obtain ⟨Wa, hWa⟩ : ∃ Wa, w.alloc (Obj.cells #[.int .i64 a0, .int .i64 a1, .int .i64 a2, .int .i64 a3, .int .i64 a4, .slice Ap ps.length cp, .slice Ar rs.length cr, .bool b1, .bool b2, .slice Au lu cu, .slice Ab lb cb] 33) = Wa := ⟨_, rfl⟩
  have hbox := heap_alloc_new w (Obj.cells #[.int .i64 a0, .int .i64 a1, .int .i64 a2, .int .i64 a3, .int .i64 a4, .slice Ap ps.length cp, .slice Ar rs.length cr, .bool b1, .bool b2, .slice Au lu cu, .slice Ab lb cb] 33)
  have hFA := (Fr.refl w0.heap.size b w).alloc hb.size (Obj.cells #[.int .i64 a0, .int .i64 a1, .int .i64 a2, .int .i64 a3, .int .i64 a4, .slice Ap ps.length cp, .slice Ar rs.length cr, .bool b1, .bool b2, .slice Au lu cu, .slice Ab lb cb] 33)
  have hwa := hw.alloc (Obj.cells #[.int .i64 a0, .int .i64 a1, .int .i64 a2, .int .i64 a3, .int .i64 a4, .slice Ap ps.length cp, .slice Ar rs.length cr, .bool b1, .bool b2, .slice Au lu cu, .slice Ab lb cb] 33)
  rw [hWa] at hbox hFA hwa
  have HBX : Hid (∀ w2, Fr w0.heap.size b Wa w2 → _) := Lib.hid fun w2 hf => box_kept hbox hw hf
  have HFA := Lib.hid hFA
  have HWA := Lib.hid hwa
  have HFF := Lib.hid hF
  have HGG := Lib.hid hG
  have HP := Lib.hid hp
  have HR := Lib.hid hr
  have HB := Lib.hid (hb.trans hFA.below)
  have HL := Lib.hid hlen
  have HTT := Lib.hid hT
  have HPR := Lib.hid hpr
  obtain ⟨k, hk⟩ : ∃ k, w.heap.size = k := ⟨_, rfl⟩
  rw [hk] at HBX
  have HK := Lib.hid hk
  have HWE := Lib.hid hWa
  clear hF hG hp hr hb hlen hT hw hwa hFA hbox hpr
  go_enter Tryd.func29, Tryd.ntmps29
  go_upto_region 2 with fail
  clear hWa hk
  have c5 := nad_cells (HBX.out Wa (Fr.refl _ _ _)) 5 _ rfl
  go_wp2_with fail
  go_loopg [4, 10] ps.length (fun kq v4 v10 w' => ∃ (i : Nat) (o' : List UInt8), v4 = .string (fwS i) ∧ v10 = .int .i64 (i : Int) ∧ Hid (kq + i = ps.length) ∧ Hid (o' ++ fenceL f (ps.drop i) (rs.drop i) (i == 0) = out ++ fenceL f ps rs true) ∧ Hid (Wb w0.heap.size b o' w') ∧ Hid (Fr w0.heap.size b Wa w'))
  case atStart => exact ⟨0, out, rfl, rfl, Lib.hid rfl, Lib.hid rfl, HWA, Lib.hid (Fr.refl _ _ _)⟩
  case round =>
    obtain ⟨i, o', rfl, rfl, HI, HO, HW1, HF1⟩ := hrel
    clear c5
    have HS1 := Lib.hid (HF1.out.size HB.out.size)
    by_cases hend : i = ps.length
    · have hc : decide ((i : Int) < (ps.length : Int)) = false := decide_eq_false (by omega)
      have hlt2 : ps.length < rs.length := by have := HPR.out; omega
      have HO2 : Hid ((o' ++ [92, 114, 105, 103, 104, 116, 32]) ++ delimL rs[ps.length] = out ++ fenceL f ps rs true) := Lib.hid (by
        have := HO.out
        rw [hend, fence_end f ps rs hlt2] at this
        rw [List.append_assoc]
        exact this)
      have HLL : Hid (o'.length + (7 + (delimL rs[ps.length]).length) ≤ 140737488355328) := Lib.hid (by
        have h1 := congrArg List.length HO2.out
        have h2 := HL.out
        simp only [List.length_append, List.length_cons, List.length_nil] at h1 h2
        omega)
      obtain ⟨ar, rfl, hrc, hrb⟩ := int_at HR.out ps.length hlt2
      have HRC := Lib.hid hrc
      have HC1 := Lib.hid (sw_word w0.heap.size b o' ⟨#[114, 105, 103, 104, 116, 32]⟩ [114, 105, 103, 104, 116, 32] rfl wr HW1.out (by have := HLL.out; simp only [List.length_cons, List.length_nil]; omega) HS1.out)
      have HC2 := Lib.hid fun (w1 : World) (hw1 : Wb w0.heap.size b (o' ++ [92, 114, 105, 103, 104, 116, 32]) w1) (hf1 : Fr w0.heap.size b Wa w1) => wdelim_calls w0.heap.size b (o' ++ [92, 114, 105, 103, 104, 116, 32]) rs[ps.length] w1 (HTT.out.below (HB.out.trans hf1.below)) hw1 (by have := HLL.out; simp only [List.length_append, List.length_cons, List.length_nil]; omega) (hf1.size HB.out.size)
      clear hrc hrb
      generalize rs[ps.length] = rv at *
      have hlt3 : (ps.length : Int) < (rs.length : Int) := by omega
      go_wp2_with (first | (go_at_call 19; with_reducible refine (HC1.out).mono ?_; rintro e w1 ⟨rfl, hw1, hf1⟩; have HX1 := Lib.hid hw1; have HY1 := Lib.hid (HF1.out.trans hf1); have HZ1 := Lib.hid hf1; have c5 := nad_cells (HBX.out w1 HY1.out) 5 _ rfl; have c6 := nad_cells (HBX.out w1 HY1.out) 6 _ rfl; have cr1 := ((HB.out.trans HY1.out.below).cell (World.block_lt_of_cell? w0 _ HRC.out)).trans HRC.out; clear hw1 hf1) | (go_at_call 39; with_reducible refine (HC2.out _ HX1.out HY1.out).mono ?_; rintro e w2 ⟨rfl, hw2, hf2⟩; have HX2 := Lib.hid hw2; have HY2 := Lib.hid (HY1.out.trans hf2); clear hw2 hf2 c5 c6 cr1))
      go_end0
      exact ⟨rfl, by rw [← HO2.out]; exact HX2.out, HFA.out.trans HY2.out⟩
    · have hlt : i < ps.length := by have := HI.out; omega
      have hlt2 : i < rs.length := by have := HPR.out; omega
      have hc : decide ((i : Int) < (ps.length : Int)) = true := decide_eq_true (by omega)
      obtain ⟨go', rfl⟩ : ∃ g', gk = g' + 1 := ⟨gk - 1, by have := HI.out; omega⟩
      have HI2 : Hid (go' + (i + 1) = ps.length) := Lib.hid (by have := HI.out; omega)
      have HWI := Lib.hid (wrap_nat i _ hlt hps)
      obtain ⟨ad, v, rfl, hcell, hrd⟩ := parts_hp (b := b) HP.out HB.out i hlt
      have c1 := hcell wr HF1.out
      obtain ⟨Ai, ci, rfl⟩ := slice_is hrd
      obtain ⟨ar, rfl, hrc, hrb⟩ := int_at HR.out i hlt2
      have HRC := Lib.hid hrc
      have HO2 : Hid ((o' ++ (92 :: fwL i) ++ delimL rs[i] ++ f ps[i]) ++ fenceL f (ps.drop (i + 1)) (rs.drop (i + 1)) (i + 1 == 0) = out ++ fenceL f ps rs true) := Lib.hid (by
        have := HO.out
        rw [fence_one f ps rs i hlt hlt2] at this
        rw [← this]
        simp only [List.append_assoc])
      have HLL : Hid (o'.length + ((fwL i).length + 1 + ((delimL rs[i]).length + (f ps[i]).length)) ≤ 140737488355328) := Lib.hid (by
        have h1 := congrArg List.length HO2.out
        have h2 := HL.out
        simp only [List.length_append, List.length_cons] at h1 h2
        omega)
      have HC1 := Lib.hid (sw_word w0.heap.size b o' (fwS i) (fwL i) (fw_eq i) wr HW1.out (by have := HLL.out; omega) HS1.out)
      have HC2 := Lib.hid fun (w1 : World) (hw1 : Wb w0.heap.size b (o' ++ (92 :: fwL i)) w1) (hf1 : Fr w0.heap.size b Wa w1) => wdelim_calls w0.heap.size b (o' ++ (92 :: fwL i)) rs[i] w1 (HTT.out.below (HB.out.trans hf1.below)) hw1 (by have := HLL.out; simp only [List.length_append, List.length_cons]; omega) (hf1.size HB.out.size)
      have HC3 := Lib.hid fun (w1 : World) (hw1 : Wb w0.heap.size b (o' ++ (92 :: fwL i) ++ delimL rs[i]) w1) (hf1 : Fr w0.heap.size b Wa w1) => HFF.out ps[i] _ (o' ++ (92 :: fwL i) ++ delimL rs[i]) w1 hrd (HGG.out _ (List.getElem_mem hlt)) hw1 (HB.out.trans hf1.below) (by have := HLL.out; simp only [List.length_append, List.length_cons]; omega)
      have HNX : Hid (fwS (i + 1) = ⟨#[109, 105, 100, 100, 108, 101, 32]⟩) := Lib.hid (by unfold fwS; rw [if_neg (by omega)])
      clear hrc hrb hcell hrd
      generalize hq : rs[i] = rv at *
      generalize fwS i = ws at *
      have hlt3 : (i : Int) < (rs.length : Int) := by omega
      go_wp2_with (first | (go_at_call 19; with_reducible refine (HC1.out).mono ?_; rintro e w1 ⟨rfl, hw1, hf1⟩; have HX1 := Lib.hid hw1; have HY1 := Lib.hid (HF1.out.trans hf1); have c6 := nad_cells (HBX.out w1 HY1.out) 6 _ rfl; have cr1 := ((HB.out.trans HY1.out.below).cell (World.block_lt_of_cell? w0 _ HRC.out)).trans HRC.out; clear hw1 hf1) | (go_at_call 39; with_reducible refine (HC2.out _ HX1.out HY1.out).mono ?_; rintro e w2 ⟨rfl, hw2, hf2⟩; have HX2 := Lib.hid hw2; have HY2 := Lib.hid (HY1.out.trans hf2); clear hw2 hf2 c6 cr1) | (go_at_call 11; with_reducible refine (HC3.out _ HX2.out HY2.out).mono ?_; rintro e w3 ⟨rfl, hw3, hf3⟩; have HX3 := Lib.hid hw3; have HY3 := Lib.hid (HY2.out.trans hf3); clear hw3 hf3))
      have hwi := HWI.out
      have hnx := HNX.out
      go_roundg go'
      case measure => exact Nat.lt_succ_self _
      case rel => exact ⟨i + 1, _, by rw [hnx], by first | rfl | (rw [hwi]), HI2, HO2, HX3, HY3⟩
end Go.Proofs.YtaoepeiadhdbaaaDoor.ND
namespace Go.Proofs.YtaoepeiadhdbaaaDoor.ND
open Go.Shelf Go.Sort Go.Proofs.YtaoepeiadhdbaaaDoor.P Go.RowKit Go.Proofs.YtaoepeiadhdbaaaDoorW.PrintWords Go.Proofs.YtaoepeiadhdbaaaDoorW.PrintLast Go.Proofs.YtaoepeiadhdbaaaDoorW.PrintMore
set_option linter.unusedVariables false
set_option linter.unusedSimpArgs false
def sepL (n : Int) (i : Nat) : List UInt8 := if i = 0 then [] else if (i : Int) % n = 0 then [92, 92] else [38]
theorem matrix_one {α : Type} (f : List α → List UInt8) (n : Int) (ps : List (List α)) (i : Nat) (h : i < ps.length) : matrixL f n (ps.drop i) i = sepL n i ++ (f ps[i] ++ matrixL f n (ps.drop (i + 1)) (i + 1)) := by
  rw [List.drop_eq_getElem_cons h, matrixL]
  rfl
set_option maxHeartbeats 2000000 in
set_option maxRecDepth 100000 in
theorem matrix_calls {α : Type} (K : World → α → List Value → Prop) (f : List α → List UInt8) (G : List α → Prop) (w0 : World) (b : Nat) (hT : LexTabs w0) (hF : LC K f G w0 b)
    (a0 a1 a2 a3 a4 : Int) (hn1 : 1 ≤ a3) (ps : List (List α)) (Ap : Option Addr) (cp : Nat) (Ar : Option Addr) (rs : List Int) (cr : Nat) (b1 b2 : Bool) (Au : Option Addr) (lu cu : Nat) (Ab : Option Addr) (lb cb : Nat) (out : List UInt8) (w : World) (hG : ∀ p ∈ ps, G p)
    (hp : rdS (fun l cs => ∃ v, cs = [v] ∧ rdS (K w0) 11 w0 v l) 1 w0 (.slice Ap ps.length cp) ps) (hr : rdS (fun (n : Int) cs => cs = [.int .i64 n] ∧ inI n) 1 w0 (.slice Ar rs.length cr) rs)
    (hps : ps.length ≤ 2000000) (hw : Wb w0.heap.size b out w) (hb : Below w0.heap.size w0 w) (hlen : out.length + ([92, 109, 97, 116, 114, 105, 120, 123] ++ matrixL f a3 ps 0).length ≤ 140737488355328) :
    Calls Tryd.prog 30 #[.pointer (some ⟨b, 0, none⟩), .agg #[.int .i64 a0, .int .i64 a1, .int .i64 a2, .int .i64 a3, .int .i64 a4, .slice Ap ps.length cp, .slice Ar rs.length cr, .bool b1, .bool b2, .slice Au lu cu, .slice Ab lb cb]] w fun e w' => e = .returned (.tuple #[]) ∧ Wb w0.heap.size b (out ++ ([92, 109, 97, 116, 114, 105, 120, 123] ++ matrixL f a3 ps 0)) w' ∧ Fr w0.heap.size b w w' := by
  obtain ⟨T, hTX⟩ : ∃ T, ([92, 109, 97, 116, 114, 105, 120, 123] ++ matrixL f a3 ps 0) = T := ⟨_, rfl⟩
  rw [hTX] at hlen ⊢
  have HTX := Lib.hid hTX
  clear hTX
  obtain ⟨Wa, hWa⟩ : ∃ Wa, w.alloc (Obj.cells #[.int .i64 a0, .int .i64 a1, .int .i64 a2, .int .i64 a3, .int .i64 a4, .slice Ap ps.length cp, .slice Ar rs.length cr, .bool b1, .bool b2, .slice Au lu cu, .slice Ab lb cb] 33) = Wa := ⟨_, rfl⟩
  have hbox := heap_alloc_new w (Obj.cells #[.int .i64 a0, .int .i64 a1, .int .i64 a2, .int .i64 a3, .int .i64 a4, .slice Ap ps.length cp, .slice Ar rs.length cr, .bool b1, .bool b2, .slice Au lu cu, .slice Ab lb cb] 33)
  have hFA := (Fr.refl w0.heap.size b w).alloc hb.size (Obj.cells #[.int .i64 a0, .int .i64 a1, .int .i64 a2, .int .i64 a3, .int .i64 a4, .slice Ap ps.length cp, .slice Ar rs.length cr, .bool b1, .bool b2, .slice Au lu cu, .slice Ab lb cb] 33)
  have hwa := hw.alloc (Obj.cells #[.int .i64 a0, .int .i64 a1, .int .i64 a2, .int .i64 a3, .int .i64 a4, .slice Ap ps.length cp, .slice Ar rs.length cr, .bool b1, .bool b2, .slice Au lu cu, .slice Ab lb cb] 33)
  rw [hWa] at hbox hFA hwa
  have HBX : Hid (∀ w2, Fr w0.heap.size b Wa w2 → _) := Lib.hid fun w2 hf => box_kept hbox hw hf
  have HFA := Lib.hid hFA
  have HWA := Lib.hid hwa
  have HFF := Lib.hid hF
  have HGG := Lib.hid hG
  have HP := Lib.hid hp
  have HR := Lib.hid hr
  have HB := Lib.hid (hb.trans hFA.below)
  have HL := Lib.hid hlen
  have HTT := Lib.hid hT
  obtain ⟨k, hk⟩ : ∃ k, w.heap.size = k := ⟨_, rfl⟩
  rw [hk] at HBX
  have HK := Lib.hid hk
  have HWE := Lib.hid hWa
  clear hF hG hp hr hb hlen hT hw hwa hFA hbox
  go_enter Tryd.func30, Tryd.ntmps30
  have HC0 := Lib.hid (sw_word w0.heap.size b out ⟨#[109, 97, 116, 114, 105, 120, 123]⟩ [109, 97, 116, 114, 105, 120, 123] rfl Wa HWA.out (by have := HL.out; rw [← HTX.out] at this; simp only [List.length_append, List.length_cons, List.length_nil] at this ⊢; omega) (HB.out.size))
  go_upto_region 2 with (go_at_call 19; with_reducible refine (HC0.out).mono ?_; rintro e w1 ⟨rfl, hw1, hf1⟩; have HX0 := Lib.hid hw1; have HY0 := Lib.hid hf1; clear hw1 hf1)
  clear hWa hk
  have c5 := nad_cells (HBX.out w1 HY0.out) 5 _ rfl
  go_wp2_with fail
  go_loopg [11] ps.length (fun kq v11 w' => ∃ (i : Nat) (o' : List UInt8), v11 = .int .i64 (i : Int) ∧ Hid (kq + i = ps.length) ∧ Hid (o' ++ matrixL f a3 (ps.drop i) i = out ++ T) ∧ Hid (Wb w0.heap.size b o' w') ∧ Hid (Fr w0.heap.size b Wa w'))
  case atStart => exact ⟨0, _, rfl, Lib.hid rfl, Lib.hid (by rw [List.drop_zero, List.append_assoc, HTX.out]), HX0, HY0⟩
  case round =>
    obtain ⟨i, o', rfl, HI, HO, HW1, HF1⟩ := hrel
    clear c5
    have HS1 := Lib.hid (HF1.out.size HB.out.size)
    by_cases hend : i = ps.length
    · have hc : decide ((i : Int) < (ps.length : Int)) = false := decide_eq_false (by omega)
      have HO2 : Hid ((o' ++ [125]) = out ++ T) := Lib.hid (by
        have := HO.out
        rw [hend, List.drop_length] at this
        exact this)
      have HLL : Hid (o'.length + 1 ≤ 140737488355328) := Lib.hid (by
        have h1 := congrArg List.length HO2.out
        have h2 := HL.out
        simp only [List.length_append, List.length_cons, List.length_nil] at h1 h2
        omega)
      have HC1 := Lib.hid (sw_byte w0.heap.size b o' 125 125 rfl wr HW1.out HLL.out HS1.out)
      go_wp2_with (go_at_call 21; with_reducible refine (HC1.out).mono ?_; rintro e w1 ⟨rfl, hw1, hf1⟩; have HX1 := Lib.hid hw1; have HY1 := Lib.hid (HF1.out.trans hf1); clear hw1 hf1)
      go_end0
      exact ⟨rfl, by rw [← HO2.out]; exact HX1.out, HFA.out.trans HY1.out⟩
    · have hlt : i < ps.length := by have := HI.out; omega
      have hc : decide ((i : Int) < (ps.length : Int)) = true := decide_eq_true (by omega)
      obtain ⟨go', rfl⟩ : ∃ g', gk = g' + 1 := ⟨gk - 1, by have := HI.out; omega⟩
      have HI2 : Hid (go' + (i + 1) = ps.length) := Lib.hid (by have := HI.out; omega)
      have HWI := Lib.hid (wrap_nat i _ hlt hps)
      obtain ⟨ad, v, rfl, hcell, hrd⟩ := parts_hp (b := b) HP.out HB.out i hlt
      have c1 := hcell wr HF1.out
      obtain ⟨Ai, ci, rfl⟩ := slice_is hrd
      have HO2 : Hid ((o' ++ sepL a3 i ++ f ps[i]) ++ matrixL f a3 (ps.drop (i + 1)) (i + 1) = out ++ T) := Lib.hid (by
        have := HO.out
        rw [matrix_one f a3 ps i hlt] at this
        rw [← this]
        simp only [List.append_assoc])
      have HLL : Hid (o'.length + ((sepL a3 i).length + (f ps[i]).length) ≤ 140737488355328) := Lib.hid (by
        have h1 := congrArg List.length HO2.out
        have h2 := HL.out
        simp only [List.length_append, List.length_cons] at h1 h2
        omega)
      have HC3 := Lib.hid fun (w1 : World) (hw1 : Wb w0.heap.size b (o' ++ sepL a3 i) w1) (hf1 : Fr w0.heap.size b Wa w1) => HFF.out ps[i] _ (o' ++ sepL a3 i) w1 hrd (HGG.out _ (List.getElem_mem hlt)) hw1 (HB.out.trans hf1.below) (by have := HLL.out; simp only [List.length_append]; omega)
      have c3 := nad_cells (HBX.out wr HF1.out) 3 _ rfl
      clear hcell hrd
      by_cases hi0 : i = 0
      · have hb0 : ((i : Int) == 0) = true := by simp [hi0]
        have HX1 : Hid (Wb w0.heap.size b (o' ++ sepL a3 i) wr) := Lib.hid (by rw [show sepL a3 i = [] by (unfold sepL; rw [if_pos hi0]), List.append_nil]; exact HW1.out)
        clear hi0 c3
        go_wp2_with (go_at_call 11; with_reducible refine (HC3.out _ HX1.out HF1.out).mono ?_; rintro e w3 ⟨rfl, hw3, hf3⟩; have HX3 := Lib.hid hw3; have HY3 := Lib.hid (HF1.out.trans hf3); clear hw3 hf3)
        have hwi := HWI.out
        go_roundg go'
        case measure => exact Nat.lt_succ_self _
        case rel => exact ⟨i + 1, _, by first | rfl | (rw [hwi]), HI2, HO2, HX3, HY3⟩
      · have hb0 : ((i : Int) == 0) = false := by simp [hi0]
        have hn0 : a3 ≠ 0 := by omega
        have hn00 : (a3 == 0) = false := by simp [hn0]
        by_cases him : (i : Int) % a3 = 0
        · have hbm : ((i : Int) % a3 == 0) = true := by simp [him]
          have hsp : sepL a3 i = [92, 92] := by unfold sepL; rw [if_neg hi0, if_pos him]
          rw [hsp] at HC3 HO2 HLL
          have HC1 := Lib.hid (sw_str w0.heap.size b o' ⟨#[92, 92]⟩ [92, 92] rfl wr HW1.out (by have := HLL.out; simp only [List.length_cons, List.length_nil] at this ⊢; omega) HS1.out)
          clear hi0 hsp him
          go_wp2_with (first | (go_at_call 27; with_reducible refine (HC1.out).mono ?_; rintro e w1 ⟨rfl, hw1, hf1⟩; have HX1 := Lib.hid hw1; have HY1 := Lib.hid (HF1.out.trans hf1); clear hw1 hf1) | (go_at_call 11; with_reducible refine (HC3.out _ HX1.out HY1.out).mono ?_; rintro e w3 ⟨rfl, hw3, hf3⟩; have HX3 := Lib.hid hw3; have HY3 := Lib.hid (HY1.out.trans hf3); clear hw3 hf3))
          have hwi := HWI.out
          go_roundg go'
          case measure => exact Nat.lt_succ_self _
          case rel => exact ⟨i + 1, _, by first | rfl | (rw [hwi]), HI2, HO2, HX3, HY3⟩
        · have hbm : ((i : Int) % a3 == 0) = false := by simp [him]
          have hsp : sepL a3 i = [38] := by unfold sepL; rw [if_neg hi0, if_neg him]
          rw [hsp] at HC3 HO2 HLL
          have HC1 := Lib.hid (sw_byte w0.heap.size b o' 38 38 rfl wr HW1.out (by have := HLL.out; simp only [List.length_cons, List.length_nil] at this ⊢; omega) HS1.out)
          clear hi0 hsp him
          go_wp2_with (first | (go_at_call 21; with_reducible refine (HC1.out).mono ?_; rintro e w1 ⟨rfl, hw1, hf1⟩; have HX1 := Lib.hid hw1; have HY1 := Lib.hid (HF1.out.trans hf1); clear hw1 hf1) | (go_at_call 11; with_reducible refine (HC3.out _ HX1.out HY1.out).mono ?_; rintro e w3 ⟨rfl, hw3, hf3⟩; have HX3 := Lib.hid hw3; have HY3 := Lib.hid (HY1.out.trans hf3); clear hw3 hf3))
          have hwi := HWI.out
          go_roundg go'
          case measure => exact Nat.lt_succ_self _
          case rel => exact ⟨i + 1, _, by first | rfl | (rw [hwi]), HI2, HO2, HX3, HY3⟩
end Go.Proofs.YtaoepeiadhdbaaaDoor.ND
