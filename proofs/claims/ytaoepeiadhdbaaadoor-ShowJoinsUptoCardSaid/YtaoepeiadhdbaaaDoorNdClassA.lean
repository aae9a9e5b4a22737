/- parse.Class, walked. -/
import Derived.RangeFuncNested
import Derived.RangeFuncBound
import Derived.RangeFuncCalls
import Derived.RangeFuncLeaves
import Derived.RangeFuncBox
import Derived.RangeFuncWrites
import Derived.Shelf.Abstract
import Derived.Shelf.RegionOpen
import Derived.WalkKit
import Derived.OwnWalkIn
import Derived.TacticsInMore
import Derived.LoopNIn
import Derived.LoopIn
import Derived.RegionIn
import Derived.Lib.Hide
import Derived.Test.YtaoepeiadhdbaaaDoorShRune
import Derived.Sort.QuietIn
namespace Go.Proofs.YtaoepeiadhdbaaaDoor.CH
open Go.RowKit Go.Shelf Go.Proofs.YtaoepeiadhdbaaaDoor.ND
set_option linter.unusedVariables false
set_option linter.unusedSimpArgs false
attribute [local go_sem] Oper.semAt_some
set_option maxRecDepth 100000 in
set_option maxHeartbeats 1000000 in
theorem chunk1_in (F : Fence) (n : Nat) (hF : F.fn 50) (hro : F.round = none) (hn : 1 ≤ n) (l Bs Bn n₀ b m : Nat) (hm : m ≤ 1000) (hBsn : Bs < n₀) (hBnn : Bn < n₀) (J Jx : Nat → World → Prop) (hJd : ∀ k W, J k W → J k W.drew)
    (hY : ∀ k W, J k W → k < m → YieldAt F (n - 1) Tryd.prog l #[.slice (some ⟨b, 2 * k, none⟩) 2 2] W fun e W' =>
      (e = .returned (.bool true) ∧ J (k + 1) W' ∧ Below n₀ W W') ∨ (e = .returned (.bool false) ∧ Jx (k + 1) W'))
    (W : World) (L : Nat) (hL : L = 2 * m) (hBs : W.cell? ⟨Bs, 0, none⟩ = some (.slice (some ⟨b, 0, none⟩) L L)) (hBn : W.cell? ⟨Bn, 0, none⟩ = some (.int .i64 2)) (h0 : J 0 W) :
    CallsIn F n Tryd.prog 50 #[.func (.yield l) #[] #[], .pointer (some ⟨Bs, 0, none⟩), .pointer (some ⟨Bn, 0, none⟩)] W fun e W' => (∃ v, e = .returned v) ∧
      (J m W' ∨ (∃ k, k ≤ m ∧ Jx k W')) := by
  have HBS := Lib.hid hBs
  have HBN := Lib.hid hBn
  have HL := Lib.hid hL
  clear hBs hBn hL
  refine callsIn_of_wp Tryd.func50 rfl hF ?_ hro
  simp only [Tryd.ntmps50, List.size_toArray, List.length_cons, List.length_nil, Nat.reduceAdd, Nat.reduceSub, Array.replicate_succ, Array.replicate_zero, List.push_toArray, List.append_toArray, List.nil_append, List.cons_append]
  gi_wp2
  gi_loopw [4] (fun i wr => ∃ (k a : Nat), Hid (a = 2 * k ∧ k ≤ m) ∧ i = .int .i64 (a : Int) ∧ J k wr ∧ Below n₀ W wr)
    (fun i _ => L - (intOf i).toNat)
  case atStart => exact ⟨0, 0, Lib.hid ⟨rfl, Nat.zero_le _⟩, rfl, h0, Below.refl _ _⟩
  case round =>
    obtain ⟨k, a, HA, rfl, hJs, hnx⟩ := hrel
    have c1 : wr.cell? ⟨Bs, 0, none⟩ = some (.slice (some ⟨b, 0, none⟩) L L) := (hnx.cell (p := ⟨Bs, 0, none⟩) hBsn).trans HBS.out
    have c2 : wr.cell? ⟨Bn, 0, none⟩ = some (.int .i64 2) := (hnx.cell (p := ⟨Bn, 0, none⟩) hBnn).trans HBN.out
    have d1 : wr.drew.cell? ⟨Bs, 0, none⟩ = some (.slice (some ⟨b, 0, none⟩) L L) := c1
    have d2 : wr.drew.cell? ⟨Bn, 0, none⟩ = some (.int .i64 2) := c2
    by_cases hlt : k < m
    · have hYk := hY k wr.drew (hJd _ _ hJs) hlt
      rw [← HA.out.1] at hYk
      obtain ⟨fn, tmps, assign, body, hy, hR⟩ := hYk
      have q1 : a + 2 ≤ L := by have h1 := HA.out; have h2 := HL.out; omega
      have q1' : a < L := by omega
      have q0 : L ≤ 2000 := by have h2 := HL.out; omega
      have q2 : decide (a < L) = true := decide_eq_true (by omega)
      have q3 : decide ((a : Int) < (L : Int)) = true := decide_eq_true (by omega)
      have q4 : min 2 (((L - a : Nat)) : Int) = 2 := by omega
      have q5 : wrap64 ((a : Int) + 2) = (a : Int) + 2 := wrap64_small (by omega) (by omega)
      have HQ : Hid (a = 2 * k) := Lib.hid HA.out.1
      gi_wp2
      gi_region
      all_goals
        gi_wp2
        refine hR.mono ?_
        rintro e W3 (⟨rfl, hJ3, hk3⟩ | ⟨rfl, hJx3⟩)
        · have c2' : W3.cell? ⟨Bn, 0, none⟩ = some (.int .i64 2) := (hk3.cell (p := ⟨Bn, 0, none⟩) hBnn).trans d2
          have hnx3 : Below n₀ W W3 := hnx.trans ((Below.drew (Below.refl n₀ wr)).trans hk3)
          clear c1 c2 d1 d2
          gi_wp2
          go_roundw
          case rel => exact ⟨k + 1, a + 2, Lib.hid ⟨by have := HQ.out; omega, by omega⟩, by first | rfl | simp [q5], hJ3, hnx3⟩
          case measure => first | (simp [intOf]; omega) | (simp [intOf, q5]; omega)
        · gi_wp2
          refine bodyPost_ret (results_none rfl _ _ _) rfl ?_
          exact ⟨⟨_, rfl⟩, .inr ⟨k + 1, by omega, hJx3⟩⟩
    · obtain rfl : k = m := by have := HA.out; omega
      have q1 : a = L := by have h1 := HA.out; have h2 := HL.out; omega
      have q3 : decide ((a : Int) < (L : Int)) = false := decide_eq_false (by omega)
      subst q1
      gi_wp2
      go_end0
      exact ⟨⟨_, rfl⟩, .inl hJs⟩
theorem take_succ_fin (m k : Nat) (h : k < m) : (List.finRange m).take (k + 1) = (List.finRange m).take k ++ [⟨k, h⟩] := by
  rw [List.take_add_one]
  simp [h]
theorem chunk_stops (F : Fence) (n : Nat) (hF : F.fn 50) (hro : F.round = none) (hn : 1 ≤ n) (Bs Bn n₀ b m : Nat) (hm : m ≤ 1000) (w : World) (hBsn : Bs < n₀) (hBnn : Bn < n₀) (hn₀ : n₀ ≤ w.heap.size)
    (hBs : w.cell? ⟨Bs, 0, none⟩ = some (.slice (some ⟨b, 0, none⟩) (2 * m) (2 * m))) (hBn : w.cell? ⟨Bn, 0, none⟩ = some (.int .i64 2)) :
    SeqStopsK F n Tryd.prog 50 #[.pointer (some ⟨Bs, 0, none⟩), .pointer (some ⟨Bn, 0, none⟩)] (fun x : Fin m => #[Value.slice (some ⟨b, 2 * x.1, none⟩) 2 2]) (Below n₀) (fun ys => ys = List.finRange m)
      (fun pre => ∃ k, k ≤ m ∧ pre = (List.finRange m).take k) m w := fun l J Jx W hW hJ hJx hY h0 => by
  have g : ∀ {W' : World}, W'.grownBy W'.drew none := fun {W'} => ⟨rfl, rfl, rfl, Nat.le_refl _, fun _ _ _ => rfl⟩
  refine (chunk1_in F n hF hro hn l Bs Bn n₀ b m hm hBsn hBnn (fun k W => J ((List.finRange m).take k) W) (fun k W => Jx ((List.finRange m).take k) W) (fun k W h => hJ _ _ _ none h g (fun r e => by cases e)) (fun k W hk hkm => ?_) W (2 * m) rfl
    ((hW.cell (p := ⟨Bs, 0, none⟩) (by dsimp only; omega)).trans hBs) ((hW.cell (p := ⟨Bn, 0, none⟩) (by dsimp only; omega)).trans hBn) (by simpa using h0)).mono ?_
  · have := hY _ ⟨k, hkm⟩ W hk (by rw [List.length_take, List.length_finRange]; omega)
    rw [← take_succ_fin m k hkm] at this
    exact this
  · rintro e W' ⟨he, hj | ⟨k, hk, hj⟩⟩
    · exact ⟨he, .inl ⟨_, rfl, by rw [List.take_of_length_le (by rw [List.length_finRange]; omega)] at hj; exact hj⟩⟩
    · exact ⟨he, .inr ⟨_, ⟨k, hk, rfl⟩, hj⟩⟩
set_option maxHeartbeats 1000000 in
set_option maxRecDepth 100000 in
theorem chunk_in (F : Fence) (n : Nat) (hF : F.fn 42) (hro : F.round = none) (a : Option Addr) (len cap : Nat) (w : World) :
    CallsIn F n Tryd.prog 42 #[.slice a len cap, .int .i64 2] w fun e w' => e = .returned (.func (.func 50) #[] #[.pointer (some ⟨w.heap.size, 0, none⟩), .pointer (some ⟨w.heap.size + 1, 0, none⟩)]) ∧ w' = (w.alloc (.cells #[.slice a len cap] 31)).alloc (.cells #[.int .i64 2] 3) := by
  refine callsIn_of_wp Tryd.func42 rfl hF ?_ hro
  simp only [Tryd.ntmps42, List.size_toArray, List.length_cons, List.length_nil, Nat.reduceAdd, Nat.reduceSub, Array.replicate_succ, Array.replicate_zero, List.push_toArray, List.append_toArray, List.nil_append, List.cons_append]
  gi_wp2
  go_ret
  exact ⟨rfl, rfl⟩
end Go.Proofs.YtaoepeiadhdbaaaDoor.CH
namespace Go.Proofs.YtaoepeiadhdbaaaDoor.CH
open Go.RowKit Go.Shelf Go.Proofs.YtaoepeiadhdbaaaDoor.ND
set_option linter.unusedVariables false
set_option linter.unusedSimpArgs false
attribute [local go_sem] Oper.semAt_some
section
variable {P : Program} {F : Fence} {n : Nat} {ops : Array Oper} {md : Region.Mode} {C : World → Prop}
/-- No operation defers. -/
def noDefer (ops : Array Oper) : Bool := ops.all fun o => match o.op with | .defer _ => false | _ => true
theorem noDefer_spec (h : noDefer ops = true) (i : Nat) (o : Oper) (ho : ops[i]? = some o) : ∀ c, o.op ≠ .defer c := by
  intro c
  have h1 := (Array.all_eq_true_iff_forall_mem.1 h) o (Array.mem_of_getElem? ho)
  intro e
  rw [e] at h1
  cases h1
theorem quiet_op {o : Oper} {a : Act} {K : Act → Prop} {K' : Act → World → Prop} {Q' : Exit → Act → World → Prop} {w : World} (hnd : ∀ c, o.op ≠ .defer c) (hw : C w) (h : ∀ a w', C w' → K a → K' a w')
    (ha : o.askedIn F P a C) (hh : o.quietIn F n P a C K) : o.wpIn F n P a w K' Q' := by
  obtain ⟨v, h1, h2⟩ := hh
  have h3 := h1 w hw
  unfold Oper.quietAtIn at h3
  unfold Oper.wpIn
  refine ⟨ha w hw, ?_⟩
  rw [Oper.semAt_eq _ _ _ hnd]
  generalize (execOp a.eval o).run P w = r at *
  cases r with
  | ok x w' =>
    cases x <;> simp only [Oper.quietUponIn] at h3 <;> simp only [Oper.uponIn]
    case value u =>
      obtain ⟨e1, e2⟩ := h3
      rw [e1, e2]
      exact h _ _ hw h2
    case skip =>
      obtain ⟨e1, e2⟩ := h3
      rw [e1, ← e2]
      exact h _ _ hw h2
    case enter f args =>
      obtain ⟨e1, hd, hc⟩ := h3
      rw [e1]
      exact ⟨hd, hc.mono fun e w'' ⟨he, hw''⟩ => by subst he; exact h _ _ hw'' h2⟩
  | halt x w' => simp only [Oper.quietUponIn] at h3
theorem quiet_any {Q : Act → Prop} {Q' : Exit → Act → World → Prop} (hnd : noDefer ops = true) (hQ : ∀ a w, C w → Q a → Q' .normal a w) : ∀ (fuel : Nat) (listed : Array Bool) (a : Act) (w : World), C w →
    wpAnyQIn F n P md ops C Q fuel listed a → wpAnyIn F n P md ops Q' fuel listed a w
  | 0, _, _, _, hw, h => ⟨h.1, hQ _ _ hw h.2⟩
  | fuel + 1, listed, a, w, hw, h => ⟨fun h0 => hQ _ _ hw (h.1 h0), fun i hi => by
    have hh := h.2 i hi
    unfold qOpIn at hh
    unfold wpOpIn
    split
    · rename_i ho
      simp only [ho] at hh
      exact quiet_any hnd hQ fuel _ _ _ hw hh
    · rename_i o ho
      simp only [ho] at hh
      obtain ⟨ha, hh⟩ := hh
      split
      · rename_i hw'
        simp only [hw', if_true] at hh
        exact quiet_op (noDefer_spec hnd i o ho) hw (fun a' w' hc h' => quiet_any hnd hQ fuel _ a' w' hc h') ha hh
      · rename_i hw'
        simp only [hw'] at hh
        exact ⟨ha w hw, quiet_any hnd hQ fuel _ _ _ hw hh⟩⟩
theorem region_round {id : Nat} {Q : Exit → Act → World → Prop} {a : Act} {w : World} {l : List Oper} (hm : P.follows .mixedOrders = true) (hB : Region.lexB .any l.toArray = true) (hnd : noDefer l.toArray = true)
    (h : wpQuietIn F n P l.toArray (fun w' => ∃ n, w' = w.drewN n) (fun a' => ∀ w', (∃ n, w' = w.drewN n) → Q .normal a' w') l a) : (Code.region id l.toArray true).wpIn F n P Q a w := by
  simp only [Region.lexB, Bool.and_eq_true] at hB
  refine wpIn_region_any hm (quiet_any (C := fun w' => ∃ n, w' = w.drewN n) (Q := fun a' => ∀ w', (∃ n, w' = w.drewN n) → Q .normal a' w') hnd (fun _ w' hw' h => h w' hw') _ _ _ _ ⟨1, rfl⟩ ?_)
  have := wpAnyQIn_lex (F := F) (n := n) (C := fun w' => ∃ n, w' = w.drewN n) (md := .any) hB.1 l 0 (Array.replicate l.toArray.size false) a (by simp) (by simpa using hB.2) h
  simpa using this
end
/-- The first range over a function in a code. -/
def findRF : Code → Option Code
  | .rangeFunc g ps a b => some (.rangeFunc g ps a b)
  | .loop c => findRF c
  | .seq a b => match findRF a with
    | some c => some c
    | none => findRF b
  | .block _ c => findRF c
  | .scope c => findRF c
  | .cond _ a b => match findRF a with
    | some c => some c
    | none => findRF b
  | _ => none
noncomputable def rfCode : Code := (Tryd.f34.body.bind findRF).getD .skip
def mk (D : Nat) : Deferred := { target := .collected D, args := #[] }
/-- All below n stays, but the block e. -/
structure KX (n e : Nat) (W W' : World) : Prop where
  os : W'.os = W.os
  tape : W'.tape = W.tape
  output : W'.output = W.output
  size : W.heap.size ≤ W'.heap.size
  block : ∀ k, k < n → k ≠ e → W'.heap[k]? = W.heap[k]?
theorem KX.of_below {n e : Nat} {W W' : World} (h : Below n W W') : KX n e W W' := ⟨h.os, h.tape, h.output, h.size, fun k hk _ => h.block k hk⟩
theorem KX.set {n e : Nat} {W W' : World} (h : KX n e W W') (v : Value) : KX n e W (W'.setCell ⟨e, 0, none⟩ v) :=
  ⟨h.os, h.tape, h.output, by have := h.size; simpa [World.setCell] using this, fun k hk hke => (Below.heap_setCell _ _ _ _ (fun x => hke x)).trans (h.block k hk hke)⟩
theorem KX.drew {n e : Nat} {W W' : World} (h : KX n e W W') : KX n e W W'.drew := ⟨h.os, h.tape, h.output, h.size, h.block⟩
theorem KX.below {n e B : Nat} {W W' : World} (h : KX n e W W') (hB : B ≤ e) (hn : B ≤ n) : Below B W W' := ⟨h.os, h.tape, h.output, h.size, fun k hk => h.block k (by omega) (by omega)⟩
theorem KeepsFrom.of_drewN {B : Nat} {W : World} (k : Nat) : KeepsFrom B W (W.drewN k) := ⟨Nat.le_refl _, fun _ _ _ h _ => h⟩
theorem Below.drewN {B : Nat} {W : World} (k : Nat) : Below B W (W.drewN k) := ⟨rfl, rfl, rfl, Nat.le_refl _, fun _ _ => rfl⟩
theorem ownFrom_pure' {β : Type} {B : Nat} (p : β → Prop) : OwnFrom B (fun (s : β) (_ : World) => p s) := fun _ _ _ _ hs _ _ => hs
theorem ownFrom_kx {β : Type} {n e : Nat} {W : World} (hn : n ≤ W.heap.size) : OwnFrom n (fun (_ : β) W' => KX n e W W') := fun _ A B row hs hg hr =>
  ⟨hg.os.trans hs.os, hg.tape.trans hs.tape, hg.output.trans hs.output, Nat.le_trans hs.size hg.size, fun k hk hke => (hg.block k (by have := hs.size; omega) (fun e1 => by have := (hr k e1.symm).1; omega)).trans (hs.block k hk hke)⟩
theorem ownFrom_cell {β : Type} {B : Nat} (a : Addr) (v : Value) : OwnFrom B (fun (_ : β) W' => W'.cell? a = some v) := fun _ A C row hs hg hr => cell_kept hs hg (fun r e => (hr r e).2)
set_option maxRecDepth 100000 in
set_option maxHeartbeats 2000000 in
theorem stage (F : Fence) (n : Nat) (hF : F.fn 50) (hro : F.round = none) (hn : 3 ≤ n) (c cls : Int) (m : Nat) (hm : m ≤ 1000) (lo hi : Fin m → Int) (bc e0 bx bd Bs Bn : Nat)
    (v3 v5 v6 v7 v8 v9 v10 v11 v12 v13 v14 v15 v16 v17 v18 v19 v20 v21 v22 v23 v24 v25 v27 v28 v29 v30 v31 v32 v33 v34 v35 v36 v37 v38 v39 v40 v41 v42 : Value) (ds : List Deferred) (W : World) (Q : Exit → Act → World → Prop)
    (hc : W.cell? ⟨bc, 0, none⟩ = some (.int .i64 c)) (hx : W.cell? ⟨bx, 0, none⟩ = some (.int .i64 cls)) (hr : W.cell? ⟨e0, 0, none⟩ = some (.int .i64 0)) (hrf : W.frozen? ⟨e0, 0, none⟩ = false)
    (hBs : W.cell? ⟨Bs, 0, none⟩ = some (.slice (some ⟨bd, 0, none⟩) (2 * m) (2 * m))) (hBn : W.cell? ⟨Bn, 0, none⟩ = some (.int .i64 2))
    (hlo : ∀ x : Fin m, W.cell? ⟨bd, 2 * x.1, none⟩ = some (.int .i64 (lo x))) (hhi : ∀ x : Fin m, W.cell? ⟨bd, 2 * x.1 + 1, none⟩ = some (.int .i64 (hi x)))
    (hdone : ∀ D W', W.heap.size ≤ D → (∀ x : Fin m, (decide (lo x ≤ c) && decide (c ≤ hi x)) = false) → Below W.heap.size W W' → W'.heap[D]? = some (.deferred (some [])) → Q .normal { tmps := #[.int .i64 c, .pointer (some ⟨bc, 0, none⟩), .pointer (some ⟨e0, 0, none⟩), v3, .pointer (some ⟨bx, 0, none⟩), v5, v6, v7, v8, v9, v10, v11, v12, v13, v14, v15, v16, v17, v18, v19, v20, v21, v22, v23, v24, v25, .func (.func 50) #[] #[.pointer (some ⟨Bs, 0, none⟩), .pointer (some ⟨Bn, 0, none⟩)], v27, v28, v29, v30, v31, v32, v33, v34, v35, v36, v37, v38, v39, v40, v41, v42], defers := mk D :: ds } W')
    (hstop : ∀ D W', W.heap.size ≤ D → (∃ x : Fin m, (decide (lo x ≤ c) && decide (c ≤ hi x)) = true) → KX W.heap.size e0 W W' → W'.cell? ⟨e0, 0, none⟩ = some (.int .i64 cls) → W'.heap[D]? = some (.deferred (some [])) → Q .ret { tmps := #[.int .i64 c, .pointer (some ⟨bc, 0, none⟩), .pointer (some ⟨e0, 0, none⟩), v3, .pointer (some ⟨bx, 0, none⟩), v5, v6, v7, v8, v9, v10, v11, v12, v13, v14, v15, v16, v17, v18, v19, v20, v21, v22, v23, v24, v25, .func (.func 50) #[] #[.pointer (some ⟨Bs, 0, none⟩), .pointer (some ⟨Bn, 0, none⟩)], v27, v28, v29, v30, v31, v32, v33, v34, v35, v36, v37, v38, v39, v40, v41, v42], defers := mk D :: ds } W') :
    rfCode.wpIn F n Tryd.prog Q { tmps := #[.int .i64 c, .pointer (some ⟨bc, 0, none⟩), .pointer (some ⟨e0, 0, none⟩), v3, .pointer (some ⟨bx, 0, none⟩), v5, v6, v7, v8, v9, v10, v11, v12, v13, v14, v15, v16, v17, v18, v19, v20, v21, v22, v23, v24, v25, .func (.func 50) #[] #[.pointer (some ⟨Bs, 0, none⟩), .pointer (some ⟨Bn, 0, none⟩)], v27, v28, v29, v30, v31, v32, v33, v34, v35, v36, v37, v38, v39, v40, v41, v42], defers := ds } W := by
  have h1 : 1 ≤ n := by omega
  have lt := fun {p : Addr} {v : Value} (h : W.cell? p = some v) => World.block_lt_of_cell? W p h
  have HC := Lib.hid hc
  have HX := Lib.hid hx
  have HR := Lib.hid hr
  have HRF := Lib.hid hrf
  have HLO := Lib.hid hlo
  have HHI := Lib.hid hhi
  have HD := Lib.hid hdone
  have HS := Lib.hid hstop
  have hstops := chunk_stops F (n - 1) hF hro (by omega) Bs Bn W.heap.size bd m hm W (lt hBs) (lt hBn) (Nat.le_refl _) hBs hBn
  clear hc hx hr hrf hlo hhi hdone hstop hBs hBn
  conv => arg 4; whnf
  refine wpIn_rangeFunc_ownG hro h1 (gf := 50) (lb := #[.pointer (some ⟨Bs, 0, none⟩), .pointer (some ⟨Bn, 0, none⟩)]) rfl hF (enters_of Tryd.func50 (by kernel_rfl) rfl)
    hstops belowK_t (belowK_b (Nat.le_refl _)) (Below.refl _ _) (fun _ => rfl)
    (fun pre W' => (∀ x ∈ pre, (decide (lo x ≤ c) && decide (c ≤ hi x)) = false) ∧ Below W.heap.size W W')
    (fun cd pre W' => (cd = .ret ∧ ∃ x ∈ pre, (decide (lo x ≤ c) && decide (c ≤ hi x)) = true) ∧ (KX W.heap.size e0 W W' ∧ W'.cell? ⟨e0, 0, none⟩ = some (.int .i64 cls)))
    (OwnFrom.and (ownFrom_pure' _) (ownFrom_below (Nat.le_refl _) (Nat.le_refl _)))
    (fun cd => OwnFrom.and (ownFrom_pure' _) (OwnFrom.and (ownFrom_kx (Nat.le_refl _)) (ownFrom_cell _ _)))
    ⟨by simp, Below.refl _ _⟩
    (fun x => { tmps := #[.int .i64 c, .pointer (some ⟨bc, 0, none⟩), .pointer (some ⟨e0, 0, none⟩), v3, .pointer (some ⟨bx, 0, none⟩), .slice (some ⟨bd, 2 * x.1, none⟩) 2 2, v6, v7, v8, v9, v10, v11, v12, v13, v14, v15, v16, v17, v18, v19, v20, v21, v22, v23, v24, v25, .func (.func 50) #[] #[.pointer (some ⟨Bs, 0, none⟩), .pointer (some ⟨Bn, 0, none⟩)], .slice (some ⟨bd, 2 * x.1, none⟩) 2 2, v28, v29, v30, v31, v32, v33, v34, v35, v36, v37, v38, v39, v40, v41, v42], defers := [] }) ?assign ?body ?done ?stop
  case assign =>
    intro l x W1 K hK
    gi_wp2
    exact hK
  case body =>
    rintro l pre x W1 ⟨hp, hB⟩ _
    have up := fun {p : Addr} {v : Value} (h : W.cell? p = some v) => (hB.cell (World.block_lt_of_cell? W p h)).trans h
    have c0 := up HC.out
    have c1 := up HX.out
    have c2 := up (HLO.out x)
    have c3 := up (HHI.out x)
    have c4 := up HR.out
    have hlt0 : e0 < W.heap.size := World.block_lt_of_cell? W _ HR.out
    have f4 : W1.frozen? ⟨e0, 0, none⟩ = false := by
      have h0 : W1.heap[e0]? = W.heap[e0]? := hB.block e0 hlt0
      have := HRF.out
      unfold World.frozen? at this ⊢
      dsimp only at this ⊢
      rw [h0]
      exact this
    clear up
    cases e1 : decide (lo x ≤ c)
    · have HP : Hid (∀ y ∈ pre ++ [x], (decide (lo y ≤ c) && decide (c ≤ hi y)) = false) := Lib.hid (fun y hy => by
        rcases List.mem_append.1 hy with h | h
        · exact hp y h
        · rw [List.mem_singleton.1 h, e1]; rfl)
      clear hp
      gi_wp2
      refine region_round (by kernel_rfl) (by kernel_rfl) (by kernel_rfl) ?_
      repeat (gi_big_quiet_step (fail))
      refine wpQuietIn_nil ?_
      rintro _ ⟨nq, rfl⟩
      gi_wp2
      exact ⟨KeepsFrom.of_drewN nq, Below.drewN nq, HP.out, hB.trans (Below.drewN nq)⟩
    · cases e2 : decide (c ≤ hi x)
      · have HP : Hid (∀ y ∈ pre ++ [x], (decide (lo y ≤ c) && decide (c ≤ hi y)) = false) := Lib.hid (fun y hy => by
          rcases List.mem_append.1 hy with h | h
          · exact hp y h
          · rw [List.mem_singleton.1 h, e2]; simp)
        clear hp
        gi_wp2
        refine region_round (by kernel_rfl) (by kernel_rfl) (by kernel_rfl) ?_
        repeat (gi_big_quiet_step (fail))
        refine wpQuietIn_nil ?_
        rintro _ ⟨nq, rfl⟩
        gi_wp2
        exact ⟨KeepsFrom.of_drewN nq, Below.drewN nq, HP.out, hB.trans (Below.drewN nq)⟩
      · have HP : Hid (∃ y ∈ pre ++ [x], (decide (lo y ≤ c) && decide (c ≤ hi y)) = true) := Lib.hid ⟨x, by simp, by rw [e1, e2]; rfl⟩
        clear hp
        gi_wp2
        refine region_round (by kernel_rfl) (by kernel_rfl) (by kernel_rfl) ?_
        repeat (gi_big_quiet_step (fail))
        refine wpQuietIn_nil ?_
        rintro _ ⟨nq, rfl⟩
        gi_wp2
        exact ⟨(KeepsFrom.of_drewN nq).trans ((KeepsOthers.setCell _ _ _).from _), ⟨rfl, HP.out⟩, (KX.of_below (hB.trans (Below.drewN nq))).set _, World.cell?_setCell_same' _ _ _ (by show (W1.cell? ⟨e0, 0, none⟩).isSome = true; rw [c4]; rfl)⟩
  case done =>
    rintro D ys W1 hD rfl ⟨hp, hB⟩ hK
    exact HD.out D W1 hD (fun x => hp x (List.mem_finRange x)) hB hK
  case stop =>
    rintro D cd pre W1 hD hk ⟨⟨rfl, x, _, hx⟩, hkx, hcell⟩ hK
    gi_wp2
    exact HS.out D W1 hD ⟨x, hx⟩ hkx hcell hK
end Go.Proofs.YtaoepeiadhdbaaaDoor.CH
namespace Go.Proofs.YtaoepeiadhdbaaaDoor.CH
open Go.RowKit Go.Shelf Go.Proofs.YtaoepeiadhdbaaaDoor.ND
set_option linter.unusedVariables false
set_option linter.unusedSimpArgs false
attribute [local go_sem] Oper.semAt_some
def findLoop : Code → Option Code
  | .loop c => some c
  | .seq a b => match findLoop a with
    | some c => some c
    | none => findLoop b
  | .block _ c => findLoop c
  | .scope c => findLoop c
  | _ => none
noncomputable def bodyCode : Code := (Tryd.f34.body.bind findLoop).getD .skip
/-- The numbers of a list of pairs, in a row. -/
def flat : List (Int × Int) → List Value
  | [] => []
  | p :: l => .int .i64 p.1 :: .int .i64 p.2 :: flat l
theorem flat_lo : ∀ (l : List (Int × Int)) (j : Nat) (h : j < l.length), (flat l)[2 * j]? = some (.int .i64 (l[j]'h).1) ∧ (flat l)[2 * j + 1]? = some (.int .i64 (l[j]'h).2)
  | p :: l, 0, _ => ⟨rfl, rfl⟩
  | p :: l, j + 1, h => by
    have := flat_lo l j (by simpa using h)
    rw [show 2 * (j + 1) = 2 * j + 1 + 1 by omega, show 2 * j + 1 + 1 + 1 = (2 * j + 1) + 1 + 1 by omega]
    simpa [flat] using this
theorem three (w : World) (A B C : Obj) : (((w.alloc A).alloc B).alloc C).heap[w.heap.size]? = some A ∧ (((w.alloc A).alloc B).alloc C).heap[w.heap.size + 1]? = some B ∧ (((w.alloc A).alloc B).alloc C).heap[w.heap.size + 1 + 1]? = some C ∧
    Below w.heap.size w (((w.alloc A).alloc B).alloc C) ∧ (((w.alloc A).alloc B).alloc C).heap.size = w.heap.size + 3 := by
  have s1 : (w.alloc A).heap.size = w.heap.size + 1 := by simp
  have s2 : ((w.alloc A).alloc B).heap.size = w.heap.size + 1 + 1 := by simp
  refine ⟨?_, ?_, ?_, ((((Below.refl _ w).alloc (Nat.le_refl _) _).alloc (by simp) _).alloc (by simp; omega) _), by simp⟩
  · exact ((Lib.alloc_old _ C _ (by omega)).trans (Lib.alloc_old _ B _ (by omega))).trans (heap_alloc_new w A)
  · have := heap_alloc_new (w.alloc A) B
    rw [s1] at this
    exact (Lib.alloc_old _ C _ (by omega)).trans this
  · have := heap_alloc_new ((w.alloc A).alloc B) C
    rw [s2] at this
    exact this
set_option maxRecDepth 100000 in
set_option maxHeartbeats 2000000 in
theorem round_one (F : Fence) (n : Nat) (h42 : F.fn 42) (h50 : F.fn 50) (hro : F.round = none) (hn : 3 ≤ n) (c cls : Int) (l : List (Int × Int)) (hm : l.length ≤ 1000) (B T bd i : Nat) (hi6 : i < 6) (hBT : B + 1 ≠ T)
    (v3 v4 v5 v6 v7 v8 v9 v10 v11 v12 v13 v14 v15 v16 v17 v21 v22 v23 v24 v25 v26 v27 v28 v29 v30 v31 v32 v33 v34 v35 v36 v37 v38 v39 v40 v41 v42 : Value) (ds : List Deferred) (W : World) (Q : Exit → Act → World → Prop)
    (hc : W.cell? ⟨B, 0, none⟩ = some (.int .i64 c)) (hr : W.cell? ⟨B + 1, 0, none⟩ = some (.int .i64 0)) (hrf : W.frozen? ⟨B + 1, 0, none⟩ = false)
    (ht1 : W.cell? ⟨T, 2 * i, none⟩ = some (.int .i64 cls)) (ht2 : W.cell? ⟨T, 2 * i + 1, none⟩ = some (.slice (some ⟨bd, 0, none⟩) (2 * l.length) (2 * l.length)))
    (hd : W.heap[bd]? = some (.cells (flat l).toArray 3 (0, 0)))
    (hnext : ∀ (y3 y4 y5 y6 y7 y8 y9 y10 y11 y12 y13 y14 y15 y16 y17 y21 y22 y23 y24 y25 y26 y27 y28 y29 y30 y31 y32 y33 y34 y35 y36 y37 y38 y39 y40 y41 y42 : Value) D W', W.heap.size ≤ D → inR c l = false → Below W.heap.size W W' → W'.heap[D]? = some (.deferred (some [])) → Q .normal { tmps := #[.int .i64 c, .pointer (some ⟨B, 0, none⟩), .pointer (some ⟨B + 1, 0, none⟩), y3, y4, y5, y6, y7, y8, y9, y10, y11, y12, y13, y14, y15, y16, y17, .slice (some ⟨T, 0, none⟩) 6 6, .int .i64 6, .int .i64 ((i + 1 : Nat) : Int), y21, y22, y23, y24, y25, y26, y27, y28, y29, y30, y31, y32, y33, y34, y35, y36, y37, y38, y39, y40, y41, y42], defers := mk D :: ds } W')
    (hstop : ∀ (y3 y4 y5 y6 y7 y8 y9 y10 y11 y12 y13 y14 y15 y16 y17 y21 y22 y23 y24 y25 y26 y27 y28 y29 y30 y31 y32 y33 y34 y35 y36 y37 y38 y39 y40 y41 y42 : Value) D W', W.heap.size ≤ D → inR c l = true → KX W.heap.size (B + 1) W W' → W'.cell? ⟨B + 1, 0, none⟩ = some (.int .i64 cls) → W'.heap[D]? = some (.deferred (some [])) → Q .ret { tmps := #[.int .i64 c, .pointer (some ⟨B, 0, none⟩), .pointer (some ⟨B + 1, 0, none⟩), y3, y4, y5, y6, y7, y8, y9, y10, y11, y12, y13, y14, y15, y16, y17, .slice (some ⟨T, 0, none⟩) 6 6, .int .i64 6, .int .i64 i, y21, y22, y23, y24, y25, y26, y27, y28, y29, y30, y31, y32, y33, y34, y35, y36, y37, y38, y39, y40, y41, y42], defers := mk D :: ds } W') :
    bodyCode.wpIn F n Tryd.prog Q { tmps := #[.int .i64 c, .pointer (some ⟨B, 0, none⟩), .pointer (some ⟨B + 1, 0, none⟩), v3, v4, v5, v6, v7, v8, v9, v10, v11, v12, v13, v14, v15, v16, v17, .slice (some ⟨T, 0, none⟩) 6 6, .int .i64 6, .int .i64 i, v21, v22, v23, v24, v25, v26, v27, v28, v29, v30, v31, v32, v33, v34, v35, v36, v37, v38, v39, v40, v41, v42], defers := ds } W := by
  have h1 : 1 ≤ n := by omega
  have hdec : decide ((i : Int) < 6) = true := decide_eq_true (by omega)
  have hwi : wrap64 ((i : Int) + 1) = ((i + 1 : Nat) : Int) := wrap_nat i 6 hi6 (by decide)
  have HX := Lib.hid hnext
  have HS := Lib.hid hstop
  have HD := Lib.hid hd
  have HC := Lib.hid hc
  have HR := Lib.hid hr
  have HRF := Lib.hid hrf
  have HWI := Lib.hid hwi
  clear hnext hstop hd hc hr hrf hwi
  conv => arg 4; whnf
  have ht1' : W.cell? ⟨T, i * 2, none⟩ = some (.int .i64 cls) := by rw [Nat.mul_comm]; exact ht1
  have ht2' : W.cell? ⟨T, i * 2 + 1, none⟩ = some (.slice (some ⟨bd, 0, none⟩) (2 * l.length) (2 * l.length)) := by rw [Nat.mul_comm i 2]; exact ht2
  clear ht1 ht2
  gi_wp2_with (gi_at_call 42; refine (chunk_in F (n - 1) h42 hro _ _ _ _).mono ?_; rintro e w' ⟨rfl, rfl⟩)
  obtain ⟨b1, b2, b3, hB3, hsz⟩ := three W (Obj.cells #[.int .i64 cls, .slice (some ⟨bd, 0, none⟩) (2 * l.length) (2 * l.length)] 74) (Obj.cells #[.slice (some ⟨bd, 0, none⟩) (2 * l.length) (2 * l.length)] 31) (Obj.cells #[.int .i64 2] 3)
  generalize hW3 : ((W.alloc (Obj.cells #[.int .i64 cls, .slice (some ⟨bd, 0, none⟩) (2 * l.length) (2 * l.length)] 74)).alloc (Obj.cells #[.slice (some ⟨bd, 0, none⟩) (2 * l.length) (2 * l.length)] 31)).alloc (Obj.cells #[.int .i64 2] 3) = W3 at *
  have up := fun {p : Addr} {v : Value} (h : W.cell? p = some v) => (hB3.cell (World.block_lt_of_cell? W p h)).trans h
  have hfr : W3.frozen? ⟨B + 1, 0, none⟩ = false := by
    have h0 : W3.heap[B + 1]? = W.heap[B + 1]? := hB3.block (B + 1) (World.block_lt_of_cell? W _ HR.out)
    have := HRF.out
    unfold World.frozen? at this ⊢
    dsimp only at this ⊢
    rw [h0]
    exact this
  have hdd : W3.heap[bd]? = some (.cells (flat l).toArray 3 (0, 0)) := (hB3.block bd (blk_lt HD.out)).trans HD.out
  refine stage F n h50 hro hn c cls l.length hm (fun x => (l[x.1]'x.2).1) (fun x => (l[x.1]'x.2).2) B (B + 1) W.heap.size bd (W.heap.size + 1) (W.heap.size + 1 + 1) _ _ _ _ _ _ _ _ _ _ _ _ _ _ _ _ _ _ _ _ _ _ _ _ _ _ _ _ _ _ _ _ _ _ _ _ _ _ ds W3 _
    (up HC.out) (nad_cells b1 0 _ rfl) (up HR.out) hfr (nad_cells b2 0 _ rfl) (nad_cells b3 0 _ rfl)
    (fun x => nad_cells hdd _ _ (by simpa using (flat_lo l x.1 x.2).1)) (fun x => nad_cells hdd _ _ (by simpa using (flat_lo l x.1 x.2).2)) ?done ?stop
  case done =>
    intro D W' hD hno hb hK
    have hno' : inR c l = false := by
      unfold inR
      rw [List.any_eq_false]
      intro p hp
      obtain ⟨j, hj, rfl⟩ := List.mem_iff_getElem.1 hp
      have := hno ⟨j, hj⟩
      dsimp only at this
      rw [this]
      simp
    have HB := Lib.hid (hB3.trans (hb.mono hB3.size))
    have HN := Lib.hid hno'
    have HK := Lib.hid hK
    have HDD := Lib.hid (show W.heap.size ≤ D by omega)
    clear hno hno' hb hK b1 b2 b3 hB3 hdd hfr up hD
    gi_wp2
    have hwi := HWI.out
    try rw [hwi]
    exact HX.out _ _ _ _ _ _ _ _ _ _ _ _ _ _ _ _ _ _ _ _ _ _ _ _ _ _ _ _ _ _ _ _ _ _ _ _ _ D W' HDD.out HN.out HB.out HK.out
  case stop =>
    intro D W' hD hex hkx hcell hK
    have hin : inR c l = true := by
      obtain ⟨x, hx⟩ := hex
      unfold inR
      rw [List.any_eq_true]
      exact ⟨l[x.1]'x.2, List.getElem_mem x.2, hx⟩
    have hkx2 : KX W.heap.size (B + 1) W W' := ⟨hkx.os.trans hB3.os, hkx.tape.trans hB3.tape, hkx.output.trans hB3.output, Nat.le_trans hB3.size hkx.size, fun q hq hqe => (hkx.block q (by omega) hqe).trans (hB3.block q hq)⟩
    exact HS.out _ _ _ _ _ _ _ _ _ _ _ _ _ _ _ _ _ _ _ _ _ _ _ _ _ _ _ _ _ _ _ _ _ _ _ _ _ D W' (by omega) hin hkx2 hcell hK
end Go.Proofs.YtaoepeiadhdbaaaDoor.CH
namespace Go.Proofs.YtaoepeiadhdbaaaDoor.CH
open Go.RowKit Go.Shelf Go.Proofs.YtaoepeiadhdbaaaDoor.ND Go.Sort
set_option linter.unusedVariables false
set_option linter.unusedSimpArgs false
attribute [local go_sem] Oper.semAt_some
/-- Marks of loops that are over. -/
structure Marked (B : Nat) (rs : List Nat) (W : World) : Prop where
  nodup : rs.Nodup
  at_ : ∀ r ∈ rs, B ≤ r ∧ W.heap[r]? = some (.deferred (some []))
theorem leaves_marks {F : Fence} {n : Nat} {P : Program} {fn : Func} {tmps : Array Value} {R : Ending → World → Prop} {B : Nat} : ∀ (rs : List Nat) (W : World), Marked B rs W →
    (∀ W', Below B W W' → (∀ p v, W.cell? p = some v → W'.cell? p = some v) → ∃ v, (results fn tmps).run P W' = .ok v W' ∧ R (.returned v) W') → LeavesInM F n P fn tmps R (rs.map mk) .returning W
  | [], W, _, h => h W (Below.refl _ _) (fun _ _ h => h)
  | r :: rs, W, hm, h => by
    obtain ⟨hB, hK⟩ := hm.at_ r (by simp)
    have hnd := List.nodup_cons.1 hm.nodup
    have hg := grownBy_putObj' W r (.deferred none)
    have hlt : r < W.heap.size := (Array.getElem?_eq_some_iff.1 hK).1
    refine ⟨by simp, .inl ⟨r, _, rfl, run_takeDeferred hK, leaves_marks (B := B) rs _ ⟨hnd.2, fun q hq => ?_⟩ (fun W' hb hc => ?_)⟩⟩
    · obtain ⟨h1, h2⟩ := hm.at_ q (by simp [hq])
      exact ⟨h1, (World.putObj_heap_other (fun e => hnd.1 (by rw [← e]; exact hq))).trans h2⟩
    · exact h W' (((Below.refl B W).grown hg (by omega) (fun k e => by cases e; omega)).trans hb) (fun p v hv => hc p v (cell_kept hv hg (fun r' e => by cases e; exact ⟨_, hK, rfl⟩)))
theorem Marked.cons {B D : Nat} {rs : List Nat} {W W' : World} (h : Marked B rs W) (hs : B ≤ W.heap.size) (hD : W.heap.size ≤ D) (hK : W'.heap[D]? = some (.deferred (some []))) (hk : ∀ r, B ≤ r → r < W.heap.size → W'.heap[r]? = W.heap[r]?) : Marked B (D :: rs) W' := by
  have lt : ∀ r ∈ rs, r < W.heap.size := fun r hr => (Array.getElem?_eq_some_iff.1 (h.at_ r hr).2).1
  refine ⟨List.nodup_cons.2 ⟨fun hr => by have := lt D hr; omega, h.nodup⟩, fun r hr => ?_⟩
  rcases List.mem_cons.1 hr with rfl | hr
  · exact ⟨by omega, hK⟩
  · exact ⟨(h.at_ r hr).1, (hk r (h.at_ r hr).1 (lt r hr)).trans (h.at_ r hr).2⟩
def lT : Nat → List (Int × Int)
  | 0 => [(8719, 8721), (8747, 8755)]
  | 1 => [(42, 43), (45, 45), (177, 177), (183, 183), (215, 215), (247, 247), (8722, 8723), (8727, 8729), (8743, 8746), (8853, 8857)]
  | 2 => [(58, 58), (60, 62), (8592, 8601), (8712, 8717), (8764, 8777), (8800, 8805), (8834, 8839)]
  | 3 => [(40, 40), (91, 91), (123, 123), (10216, 10216)]
  | 4 => [(33, 33), (41, 41), (63, 63), (93, 93), (125, 125), (10217, 10217)]
  | _ => [(44, 44), (59, 59)]
theorem lT_len (i : Nat) : (lT i).length ≤ 1000 := by
  unfold lT
  split <;> decide
set_option maxRecDepth 100000 in
set_option maxHeartbeats 2000000 in
theorem rounds_all (F : Fence) (n : Nat) (h42 : F.fn 42) (h50 : F.fn 50) (hro : F.round = none) (hn : 3 ≤ n) (c : Int) (B T : Nat) (hBT : B + 1 ≠ T) (W0 : World) (Q : Exit → Act → World → Prop) (hsz : B + 2 ≤ W0.heap.size)
    (hc : W0.cell? ⟨B, 0, none⟩ = some (.int .i64 c)) (hr : W0.cell? ⟨B + 1, 0, none⟩ = some (.int .i64 0)) (hrf : W0.frozen? ⟨B + 1, 0, none⟩ = false)
    (ht1 : ∀ i, i < 6 → W0.cell? ⟨T, 2 * i, none⟩ = some (.int .i64 ((i + 1 : Nat) : Int))) (ht2 : ∀ i, i < 6 → W0.cell? ⟨T, 2 * i + 1, none⟩ = some (.slice (some ⟨B + 2 + i, 0, none⟩) (2 * (lT i).length) (2 * (lT i).length)))
    (hd : ∀ i, i < 6 → W0.heap[B + 2 + i]? = some (.cells (flat (lT i)).toArray 3 (0, 0)))
    (hexit : ∀ (v3 v4 v5 v6 v7 v8 v9 v10 v11 v12 v13 v14 v15 v16 v17 v21 v22 v23 v24 v25 v26 v27 v28 v29 v30 v31 v32 v33 v34 v35 v36 v37 v38 v39 v40 v41 v42 : Value) rs W, (∀ j, j < 6 → inR c (lT j) = false) → Below W0.heap.size W0 W → Marked W0.heap.size rs W → Q (.exit 0) { tmps := #[.int .i64 c, .pointer (some ⟨B, 0, none⟩), .pointer (some ⟨B + 1, 0, none⟩), v3, v4, v5, v6, v7, v8, v9, v10, v11, v12, v13, v14, v15, v16, v17, .slice (some ⟨T, 0, none⟩) 6 6, .int .i64 6, .int .i64 ((6 : Nat) : Int), v21, v22, v23, v24, v25, v26, v27, v28, v29, v30, v31, v32, v33, v34, v35, v36, v37, v38, v39, v40, v41, v42], defers := rs.map mk } W)
    (hret : ∀ (i : Nat) (v3 v4 v5 v6 v7 v8 v9 v10 v11 v12 v13 v14 v15 v16 v17 v21 v22 v23 v24 v25 v26 v27 v28 v29 v30 v31 v32 v33 v34 v35 v36 v37 v38 v39 v40 v41 v42 : Value) rs W, i < 6 → (∀ j, j < i → inR c (lT j) = false) → inR c (lT i) = true → KX W0.heap.size (B + 1) W0 W → W.cell? ⟨B + 1, 0, none⟩ = some (.int .i64 ((i + 1 : Nat) : Int)) → Marked W0.heap.size rs W → Q .ret { tmps := #[.int .i64 c, .pointer (some ⟨B, 0, none⟩), .pointer (some ⟨B + 1, 0, none⟩), v3, v4, v5, v6, v7, v8, v9, v10, v11, v12, v13, v14, v15, v16, v17, .slice (some ⟨T, 0, none⟩) 6 6, .int .i64 6, .int .i64 (i : Int), v21, v22, v23, v24, v25, v26, v27, v28, v29, v30, v31, v32, v33, v34, v35, v36, v37, v38, v39, v40, v41, v42], defers := rs.map mk } W) :
    ∀ (k i : Nat) (hk : k + i = 6) (v3 v4 v5 v6 v7 v8 v9 v10 v11 v12 v13 v14 v15 v16 v17 v21 v22 v23 v24 v25 v26 v27 v28 v29 v30 v31 v32 v33 v34 v35 v36 v37 v38 v39 v40 v41 v42 : Value) (rs : List Nat) (W : World), Below W0.heap.size W0 W → Marked W0.heap.size rs W → (∀ j, j < i → inR c (lT j) = false) →
      Code.roundsIn F n Tryd.prog bodyCode Q (k + 1) { tmps := #[.int .i64 c, .pointer (some ⟨B, 0, none⟩), .pointer (some ⟨B + 1, 0, none⟩), v3, v4, v5, v6, v7, v8, v9, v10, v11, v12, v13, v14, v15, v16, v17, .slice (some ⟨T, 0, none⟩) 6 6, .int .i64 6, .int .i64 (i : Int), v21, v22, v23, v24, v25, v26, v27, v28, v29, v30, v31, v32, v33, v34, v35, v36, v37, v38, v39, v40, v41, v42], defers := rs.map mk } W := by
  intro k
  induction k with
  | zero =>
    intro i hk v3 v4 v5 v6 v7 v8 v9 v10 v11 v12 v13 v14 v15 v16 v17 v21 v22 v23 v24 v25 v26 v27 v28 v29 v30 v31 v32 v33 v34 v35 v36 v37 v38 v39 v40 v41 v42 rs W hB hM hno
    obtain rfl : i = 6 := by omega
    have HX := Lib.hid hexit
    have HNO := Lib.hid hno
    have HBB := Lib.hid hB
    have HMM := Lib.hid hM
    rw [roundsIn_succ]
    clear hexit hret ht1 ht2 hd hno hB hM
    conv => arg 4; whnf
    gi_wp2
    exact HX.out _ _ _ _ _ _ _ _ _ _ _ _ _ _ _ _ _ _ _ _ _ _ _ _ _ _ _ _ _ _ _ _ _ _ _ _ _ rs W HNO.out HBB.out HMM.out
  | succ k ih =>
    intro i hk v3 v4 v5 v6 v7 v8 v9 v10 v11 v12 v13 v14 v15 v16 v17 v21 v22 v23 v24 v25 v26 v27 v28 v29 v30 v31 v32 v33 v34 v35 v36 v37 v38 v39 v40 v41 v42 rs W hB hM hno
    have up := fun {p : Addr} {v : Value} (h : W0.cell? p = some v) => (hB.cell (World.block_lt_of_cell? W0 p h)).trans h
    have hi6 : i < 6 := by omega
    rw [roundsIn_succ]
    have hfr : W.frozen? ⟨B + 1, 0, none⟩ = false := by
      have h0 : W.heap[B + 1]? = W0.heap[B + 1]? := hB.block (B + 1) (by omega)
      have := hrf
      unfold World.frozen? at this ⊢
      dsimp only at this ⊢
      rw [h0]
      exact this
    refine round_one F n h42 h50 hro hn c ((i + 1 : Nat) : Int) (lT i) (lT_len i) B T (B + 2 + i) i hi6 hBT v3 v4 v5 v6 v7 v8 v9 v10 v11 v12 v13 v14 v15 v16 v17 v21 v22 v23 v24 v25 v26 v27 v28 v29 v30 v31 v32 v33 v34 v35 v36 v37 v38 v39 v40 v41 v42 (rs.map mk) W _ (up hc) (up hr) hfr (up (ht1 i hi6)) (up (ht2 i hi6)) ((hB.block _ (blk_lt (hd i hi6))).trans (hd i hi6)) ?_ ?_
    · intro y3 y4 y5 y6 y7 y8 y9 y10 y11 y12 y13 y14 y15 y16 y17 y21 y22 y23 y24 y25 y26 y27 y28 y29 y30 y31 y32 y33 y34 y35 y36 y37 y38 y39 y40 y41 y42 D W' hD hin hb hK
      exact ih (i + 1) (by omega) y3 y4 y5 y6 y7 y8 y9 y10 y11 y12 y13 y14 y15 y16 y17 y21 y22 y23 y24 y25 y26 y27 y28 y29 y30 y31 y32 y33 y34 y35 y36 y37 y38 y39 y40 y41 y42 (D :: rs) W' (hB.trans (hb.mono hB.size)) (hM.cons hB.size hD hK (fun r _ hr => hb.block r hr)) (fun j hj => by
        rcases Nat.lt_or_ge j i with h | h
        · exact hno j h
        · obtain rfl : j = i := by omega
          exact hin)
    · intro y3 y4 y5 y6 y7 y8 y9 y10 y11 y12 y13 y14 y15 y16 y17 y21 y22 y23 y24 y25 y26 y27 y28 y29 y30 y31 y32 y33 y34 y35 y36 y37 y38 y39 y40 y41 y42 D W' hD hin hkx hcell hK
      exact hret i y3 y4 y5 y6 y7 y8 y9 y10 y11 y12 y13 y14 y15 y16 y17 y21 y22 y23 y24 y25 y26 y27 y28 y29 y30 y31 y32 y33 y34 y35 y36 y37 y38 y39 y40 y41 y42 (D :: rs) W' hi6 hno hin ⟨hkx.os.trans hB.os, hkx.tape.trans hB.tape, hkx.output.trans hB.output, Nat.le_trans hB.size hkx.size, fun q hq hqe => (hkx.block q (by have := hB.size; omega) hqe).trans (hB.block q hq)⟩ hcell
        (hM.cons hB.size hD hK (fun r hr1 hr => hkx.block r hr (by omega)))
/-- Worlds with objects laid behind. -/
def allocs : World → List Obj → World
  | w, [] => w
  | w, o :: os => allocs (w.alloc o) os
theorem allocs_below : ∀ (os : List Obj) (w : World), Below w.heap.size w (allocs w os)
  | [], w => Below.refl _ _
  | o :: os, w => ((Below.refl _ w).alloc (Nat.le_refl _) o).trans ((allocs_below os (w.alloc o)).mono (by simp))
theorem allocs_size : ∀ (os : List Obj) (w : World), (allocs w os).heap.size = w.heap.size + os.length
  | [], w => rfl
  | o :: os, w => by rw [allocs, allocs_size os]; simp; omega
theorem allocs_at : ∀ (os : List Obj) (w : World) (j : Nat) (o : Obj), os[j]? = some o → (allocs w os).heap[w.heap.size + j]? = some o
  | [], w, j, o, h => by simp at h
  | a :: os, w, 0, o, h => by
    obtain rfl : a = o := by simpa using h
    have := (allocs_below os (w.alloc a)).block w.heap.size (by simp)
    rw [allocs, Nat.add_zero, this]
    exact heap_alloc_new w a
  | a :: os, w, j + 1, o, h => by
    have := allocs_at os (w.alloc a) j o (by simpa using h)
    rw [allocs, show w.heap.size + (j + 1) = (w.alloc a).heap.size + j by simp; omega]
    exact this
theorem clsR_none (c : Int) (h : ∀ j, j < 6 → inR c (lT j) = false) : clsR c = 0 := by
  have h0 := h 0 (by decide)
  have h1 := h 1 (by decide)
  have h2 := h 2 (by decide)
  have h3 := h 3 (by decide)
  have h4 := h 4 (by decide)
  have h5 := h 5 (by decide)
  show (if inR c (lT 0) then (1 : Int) else if inR c (lT 1) then 2 else if inR c (lT 2) then 3 else if inR c (lT 3) then 4 else if inR c (lT 4) then 5 else if inR c (lT 5) then 6 else 0) = _
  rw [h0, h1, h2, h3, h4, h5]
  rfl
theorem clsR_some (c : Int) (i : Nat) (hi : i < 6) (h : ∀ j, j < i → inR c (lT j) = false) (hin : inR c (lT i) = true) : clsR c = ((i + 1 : Nat) : Int) := by
  have hh : i = 0 ∨ i = 1 ∨ i = 2 ∨ i = 3 ∨ i = 4 ∨ i = 5 := by omega
  rcases hh with rfl | rfl | rfl | rfl | rfl | rfl
  · show (if inR c (lT 0) then (1 : Int) else if inR c (lT 1) then 2 else if inR c (lT 2) then 3 else if inR c (lT 3) then 4 else if inR c (lT 4) then 5 else if inR c (lT 5) then 6 else 0) = _; rw [hin]; rfl
  · have h0 := h 0 (by decide)
    show (if inR c (lT 0) then (1 : Int) else if inR c (lT 1) then 2 else if inR c (lT 2) then 3 else if inR c (lT 3) then 4 else if inR c (lT 4) then 5 else if inR c (lT 5) then 6 else 0) = _; rw [h0, hin]; rfl
  · have h0 := h 0 (by decide)
    have h1 := h 1 (by decide)
    show (if inR c (lT 0) then (1 : Int) else if inR c (lT 1) then 2 else if inR c (lT 2) then 3 else if inR c (lT 3) then 4 else if inR c (lT 4) then 5 else if inR c (lT 5) then 6 else 0) = _; rw [h0, h1, hin]; rfl
  · have h0 := h 0 (by decide)
    have h1 := h 1 (by decide)
    have h2 := h 2 (by decide)
    show (if inR c (lT 0) then (1 : Int) else if inR c (lT 1) then 2 else if inR c (lT 2) then 3 else if inR c (lT 3) then 4 else if inR c (lT 4) then 5 else if inR c (lT 5) then 6 else 0) = _; rw [h0, h1, h2, hin]; rfl
  · have h0 := h 0 (by decide)
    have h1 := h 1 (by decide)
    have h2 := h 2 (by decide)
    have h3 := h 3 (by decide)
    show (if inR c (lT 0) then (1 : Int) else if inR c (lT 1) then 2 else if inR c (lT 2) then 3 else if inR c (lT 3) then 4 else if inR c (lT 4) then 5 else if inR c (lT 5) then 6 else 0) = _; rw [h0, h1, h2, h3, hin]; rfl
  · have h0 := h 0 (by decide)
    have h1 := h 1 (by decide)
    have h2 := h 2 (by decide)
    have h3 := h 3 (by decide)
    have h4 := h 4 (by decide)
    show (if inR c (lT 0) then (1 : Int) else if inR c (lT 1) then 2 else if inR c (lT 2) then 3 else if inR c (lT 3) then 4 else if inR c (lT 4) then 5 else if inR c (lT 5) then 6 else 0) = _; rw [h0, h1, h2, h3, h4, hin]; rfl
def clsO (c : Int) (B : Nat) : List Obj := [.cells #[.int .i64 c] 3 (0, 0), .cells #[.int .i64 0] 3 (0, 0), .cells (flat (lT 0)).toArray 3 (0, 0), .cells (flat (lT 1)).toArray 3 (0, 0), .cells (flat (lT 2)).toArray 3 (0, 0), .cells (flat (lT 3)).toArray 3 (0, 0), .cells (flat (lT 4)).toArray 3 (0, 0), .cells (flat (lT 5)).toArray 3 (0, 0),
  .cells #[.int .i64 1, .slice (some ⟨B + 2, 0, none⟩) 4 4, .int .i64 2, .slice (some ⟨B + 3, 0, none⟩) 20 20, .int .i64 3, .slice (some ⟨B + 4, 0, none⟩) 14 14, .int .i64 4, .slice (some ⟨B + 5, 0, none⟩) 8 8, .int .i64 5, .slice (some ⟨B + 6, 0, none⟩) 12 12, .int .i64 6, .slice (some ⟨B + 7, 0, none⟩) 4 4] 74 (0, 0)]
set_option maxRecDepth 100000 in
set_option maxHeartbeats 2000000 in
theorem class_in (F : Fence) (n : Nat) (h34 : F.fn 34) (h42 : F.fn 42) (h50 : F.fn 50) (hro : F.round = none) (hn : 3 ≤ n) (c : Int) (w : World) :
    CallsIn F n Tryd.prog 34 #[.int .i64 c] w fun e w' => e = .returned (.int .i64 (clsR c)) ∧ Below w.heap.size w w' := by
  have h1 : 1 ≤ n := by omega
  refine callsIn_of_wp_marks Tryd.func34 rfl h34 ?_ hro
  simp only [Tryd.ntmps34, List.size_toArray, List.length_cons, List.length_nil, Nat.reduceAdd, Nat.reduceSub, Array.replicate_succ, Array.replicate_zero, List.push_toArray, List.append_toArray, List.nil_append, List.cons_append]
  gi_wp2
  have hB0 := allocs_below (clsO c w.heap.size) w
  have hat := allocs_at (clsO c w.heap.size) w
  have hsz := allocs_size (clsO c w.heap.size) w
  have hsz' : (allocs w (clsO c w.heap.size)).heap.size = w.heap.size + 9 := hsz
  refine wpIn_loop_rounds 7 ?_
  refine rounds_all F n h42 h50 hro hn c w.heap.size (w.heap.size + 8) (by omega) (allocs w (clsO c w.heap.size)) _ (by omega)
    (nad_cells (hat 0 _ rfl) 0 _ rfl) (nad_cells (hat 1 _ rfl) 0 _ rfl) (Joins.unfrozen_of_block (hat 1 _ rfl) 0)
    (fun i hi => nad_cells (hat 8 _ rfl) _ _ (by have : i = 0 ∨ i = 1 ∨ i = 2 ∨ i = 3 ∨ i = 4 ∨ i = 5 := by omega
                                                 rcases this with rfl | rfl | rfl | rfl | rfl | rfl <;> rfl))
    (fun i hi => nad_cells (hat 8 _ rfl) _ _ (by have : i = 0 ∨ i = 1 ∨ i = 2 ∨ i = 3 ∨ i = 4 ∨ i = 5 := by omega
                                                 rcases this with rfl | rfl | rfl | rfl | rfl | rfl <;> rfl))
    (fun i hi => by
      have : i = 0 ∨ i = 1 ∨ i = 2 ∨ i = 3 ∨ i = 4 ∨ i = 5 := by omega
      rcases this with rfl | rfl | rfl | rfl | rfl | rfl
      · exact hat 2 _ rfl
      · exact hat 3 _ rfl
      · exact hat 4 _ rfl
      · exact hat 5 _ rfl
      · exact hat 6 _ rfl
      · exact hat 7 _ rfl)
    ?hexit ?hret 6 0 rfl _ _ _ _ _ _ _ _ _ _ _ _ _ _ _ _ _ _ _ _ _ _ _ _ _ _ _ _ _ _ _ _ _ _ _ _ _ [] (allocs w (clsO c w.heap.size)) (Below.refl _ _) ⟨List.nodup_nil, fun r hr => by cases hr⟩ (fun j hj => by omega)
  case hexit =>
    intro v3 v4 v5 v6 v7 v8 v9 v10 v11 v12 v13 v14 v15 v16 v17 v21 v22 v23 v24 v25 v26 v27 v28 v29 v30 v31 v32 v33 v34 v35 v36 v37 v38 v39 v40 v41 v42 rs W hno hB hM
    have hlt : w.heap.size + 1 < (allocs w (clsO c w.heap.size)).heap.size := by omega
    have cR : W.cell? ⟨w.heap.size + 1, 0, none⟩ = some (.int .i64 0) := (hB.cell hlt).trans (nad_cells (hat 1 _ rfl) 0 _ rfl)
    have hbk : W.heap[w.heap.size + 1]? = some (.cells #[.int .i64 0] 3 (0, 0)) := (hB.block _ hlt).trans (hat 1 _ rfl)
    have fR : W.frozen? ⟨w.heap.size + 1, 0, none⟩ = false := Joins.unfrozen_of_block hbk 0
    have HM := Lib.hid hM
    have HB := Lib.hid (hB0.trans (hB.mono hB0.size))
    have HC : Hid (clsR c = 0) := Lib.hid (clsR_none c hno)
    have HS9 := Lib.hid hsz'
    clear hB hM hno hlt hbk hat hsz hsz' hB0
    gi_wp2
    refine leaves_marks (B := w.heap.size + 9) rs _ ⟨HM.out.nodup, fun r hr => ?_⟩ (fun W' hb hcl => ?_)
    · obtain ⟨h2, h3⟩ := HM.out.at_ r hr
      have h9 := HS9.out
      exact ⟨by omega, (Below.heap_setCell _ _ _ _ (by dsimp only; omega)).trans h3⟩
    · have hc5 := hcl _ _ (World.cell?_setCell_same' W ⟨w.heap.size + 1, 0, none⟩ (.int .i64 0) (by rw [cR]; rfl))
      refine ⟨.int .i64 0, ?_, by rw [HC.out], (HB.out.setCell (p := ⟨w.heap.size + 1, 0, none⟩) (by dsimp only; omega) _).trans (hb.mono (by omega))⟩
      simp [results, Tryd.f34, go_sem, hc5]
  case hret =>
    intro i v3 v4 v5 v6 v7 v8 v9 v10 v11 v12 v13 v14 v15 v16 v17 v21 v22 v23 v24 v25 v26 v27 v28 v29 v30 v31 v32 v33 v34 v35 v36 v37 v38 v39 v40 v41 v42 rs W hi hno hin hkx hcell hM
    have HC : Hid (clsR c = ((i + 1 : Nat) : Int)) := Lib.hid (clsR_some c i hi hno hin)
    have hBw : Below w.heap.size w W := hB0.trans (hkx.below (by omega) (by omega))
    refine leaves_marks (B := w.heap.size) rs W ⟨hM.nodup, fun r hr => ⟨by have := (hM.at_ r hr).1; omega, (hM.at_ r hr).2⟩⟩ (fun W' hb hcl => ?_)
    have hc5 := hcl _ _ hcell
    refine ⟨.int .i64 ((i + 1 : Nat) : Int), ?_, by rw [HC.out], hBw.trans hb⟩
    clear hat hsz hsz' hB0 hkx hM
    simp [results, Tryd.f34, go_sem, hc5]
theorem class_calls' (c : Int) (w : World) : Calls Tryd.prog 34 #[.int .i64 c] w fun e w' => e = .returned (.int .i64 (clsR c)) ∧ Below w.heap.size w w' :=
  (callsIn_wide (n := 3)).1 (class_in _ 3 trivial trivial trivial rfl (by decide) c w)
end Go.Proofs.YtaoepeiadhdbaaaDoor.CH
namespace Go.Proofs.YtaoepeiadhdbaaaDoor.ND
open Go.RowKit
theorem class_calls (c : Int) (w : World) : Calls Tryd.prog 34 #[.int .i64 c] w fun e w' => e = .returned (.int .i64 (clsR c)) ∧ Below w.heap.size w w' := CH.class_calls' c w
end Go.Proofs.YtaoepeiadhdbaaaDoor.ND
