/- A row of tables that comes in: its tables written out; what Few answers. No condition. -/
import Derived.Test.YtgchajlfopmcjaaPx0
import Derived.Test.YtgchajlfopmcjaaPutGet
import Derived.Test.YtgchajlfopmcjaaPx2
import Derived.ProofKit
import Derived.OpenShut
import Derived.ChangeOld
import Derived.Deep.Slices
namespace Go.Proofs.Ytgchajlfopmcjaa.P
open Go.RowKit Go.ChangeShapes Go.WideShapes Go.Deep Go.Proofs.YtgchajlfopmcjaaW.PrintWords Go.Proofs.YtgchajlfopmcjaaW.PrintLast Go.Proofs.YtgchajlfopmcjaaW.PrintMore
set_option linter.unusedVariables false
set_option linter.unusedSimpArgs false
set_option maxRecDepth 100000
/-- A field's cells read at its type. -/
theorem trodField {H : Type} {enc : TypeId × Value → H} {P : Program} {w : World} {base : Nat} {spare : Nat → Bool} {held : Bool} {t : TypeId} {fs : Array Field} {fuel : Nat} {cs : List Value} {x : DataW H × List MemPlace} (ht : P.underlying t = some (.struct fs)) (h : DataW.trod enc P w base spare held fuel t cs = some x)
    (i : Nat) (tt : TypeId) (o n : Nat) (hf : (fs[i]?).map (fun f => (f.type, f.offset)) = some (tt, o)) (hn : P.cellsOf tt = n) : ∃ m y, DataW.trod enc P w base spare held m tt ((cs.drop o).take n) = some y := by
  obtain ⟨xs, m, _, _, _, hxl, hff⟩ := DataW.trod_struct ht h
  obtain ⟨f, he, hp⟩ := Option.map_eq_some_iff.1 hf
  simp only [Prod.mk.injEq] at hp
  obtain ⟨rfl, rfl⟩ := hp
  have hi : i < xs.length := by
    rw [hxl]
    exact (Array.getElem?_eq_some_iff.1 he).1
  have := hff i f he
  rw [hn, List.getElem?_eq_getElem hi] at this
  exact ⟨m, _, this⟩
theorem table_cells {H : Type} {enc : TypeId × Value → H} {W : World} {base : Nat} {spare : Nat → Bool} {held : Bool} {n : Nat} {cs : List Value} {x : DataW H × List MemPlace} (hl : cs.length = 2) (h : DataW.trod enc Try.prog W base spare held n 33 cs = some x) : ∃ y : S33, cs = [.string y.f0, .string y.f1] := by
  obtain ⟨_, _, u0⟩ := trodField Try.underlying33 h 0 9 0 1 rfl (by kernel_rfl)
  obtain ⟨_, _, u1⟩ := trodField Try.underlying33 h 1 9 1 1 rfl (by kernel_rfl)
  obtain ⟨s0, e0, _⟩ := DataW.trod_string Try.underlying9 u0
  obtain ⟨s1, e1, _⟩ := DataW.trod_string Try.underlying9 u1
  match cs, hl with
  | [a, b], _ =>
    simp only [List.drop, List.take, List.cons.injEq, and_true] at e0 e1
    exact ⟨⟨s0, s1⟩, by rw [e0, e1]⟩
theorem tables_open {H : Type} {enc : TypeId × Value → H} {W : World} {base b0 : Nat} {held : Bool} {spare : Nat → Bool} {v : Value} {d : DataW H} {p : List MemPlace} (hv : Value.okWide Try.prog W .any b0 22 v) (h : DataW.Trod enc Try.prog W base spare held 22 v d p) :
    ∃ (A : Option Addr) (cp : Nat) (l : List S33), v = .slice A l.length cp ∧ Kd.C k33 W A l.length l ∧ l.length ≤ cp ∧ l.length ≤ maxLen := by
  obtain ⟨a0, ln, cp, rfl⟩ := okWide_slice Try.underlying22 hv
  obtain ⟨fuel, hf⟩ := h
  rcases open_slice Try.underlying22 hf with ⟨hcs, _⟩ | ⟨a, len, cap, m, n, D, Pl, hcs, _, hl, hm, hmm, _, hi⟩
  · have e : Value.slice a0 ln cp = .slice none 0 0 := by simpa [Value.cells] using hcs
    cases e
    exact ⟨none, 0, [], rfl, Kd.C_nil _ _, Nat.le_refl _, by simp⟩
  · have e : Value.slice a0 ln cp = .slice (some a) len cap := by simpa [Value.cells] using hcs
    cases e
    have hlm : ln ≤ m := by rw [hmm]; split <;> omega
    have h2 : Try.prog.cellsOf 33 = 2 := by kernel_rfl
    have each : ∀ i, i < ln → ∃ y : S33, W.cell? (a.add (i * 2)) = some (.string y.f0) ∧ W.cell? (a.add (i * 2 + 1)) = some (.string y.f1) := fun i hi2 => by
      obtain ⟨cs', hc, ht'⟩ := hi i (by omega)
      rw [h2] at hc
      obtain ⟨_, hcl, hat⟩ := World.cells?_some hc
      obtain ⟨y, rfl⟩ := table_cells hcl ht'
      have c0 := hat 0 (by omega)
      have c1 := hat 1 (by omega)
      rw [Go.Deep.add_add] at c0 c1
      exact ⟨y, c0, c1⟩
    have : ∃ Y : Nat → S33, ∀ i, i < ln → W.cell? (a.add (i * 2)) = some (.string (Y i).f0) ∧ W.cell? (a.add (i * 2 + 1)) = some (.string (Y i).f1) :=
      ⟨fun i => if h : i < ln then Classical.choose (each i h) else z33, fun i h => by simp only [dif_pos h]; exact Classical.choose_spec (each i h)⟩
    obtain ⟨Y, hY⟩ := this
    have hmx : ln ≤ 9223372036854775807 := Nat.le_trans hl hm
    have hlen : ((List.range ln).map Y).length = ln := by simp
    refine ⟨some a, cp, (List.range ln).map Y, by rw [hlen], ?_, by rw [hlen]; exact hl, by rw [hlen]; exact Nat.le_trans hl hm⟩
    rw [hlen]
    refine ⟨hlen, hmx, fun _ => ⟨a, rfl, fun j q hj => ?_⟩⟩
    have hjl : j < ln := by have := (List.getElem?_eq_some_iff.1 hj).1; rwa [hlen] at this
    have hq : Y j = q := by simpa [hjl] using hj
    subst hq
    obtain ⟨y0, y1⟩ := hY j hjl
    refine ⟨[.string (Y j).f0, .string (Y j).f1], rfl, k33_mk W (Y j), fun i u hu => ?_⟩
    match i, hu with
    | 0, hu => cases hu; exact y0
    | 1, hu => cases hu; exact y1
    | i + 2, hu => simp at hu
end Go.Proofs.Ytgchajlfopmcjaa.P
namespace Go.Proofs.Ytgchajlfopmcjaa.P
open Go.Shelf Go.RowKit Go.Proofs.YtgchajlfopmcjaaW.PrintWords Go.Proofs.YtgchajlfopmcjaaW.PrintLast Go.Proofs.YtgchajlfopmcjaaW.PrintMore Go.Proofs.Ytgchajlfopmcjaa.BN
set_option linter.unusedVariables false
set_option linter.unusedSimpArgs false
theorem rd_at (l : List S33) (i : Nat) : rd_T33 l (i : Int) = tabAt l i := by unfold rd_T33 tabAt; rw [Int.toNat_natCast]
theorem tabAt_get (l : List S33) (j : Nat) (h : j < l.length) : tabAt l j = l[j] := by unfold tabAt; rw [List.getD_eq_getElem?_getD, List.getElem?_eq_getElem h]; rfl
def fewT (l : List S33) : Prop := l.length ≤ 70 ∧ ∀ x ∈ l, x.f1.size ≤ 2000 ∧ x.f0.size ≤ 20
theorem few_small (l : List S33) (hl : l.length < 4611686018427387904) : ∃ b, Ev (fun k => vinculumref04_Few.f k l) b ∧ (b = true → fewT l) := by
  have key : ∀ (d i : Nat), i ≤ l.length → l.length - i = d → (∀ j, j < i → (tabAt l j).f1.size ≤ 2000 ∧ (tabAt l j).f0.size ≤ 20) → ∃ b, Ev (fun k => vinculumref04_Few.l0 k l (i : Int)) b ∧ (b = true → fewT l) := by
    intro d
    induction d with
    | zero =>
      intro i hi hd hall
      refine ⟨decide ((l.length : Int) ≤ 70), ?_, fun hb => ⟨by have := of_decide_eq_true hb; omega, fun x hx => ?_⟩⟩
      · refine Ev.step (f := fun k => vinculumref04_Few.j1 k l (i : Int) false) (fun k => by rw [vinculumref04_Few.l0, if_neg (by omega)]) ?_
        exact Ev.step (f := fun k => some (decide ((l.length : Int) ≤ 70))) (fun k => by rw [vinculumref04_Few.j1, if_neg (by decide)]) (Ev.now _)
      · obtain ⟨j, hj, rfl⟩ := List.getElem_of_mem hx
        have := hall j (by omega)
        rw [tabAt_get l j hj] at this
        exact this
    | succ d ih =>
      intro i hi hd hall
      by_cases h70 : l.length ≤ 70
      · have start : ∀ r, Ev (fun k => vinculumref04_Few.j1 k l (i : Int) true) r → Ev (fun k => vinculumref04_Few.l0 k l (i : Int)) r := fun r hr =>
          Ev.step (f := fun k => vinculumref04_Few.j1 k l (i : Int) true) (fun k => by rw [vinculumref04_Few.l0, if_pos (by omega), decide_eq_true (show ((l.length : Int) ≤ 70) by omega)]) hr
        by_cases h1 : (tabAt l i).f1.size > 2000
        · refine ⟨false, start _ (Ev.step (f := fun k => some false) (fun k => ?_) (Ev.now _)), fun h => by cases h⟩
          rw [vinculumref04_Few.j1, if_pos rfl, if_pos (by omega), if_pos (by omega), rd_at, if_pos (by omega)]
        · by_cases h2 : (tabAt l i).f0.size > 20
          · refine ⟨false, start _ (Ev.step (f := fun k => some false) (fun k => ?_) (Ev.now _)), fun h => by cases h⟩
            rw [vinculumref04_Few.j1, if_pos rfl, if_pos (by omega), if_pos (by omega), rd_at, if_neg (by omega), if_pos (by omega)]
          · obtain ⟨b, hb, hb2⟩ := ih (i + 1) (by omega) (by omega) (fun j hj => by
              rcases Nat.lt_or_ge j i with h | h
              · exact hall j h
              · rw [show j = i by omega]; omega)
            refine ⟨b, start _ (Ev.step (f := fun k => vinculumref04_Few.l0 k l ((i + 1 : Nat) : Int)) (fun k => ?_) hb), hb2⟩
            rw [vinculumref04_Few.j1, if_pos rfl, if_pos (by omega), if_pos (by omega), rd_at, if_neg (by omega), if_neg (by omega), wrap_succ i (by omega)]
      · refine ⟨false, ?_, fun h => by cases h⟩
        refine Ev.step (f := fun k => vinculumref04_Few.j1 k l (i : Int) false) (fun k => by rw [vinculumref04_Few.l0, if_pos (by omega), decide_eq_false (show ¬ ((l.length : Int) ≤ 70) by omega)]) ?_
        exact Ev.step (f := fun k => some false) (fun k => by rw [vinculumref04_Few.j1, if_neg (by decide), decide_eq_false (show ¬ ((l.length : Int) ≤ 70) by omega)]) (Ev.now _)
  exact key l.length 0 (by omega) (by omega) (fun j hj => absurd hj (Nat.not_lt_zero _))
theorem few_ev (l : List S33) : ∃ b, Ev (fun k => vinculumref04_Few.f k l) b ∧ (b = true → fewT l) := by
  by_cases h : l.length < 4611686018427387904
  · exact few_small l h
  · refine ⟨false, ?_, fun h => by cases h⟩
    refine Ev.step (f := fun k => vinculumref04_Few.j1 k l 0 false) (fun k => by show vinculumref04_Few.l0 (k + 1) l 0 = _; rw [vinculumref04_Few.l0, if_pos (by omega), decide_eq_false (show ¬ ((l.length : Int) ≤ 70) by omega)]) ?_
    exact Ev.step (f := fun k => some false) (fun k => by rw [vinculumref04_Few.j1, if_neg (by decide), decide_eq_false (show ¬ ((l.length : Int) ≤ 70) by omega)]) (Ev.now _)
theorem few_put {l : List S33} (v : Int) (h : fewT l) : sfnt_Put.f v l = some (putS v l) := by
  unfold sfnt_Put.f
  rw [if_pos ⟨by have := h.1; omega, fun x hx => by have := h.2 x hx; omega⟩]
theorem few_total {v : Int} {l : List S33} (h : fewT l) : verB v = true → rightT l = true → ∃ s, putS v l = (s, 0) := fun h1 h2 => by
  have hz := sizeTo_bound l 2000 (fun x hx => (h.2 x hx).1) l.length (Nat.le_refl _)
  have hz2 : l.length * (2000 + 3) ≤ 70 * 2003 := Nat.mul_le_mul_right _ h.1
  have := h.1
  exact ⟨_, by unfold putS; rw [if_neg (by rw [h1, h2]; simp), if_neg (by omega)]⟩
theorem get_f (s : ByteArray) (h : s.size ≤ 140737488351232) : sfnt_Get.f s = some (getS s) := by unfold sfnt_Get.f; rw [if_pos h]
end Go.Proofs.Ytgchajlfopmcjaa.P
