/- A row of tables that comes in: its tables written out. No condition. -/
import Derived.Test.YtgchajlfopmcjaaPx0
import Derived.ProofKit
import Derived.OpenShut
import Derived.ChangeOld
import Derived.Deep.Slices
namespace Go.Proofs.Ytgchajlfopmcjaa.P
open Go.RowKit Go.ChangeShapes Go.WideShapes Go.Deep Go.Proofs.YtgchajlfopmcjaaW.PrintWords Go.Proofs.YtgchajlfopmcjaaW.PrintLast Go.Proofs.YtgchajlfopmcjaaW.PrintMore
set_option linter.unusedVariables false
set_option linter.unusedSimpArgs false
set_option maxRecDepth 100000
/-- A field's cells read at its type. -/
theorem trodField {H : Type} {enc : TypeId × Value → H} {P : Program} {w : World} {base : Nat} {spare : Nat → Bool} {held : Bool} {t : TypeId} {fs : Array Field} {fuel : Nat} {cs : List Value} {x : DataW H × List MemPlace} (ht : P.underlying t = some (.struct fs)) (h : DataW.trod enc P w base spare held fuel t cs = some x)
    (i : Nat) (tt : TypeId) (o n : Nat) (hf : (fs[i]?).map (fun f => (f.type, f.offset)) = some (tt, o)) (hn : P.cellsOf tt = n) : ∃ m y, DataW.trod enc P w base spare held m tt ((cs.drop o).take n) = some y := by
  obtain ⟨xs, m, _, _, _, hxl, hff⟩ := DataW.trod_struct ht h
  obtain ⟨f, he, hp⟩ := Option.map_eq_some_iff.1 hf
  simp only [Prod.mk.injEq] at hp
  obtain ⟨rfl, rfl⟩ := hp
  have hi : i < xs.length := by
    rw [hxl]
    exact (Array.getElem?_eq_some_iff.1 he).1
  have := hff i f he
  rw [hn, List.getElem?_eq_getElem hi] at this
  exact ⟨m, _, this⟩
theorem table_cells {H : Type} {enc : TypeId × Value → H} {W : World} {base : Nat} {spare : Nat → Bool} {held : Bool} {n : Nat} {cs : List Value} {x : DataW H × List MemPlace} (hl : cs.length = 2) (h : DataW.trod enc Try.prog W base spare held n 33 cs = some x) : ∃ y : S33, cs = [.string y.f0, .string y.f1] := by
  obtain ⟨_, _, u0⟩ := trodField Try.underlying33 h 0 9 0 1 rfl (by kernel_rfl)
  obtain ⟨_, _, u1⟩ := trodField Try.underlying33 h 1 9 1 1 rfl (by kernel_rfl)
  obtain ⟨s0, e0, _⟩ := DataW.trod_string Try.underlying9 u0
  obtain ⟨s1, e1, _⟩ := DataW.trod_string Try.underlying9 u1
  match cs, hl with
  | [a, b], _ =>
    simp only [List.drop, List.take, List.cons.injEq, and_true] at e0 e1
    exact ⟨⟨s0, s1⟩, by rw [e0, e1]⟩
theorem tables_open {H : Type} {enc : TypeId × Value → H} {W : World} {base b0 : Nat} {held : Bool} {spare : Nat → Bool} {v : Value} {d : DataW H} {p : List MemPlace} (hv : Value.okWide Try.prog W .any b0 22 v) (h : DataW.Trod enc Try.prog W base spare held 22 v d p) :
    ∃ (A : Option Addr) (cp : Nat) (l : List S33), v = .slice A l.length cp ∧ Kd.C k33 W A l.length l ∧ l.length ≤ cp ∧ l.length ≤ maxLen := by
  obtain ⟨a0, ln, cp, rfl⟩ := okWide_slice Try.underlying22 hv
  obtain ⟨fuel, hf⟩ := h
  rcases open_slice Try.underlying22 hf with ⟨hcs, _⟩ | ⟨a, len, cap, m, n, D, Pl, hcs, _, hl, hm, hmm, _, hi⟩
  · have e : Value.slice a0 ln cp = .slice none 0 0 := by simpa [Value.cells] using hcs
    cases e
    exact ⟨none, 0, [], rfl, Kd.C_nil _ _, Nat.le_refl _, by simp⟩
  · have e : Value.slice a0 ln cp = .slice (some a) len cap := by simpa [Value.cells] using hcs
    cases e
    have hlm : ln ≤ m := by rw [hmm]; split <;> omega
    have h2 : Try.prog.cellsOf 33 = 2 := by kernel_rfl
    have each : ∀ i, i < ln → ∃ y : S33, W.cell? (a.add (i * 2)) = some (.string y.f0) ∧ W.cell? (a.add (i * 2 + 1)) = some (.string y.f1) := fun i hi2 => by
      obtain ⟨cs', hc, ht'⟩ := hi i (by omega)
      rw [h2] at hc
      obtain ⟨_, hcl, hat⟩ := World.cells?_some hc
      obtain ⟨y, rfl⟩ := table_cells hcl ht'
      have c0 := hat 0 (by omega)
      have c1 := hat 1 (by omega)
      rw [Go.Deep.add_add] at c0 c1
      exact ⟨y, c0, c1⟩
    have : ∃ Y : Nat → S33, ∀ i, i < ln → W.cell? (a.add (i * 2)) = some (.string (Y i).f0) ∧ W.cell? (a.add (i * 2 + 1)) = some (.string (Y i).f1) :=
      ⟨fun i => if h : i < ln then Classical.choose (each i h) else z33, fun i h => by simp only [dif_pos h]; exact Classical.choose_spec (each i h)⟩
    obtain ⟨Y, hY⟩ := this
    have hmx : ln ≤ 9223372036854775807 := Nat.le_trans hl hm
    have hlen : ((List.range ln).map Y).length = ln := by simp
    refine ⟨some a, cp, (List.range ln).map Y, by rw [hlen], ?_, by rw [hlen]; exact hl, by rw [hlen]; exact Nat.le_trans hl hm⟩
    rw [hlen]
    refine ⟨hlen, hmx, fun _ => ⟨a, rfl, fun j q hj => ?_⟩⟩
    have hjl : j < ln := by have := (List.getElem?_eq_some_iff.1 hj).1; rwa [hlen] at this
    have hq : Y j = q := by simpa [hjl] using hj
    subst hq
    obtain ⟨y0, y1⟩ := hY j hjl
    refine ⟨[.string (Y j).f0, .string (Y j).f1], rfl, k33_mk W (Y j), fun i u hu => ?_⟩
    match i, hu with
    | 0, hu => cases hu; exact y0
    | 1, hu => cases hu; exact y1
    | i + 2, hu => simp at hu
end Go.Proofs.Ytgchajlfopmcjaa.P
